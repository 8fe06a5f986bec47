-- By cprint.py, a program of this work. Lean checks it.
import Derived.Test.YtpfepkkpbampkaaDoorPLanx0
import Derived.Test.YtpfepkkpbampkaaDoorPLanx1
namespace Go.Proofs.YtpfepkkpbampkaaDoor.PLan
open Go.RowKit Go.Proofs.YtpfepkkpbampkaaDoorW.PrintWords Go.Proofs.YtpfepkkpbampkaaDoorW.PrintLast Go.Proofs.YtpfepkkpbampkaaDoorW.PrintMore
set_option linter.unusedVariables false
set_option linter.unusedSimpArgs false

/-! ### order_Order_pair: function 50 -/
def order_Order_pair.j0 : Nat → (List Int) → (List Int) → ByteArray → ByteArray → (List ByteArray) → (List (ByteArray × Int)) → Bool → Option (Int × List ByteArray × (List (ByteArray × Int)) × (List Int))
  | 0, _, _, _, _, _, _, _ => none
  | k + 1, a0_2, a0_3, a1_0, a1_1, l0_0, m0_1, x1516 => if x1516 = true then (some (1, l0_0, m0_1, a0_2)) else ((order_Order_add.f l0_0 m0_1 a0_2 a0_3 a1_0).bind fun bt1528 => (if bt1528.2.1 = true then (if a1_1 = (⟨#[]⟩ : ByteArray) then (some (0, bt1528.2.2.1, bt1528.2.2.2.1, bt1528.2.2.2.2)) else ((order_Order_add.f bt1528.2.2.1 bt1528.2.2.2.1 bt1528.2.2.2.2 a0_3 a1_1).bind fun bt1554 => (if bt1554.2.1 = true then (if 0 ≤ bt1528.1 then (if bt1528.1 < 64 then (if 0 ≤ (IntKind.u64.wrap (bt1554.1)) then ((some (List.set bt1554.2.2.2.2 ((bt1528.1 : Int).toNat) (Go.bits .or .u64 (List.getD bt1554.2.2.2.2 ((bt1528.1 : Int).toNat) 0) (shl .u64 1 (IntKind.u64.wrap (bt1554.1)))) : List Int)).bind fun y1580 => (some (0, bt1554.2.2.1, bt1554.2.2.2.1, y1580))) else (none)) else (none)) else (none)) else (some (8, bt1554.2.2.1, bt1554.2.2.2.1, bt1554.2.2.2.2))))) else (some (8, bt1528.2.2.1, bt1528.2.2.2.1, bt1528.2.2.2.2))))
def order_Order_pair.f (k : Nat) (l0_0 : List ByteArray) (m0_1 : List (ByteArray × Int)) (a0_2 : List Int) (a0_3 : List Int) (a1_0 : ByteArray) (a1_1 : ByteArray) (a1_2 : Int) : Option (Int × List ByteArray × (List (ByteArray × Int)) × (List Int)) := (lex_Ident.f k a1_0).bind fun t1589 => (if t1589 = true then (if a1_1 = (⟨#[]⟩ : ByteArray) then (order_Order_pair.j0 k a0_2 a0_3 a1_0 a1_1 l0_0 m0_1 false) else ((lex_Ident.f k a1_1).bind fun t1597 => (order_Order_pair.j0 k a0_2 a0_3 a1_0 a1_1 l0_0 m0_1 (!t1597)))) else (order_Order_pair.j0 k a0_2 a0_3 a1_0 a1_1 l0_0 m0_1 true))

set_option maxHeartbeats 2000000 in
set_option maxRecDepth 100000 in
theorem order_Order_pair.calls (k : Nat) (g0 : Nat) (A0_0 : Option Addr) (c0_0 : Nat) (l0_0 : List ByteArray) (b0_1 : Nat) (m0_1 : List (ByteArray × Int)) (a0_2 : List Int) (a0_3 : List Int) (a1_0 : ByteArray) (a1_1 : ByteArray) (a1_2 : Int) (r1 : Int) (r2 : List ByteArray) (r3 : List (ByteArray × Int)) (r4 : List Int) (c : Nat → Nat) (w : World) (hc : ∀ k, c k < 10) (HP0 : Bx c 1 w g0 81 ([.slice A0_0 l0_0.length c0_0, .map (some b0_1)] ++ (List.map (Value.int .u64) a0_2 ++ (List.map (Value.int .u64) a0_3)))) (HP0_0 : Own c 2 w Kd.string 9 (.slice A0_0 l0_0.length c0_0) l0_0) (HCP0_0 : l0_0.length ≤ c0_0) (HP0_1 : Mp Value.string (Value.int .i64) c 3 w b0_1 m0_1) (HL0_2 : a0_2.length = 64) (HL0_3 : a0_3.length = 64) (H : order_Order_pair.f k l0_0 m0_1 a0_2 a0_3 a1_0 a1_1 a1_2 = some (r1, r2, r3, r4)) :
    Calls Tryd.prog 50 #[.pointer (some ⟨g0, 0, none⟩), .agg #[.string a1_0, .string a1_1, .int .i64 a1_2]] w fun e w' => ∃ (c' : Nat → Nat) (A_r2 : Option Addr) (c_r2 : Nat) (b_r3 : Nat), e = .returned (.int .i64 r1) ∧ Step c w c' w' [1, 2, 3] ∧ Own c' 2 w' Kd.string 9 (.slice A_r2 r2.length c_r2) r2 ∧ r2.length ≤ c_r2 ∧ Mp Value.string (Value.int .i64) c' 3 w' b_r3 r3 ∧ r4.length = 64 ∧ Bx c' 1 w' g0 81 ([.slice A_r2 r2.length c_r2, .map (some b_r3)] ++ (List.map (Value.int .u64) r4 ++ (List.map (Value.int .u64) a0_3))) := by
 unfold order_Order_pair.f at H
 have HS := Step.refl c w [1, 2, 3]
 go_enter Tryd.func50, Tryd.ntmps50
 refine wp_seq_k fun K1446 hK1446 => ?_
 refine wl_region ?_
 refine bx_new (C := c) 53 ([.string a1_0, .string a1_1, .int .i64 a1_2]) 11 rfl rfl (by first | (go_simp; done) | (go_simp; rfl)) ?_
 intro g1447 w1448 C1449 HX1450 hs1451
 replace HP0 := HP0.thru hs1451 rfl
 replace HP0_0 := HP0_0.thru hs1451 rfl
 replace HP0_1 := HP0_1.thru hs1451 rfl
 replace HS := HS.trans hs1451 hc rfl
 (try simp only [Act.put, List.setIfInBounds_toArray, ls0, ls1])
 refine st (.int .i64 0) rfl rfl (xr_assign _ rfl rfl) ?_
 refine wl_end ?_
 (try simp only [Act.put, List.setIfInBounds_toArray, ls0, ls1])
 refine hK1446 _ _ ?_
 (try clear hK1446 K1446)
 refine wp_seq_k fun K1452 hK1452 => ?_
 refine wp_seq_k fun K1497 hK1497 => ?_
 have hj1512 : ∀ (kq1522 : Nat) (C1513 : Nat → Nat) (w1514 : World) (x1516 : Bool) (g1521 : Nat → Value), Step c w C1513 w1514 [1, 2, 3] → kq1522 ≤ k → (Own C1513 2 w1514 Kd.string 9 (.slice A0_0 l0_0.length c0_0) l0_0) → (Mp Value.string (Value.int .i64) C1513 3 w1514 b0_1 m0_1) → (Bx C1513 1 w1514 g0 81 ([.slice A0_0 l0_0.length c0_0, .map (some b0_1)] ++ (List.map (Value.int .u64) a0_2 ++ (List.map (Value.int .u64) a0_3)))) → (Bx C1513 11 w1514 g1447 53 ([.string a1_0, .string a1_1, .int .i64 a1_2])) → order_Order_pair.j0 kq1522 a0_2 a0_3 a1_0 a1_1 l0_0 m0_1 x1516 = some (r1, r2, r3, r4) → K1497 ⟨#[.pointer (some ⟨g0, 0, none⟩), (g1521 1), (g1521 2), .pointer (some ⟨g1447, 0, none⟩), (g1521 4), (g1521 5), (g1521 6), (g1521 7), (g1521 8), (g1521 9), (g1521 10), (g1521 11), (g1521 12), (g1521 13), (g1521 14), (g1521 15), (g1521 16), (g1521 17), (g1521 18), (g1521 19), (g1521 20), (g1521 21), .bool x1516, (g1521 23), (g1521 24), (g1521 25), (g1521 26), (g1521 27), (g1521 28), (g1521 29), (g1521 30), (g1521 31), (g1521 32), (g1521 33), (g1521 34), (g1521 35), (g1521 36), (g1521 37), (g1521 38), (g1521 39), (g1521 40), (g1521 41), (g1521 42), (g1521 43), (g1521 44), (g1521 45), (g1521 46), (g1521 47), (g1521 48), (g1521 49), (g1521 50), (g1521 51), (g1521 52), (g1521 53), (g1521 54), (g1521 55), (g1521 56)], []⟩ w1514 := by
  intro kq1522 C1513 w1514 x1516 g1521 HS1515 hk1523 HJ1517 HJ1518 HJ1519 HJ1520 H
  cases kq1522 with
  | zero => exact absurd H (by simp [order_Order_pair.j0])
  | succ k1524 =>
   simp only [order_Order_pair.j0] at H
   refine hK1497 _ _ ?_
   (try clear hK1497)
   by_cases c1525 : x1516 = true
   ·rw [if_pos c1525] at H
    (try rw [c1525])
    (try simp only [Bool.not_true, Bool.not_false])
    refine wp_cond_true rfl ?_
    refine wp_seq_k fun K1526 hK1526 => ?_
    refine wl_region ?_
    refine st (.int .i64 1) rfl rfl (xr_assign _ rfl rfl) ?_
    refine wl_end ?_
    (try simp only [Act.put, List.setIfInBounds_toArray, ls0, ls1])
    refine hK1526 _ _ ?_
    (try clear hK1526 K1526)
    refine wp_ret ?_
    (try simp only [Exit.inBlock, Exit.then, Exit.noGoto])
    (try simp only [Act.put, List.setIfInBounds_toArray, ls0, ls1])
    simp only [Option.some.injEq, Prod.mk.injEq] at H
    obtain ⟨rfl, rfl, rfl, rfl⟩ := H
    refine bodyPost_ret (results_tmp rfl _ _ _) rfl ?_
    exact ⟨_, A0_0, c0_0, b0_1, rfl, HS1515, HJ1517, HCP0_0, HJ1518, HL0_2, HJ1519⟩
   ·rw [if_neg c1525] at H
    (try rw [(Bool.eq_false_iff.mpr c1525)])
    (try simp only [Bool.not_true, Bool.not_false])
    refine wp_cond_false rfl ?_
    refine wp_skip ?_
    (try simp only [Act.put, List.setIfInBounds_toArray, ls0, ls1])
    refine hK1452 _ _ ?_
    (try clear hK1452 K1452)
    refine wp_seq_k fun K1527 hK1527 => ?_
    refine wl_region ?_
    refine st (.pointer (some ⟨g0, 0, none⟩)) rfl rfl (xr_move _ rfl rfl) ?_
    refine st (.pointer (some ⟨g1447, 0, none⟩)) rfl rfl (xr_fieldAddr _ _ rfl rfl (bx_field2 Tryd.underlying53 rfl rfl (by kernel_rfl))) ?_
    refine st (.string a1_0) rfl rfl (xr_load _ _ rfl rfl (load_cell Tryd.underlying9 rfl (bx_cell (HJ1520).2 0 rfl))) ?_
    obtain ⟨⟨t1528, t1529, t1530, t1531, t1532⟩, A1533, H⟩ := Option.bind_eq_some_iff.mp H
    (try dsimp only at H)
    refine st_call #[.pointer (some ⟨g0, 0, none⟩), .string a1_0] rfl rfl Tryd.func72 (by kernel_rfl) rfl rfl (mp_ rfl) ?_
    refine (order_Order_add.calls g0 A0_0 c0_0 l0_0 b0_1 m0_1 a0_2 a0_3 a1_0 t1528 t1529 t1530 t1531 t1532  (fun z_ => pal [(0, 0), (1, 1), (2, 3), (3, 2)] (C1513 z_)) w1514 (fun _ => pal_lt rfl _) (Bx.arg HJ1519 rfl) (Own.arg HJ1517 rfl rfl) HCP0_0 (Mp.arg HJ1518 rfl) HL0_2 HL0_3 A1533).mono ?_
    rintro _ w1535 ⟨C1536, A1538, cp1539, mb1542, rfl, hs1537, HO1540, HC1541, HM1543, HL1544, HX1545⟩
    refine ⟨_, rfl, ?_⟩
    replace HO1540 := Own.res (U := [(0, 0), (1, 1), (3, 2), (2, 3)]) (j := 2) HO1540 hs1537 (by rfl) (by decide) rfl rfl
    replace HM1543 := Mp.res (U := [(0, 0), (1, 1), (3, 2), (2, 3)]) (j := 3) HM1543 hs1537 (by rfl) (by decide) rfl
    replace HX1545 := Bx.res (U := [(0, 0), (1, 1), (3, 2), (2, 3)]) (j := 1) HX1545 hs1537 (by rfl) (by decide) rfl
    replace hs1537 := Step.lift (U := [(0, 0), (1, 1), (3, 2), (2, 3)]) hs1537 [1, 2, 3] rfl rfl
    generalize up C1513 C1536 w1514.heap.size [(0, 0), (1, 1), (3, 2), (2, 3)] = C1536_ at HO1540 HM1543 HX1545 hs1537
    replace HJ1520 := HJ1520.thru hs1537 rfl
    replace HS1515 := HS1515.trans hs1537 hc rfl
    (try simp only [Act.put, List.setIfInBounds_toArray, ls0, ls1])
    refine st (.tuple #[.int .i64 t1528, .bool t1529]) rfl rfl (xr_move _ rfl rfl) ?_
    refine st (.int .i64 t1528) rfl rfl (xr_extract (.tuple #[.int .i64 t1528, .bool t1529]) _ rfl rfl rfl) ?_
    refine st (.bool t1529) rfl rfl (xr_extract (.tuple #[.int .i64 t1528, .bool t1529]) _ rfl rfl rfl) ?_
    refine st (.int .i64 t1528) rfl rfl (xr_assign _ rfl rfl) ?_
    simp only [ls0, ls1]
    refine st (.bool t1529) rfl rfl (xr_assign _ rfl rfl) ?_
    refine wl_end ?_
    (try simp only [Act.put, List.setIfInBounds_toArray, ls0, ls1])
    refine hK1527 _ _ ?_
    (try clear hK1527 K1527)
    refine wp_seq_k fun K1546 hK1546 => ?_
    refine wp_seq_k fun K1547 hK1547 => ?_
    refine wl_region ?_
    refine st (.bool t1529) rfl rfl (xr_move _ rfl rfl) ?_
    refine st (.bool (!t1529)) rfl rfl (xr_un (.bool t1529) _ rfl rfl (by first | rfl | (go_simp; done) | (go_simp; rfl) | (go_simp; exact i64_w _) | (go_simp; exact i32_w _))) ?_
    refine wl_end ?_
    (try simp only [Act.put, List.setIfInBounds_toArray, ls0, ls1])
    refine hK1547 _ _ ?_
    (try clear hK1547 K1547)
    by_cases c1548 : t1529 = true
    ·rw [if_pos c1548] at H
     (try rw [c1548])
     (try simp only [Bool.not_true, Bool.not_false])
     refine wp_cond_false rfl ?_
     refine wp_skip ?_
     (try simp only [Act.put, List.setIfInBounds_toArray, ls0, ls1])
     refine hK1546 _ _ ?_
     (try clear hK1546 K1546)
     refine wp_seq_k fun K1549 hK1549 => ?_
     refine wp_seq_k fun K1550 hK1550 => ?_
     refine wl_region ?_
     refine st (.pointer (some ⟨g1447, 1, none⟩)) rfl rfl (xr_fieldAddr _ _ rfl rfl (bx_field2 Tryd.underlying53 rfl rfl (by kernel_rfl))) ?_
     refine st (.string a1_1) rfl rfl (xr_load _ _ rfl rfl (load_cell Tryd.underlying9 rfl (bx_cell (HJ1520).2 1 rfl))) ?_
     refine st (.bool (decide (a1_1 = (⟨#[]⟩ : ByteArray)))) rfl rfl (xr_bin _ _ _ rfl rfl rfl (B.eql_str _ _)) ?_
     refine wl_end ?_
     (try simp only [Act.put, List.setIfInBounds_toArray, ls0, ls1])
     refine hK1550 _ _ ?_
     (try clear hK1550 K1550)
     by_cases c1551 : a1_1 = (⟨#[]⟩ : ByteArray)
     ·rw [if_pos c1551] at H
      (try rw [(decide_eq_true c1551)])
      (try simp only [Bool.not_true, Bool.not_false])
      refine wp_cond_true rfl ?_
      refine wp_seq_k fun K1552 hK1552 => ?_
      refine wl_region ?_
      refine st (.int .i64 0) rfl rfl (xr_assign _ rfl rfl) ?_
      refine wl_end ?_
      (try simp only [Act.put, List.setIfInBounds_toArray, ls0, ls1])
      refine hK1552 _ _ ?_
      (try clear hK1552 K1552)
      refine wp_ret ?_
      (try simp only [Exit.inBlock, Exit.then, Exit.noGoto])
      (try simp only [Act.put, List.setIfInBounds_toArray, ls0, ls1])
      simp only [Option.some.injEq, Prod.mk.injEq] at H
      obtain ⟨rfl, rfl, rfl, rfl⟩ := H
      refine bodyPost_ret (results_tmp rfl _ _ _) rfl ?_
      exact ⟨_, A1538, cp1539, mb1542, rfl, HS1515, HO1540, HC1541, HM1543, HL1544, HX1545⟩
     ·rw [if_neg c1551] at H
      (try rw [(decide_eq_false c1551)])
      (try simp only [Bool.not_true, Bool.not_false])
      refine wp_cond_false rfl ?_
      refine wp_skip ?_
      (try simp only [Act.put, List.setIfInBounds_toArray, ls0, ls1])
      refine hK1549 _ _ ?_
      (try clear hK1549 K1549)
      refine wp_seq_k fun K1553 hK1553 => ?_
      refine wl_region ?_
      refine st (.pointer (some ⟨g0, 0, none⟩)) rfl rfl (xr_move _ rfl rfl) ?_
      refine st (.pointer (some ⟨g1447, 1, none⟩)) rfl rfl (xr_fieldAddr _ _ rfl rfl (bx_field2 Tryd.underlying53 rfl rfl (by kernel_rfl))) ?_
      refine st (.string a1_1) rfl rfl (xr_load _ _ rfl rfl (load_cell Tryd.underlying9 rfl (bx_cell (HJ1520).2 1 rfl))) ?_
      obtain ⟨⟨t1554, t1555, t1556, t1557, t1558⟩, A1559, H⟩ := Option.bind_eq_some_iff.mp H
      (try dsimp only at H)
      refine st_call #[.pointer (some ⟨g0, 0, none⟩), .string a1_1] rfl rfl Tryd.func72 (by kernel_rfl) rfl rfl (mp_ rfl) ?_
      refine (order_Order_add.calls g0 A1538 cp1539 t1530 mb1542 t1531 t1532 a0_3 a1_1 t1554 t1555 t1556 t1557 t1558  (fun z_ => pal [(0, 0), (1, 1), (2, 3), (3, 2)] (C1536_ z_)) w1535 (fun _ => pal_lt rfl _) (Bx.arg HX1545 rfl) (Own.arg HO1540 rfl rfl) HC1541 (Mp.arg HM1543 rfl) HL1544 HL0_3 A1559).mono ?_
      rintro _ w1561 ⟨C1562, A1564, cp1565, mb1568, rfl, hs1563, HO1566, HC1567, HM1569, HL1570, HX1571⟩
      refine ⟨_, rfl, ?_⟩
      replace HO1566 := Own.res (U := [(0, 0), (1, 1), (3, 2), (2, 3)]) (j := 2) HO1566 hs1563 (by rfl) (by decide) rfl rfl
      replace HM1569 := Mp.res (U := [(0, 0), (1, 1), (3, 2), (2, 3)]) (j := 3) HM1569 hs1563 (by rfl) (by decide) rfl
      replace HX1571 := Bx.res (U := [(0, 0), (1, 1), (3, 2), (2, 3)]) (j := 1) HX1571 hs1563 (by rfl) (by decide) rfl
      replace hs1563 := Step.lift (U := [(0, 0), (1, 1), (3, 2), (2, 3)]) hs1563 [1, 2, 3] rfl rfl
      generalize up C1536_ C1562 w1535.heap.size [(0, 0), (1, 1), (3, 2), (2, 3)] = C1562_ at HO1566 HM1569 HX1571 hs1563
      replace HJ1520 := HJ1520.thru hs1563 rfl
      replace HS1515 := HS1515.trans hs1563 hc rfl
      (try simp only [Act.put, List.setIfInBounds_toArray, ls0, ls1])
      refine st (.tuple #[.int .i64 t1554, .bool t1555]) rfl rfl (xr_move _ rfl rfl) ?_
      refine st (.int .i64 t1554) rfl rfl (xr_extract (.tuple #[.int .i64 t1554, .bool t1555]) _ rfl rfl rfl) ?_
      refine st (.bool t1555) rfl rfl (xr_extract (.tuple #[.int .i64 t1554, .bool t1555]) _ rfl rfl rfl) ?_
      refine st (.int .i64 t1554) rfl rfl (xr_assign _ rfl rfl) ?_
      simp only [ls0, ls1]
      refine st (.bool t1555) rfl rfl (xr_assign _ rfl rfl) ?_
      refine wl_end ?_
      (try simp only [Act.put, List.setIfInBounds_toArray, ls0, ls1])
      refine hK1553 _ _ ?_
      (try clear hK1553 K1553)
      refine wp_seq_k fun K1572 hK1572 => ?_
      refine wp_seq_k fun K1573 hK1573 => ?_
      refine wl_region ?_
      refine st (.bool t1555) rfl rfl (xr_move _ rfl rfl) ?_
      refine st (.bool (!t1555)) rfl rfl (xr_un (.bool t1555) _ rfl rfl (by first | rfl | (go_simp; done) | (go_simp; rfl) | (go_simp; exact i64_w _) | (go_simp; exact i32_w _))) ?_
      refine wl_end ?_
      (try simp only [Act.put, List.setIfInBounds_toArray, ls0, ls1])
      refine hK1573 _ _ ?_
      (try clear hK1573 K1573)
      by_cases c1574 : t1555 = true
      ·rw [if_pos c1574] at H
       (try rw [c1574])
       (try simp only [Bool.not_true, Bool.not_false])
       refine wp_cond_false rfl ?_
       refine wp_skip ?_
       (try simp only [Act.put, List.setIfInBounds_toArray, ls0, ls1])
       refine hK1572 _ _ ?_
       (try clear hK1572 K1572)
       refine wp_seq_k fun K1575 hK1575 => ?_
       (try simp only [Act.put, List.setIfInBounds_toArray, ls0, ls1])
       refine al_start (lb 14 0) rfl rfl rfl (fun w_ => w_.heap[g0]? = some (.cells (List.toArray ([.slice A1564 t1556.length cp1565, .map (some mb1568)] ++ (List.map (Value.int .u64) t1558 ++ (List.map (Value.int .u64) a0_3)))) 81 (0, 0))) (HX1571.drew).2 [13] ?_
       replace HX1571 := HX1571.drew
       replace HO1566 := HO1566.drew
       replace HM1569 := HM1569.drew
       replace HJ1520 := HJ1520.drew
       replace HS1515 := Step.ofDrew HS1515
       generalize w1561.drew = w1576 at *
       refine al_pure 0 44 (.pointer (some ⟨g0, 0, none⟩)) (lb 14 1) rfl rfl (by kernel_rfl) (fun _ _ _ => id) rfl (fun w_ => xr_move _ rfl rfl) ?_
       refine al_pure 1 45 (.int .i64 t1528) (lb 14 3) rfl rfl (by kernel_rfl) (fun _ _ _ => id) rfl (fun w_ => xr_move _ rfl rfl) ?_
       refine al_pure 2 46 (.pointer (some ⟨g0, 0, none⟩)) (lb 14 7) rfl rfl (by kernel_rfl) (fun _ _ _ => id) rfl (fun w_ => xr_nilCheck _ rfl rfl) ?_
       refine al_pure 3 47 (.pointer (some ⟨g0, 2, none⟩)) (lb 14 15) rfl rfl (by kernel_rfl) (fun _ _ _ => id) rfl (fun w_ => xr_fieldAddr _ _ rfl rfl (bx_field2 Tryd.underlying81 rfl rfl (by kernel_rfl))) ?_
       simp only [ls0, ls1]
       by_cases c1577 : 0 ≤ t1528
       ·rw [if_pos c1577] at H
        by_cases c1578 : t1528 < 64
        ·rw [if_pos c1578] at H
         refine al_pure 4 48 (.pointer (some ⟨g0, 2 + ((t1528 : Int).toNat), none⟩)) (lb 14 31) rfl rfl (by kernel_rfl) (fun _ _ _ => id) rfl (fun w_ => xr_indexAddr _ _ _ rfl rfl rfl (arr_index (sz := 1) Tryd.underlying79 (by kernel_rfl) (by first | assumption | decide | omega) (by first | assumption | decide | omega) (by omega))) ?_
         refine al_pure 6 50 (.int .i64 t1554) (lb 14 95) rfl rfl (by kernel_rfl) (fun _ _ _ => id) rfl (fun w_ => xr_move _ rfl rfl) ?_
         refine al_pure 7 51 (.int .u64 (IntKind.u64.wrap (t1554))) (lb 14 223) rfl rfl (by kernel_rfl) (fun _ _ _ => id) rfl (fun w_ => xr_conv (.int .i64 t1554) _ rfl rfl (by first | rfl | (go_simp; done) | (go_simp; rfl) | (go_simp; exact i64_w _) | (go_simp; exact i32_w _))) ?_
         by_cases c1579 : 0 ≤ (IntKind.u64.wrap (t1554))
         ·rw [if_pos c1579] at H
          refine al_pure 8 52 (.int .u64 (shl .u64 1 (IntKind.u64.wrap (t1554)))) (lb 14 479) rfl rfl (by kernel_rfl) (fun _ _ _ => id) rfl (fun w_ => xr_bin _ _ _ rfl rfl rfl (B.shl_u64_u64 _ _ (by assumption))) ?_
          simp only [ls0, ls1]
          refine al_pure 10 54 (.pointer (some ⟨g0, 0, none⟩)) (lb 14 1503) rfl rfl (by kernel_rfl) (fun _ _ _ => id) rfl (fun w_ => xr_nilCheck _ rfl rfl) ?_
          refine al_pure 11 55 (.pointer (some ⟨g0, 2, none⟩)) (lb 14 3551) rfl rfl (by kernel_rfl) (fun _ _ _ => id) rfl (fun w_ => xr_fieldAddr _ _ rfl rfl (bx_field2 Tryd.underlying81 rfl rfl (by kernel_rfl))) ?_
          refine al_take 5 49 (.int .u64 (List.getD t1558 ((t1528 : Int).toNat) 0)) (lb 14 3583) rfl rfl (by kernel_rfl) (fun _ _ _ => id) rfl (fun w_ hS_ => xr_load _ _ rfl rfl (arr_load (o := 2) (N := 64) (pre := [.slice A1564 t1556.length cp1565, .map (some mb1568)]) (post := List.map (Value.int .u64) a0_3) (enc := (Value.int .u64)) (l := t1558) (i := (t1528 : Int).toNat) 0 Tryd.underlying58 rfl hS_ (by first | (simp only [List.append_assoc, List.cons_append, List.nil_append, List.append_nil]; done) | rfl) rfl HL1570 (by omega) (by omega))) (HX1571).2 ?_
          refine al_pure 9 53 (.int .u64 (Go.bits .or .u64 (List.getD t1558 ((t1528 : Int).toNat) 0) (shl .u64 1 (IntKind.u64.wrap (t1554))))) (lb 14 4095) rfl rfl (by kernel_rfl) (fun _ _ _ => id) rfl (fun w_ => xr_bin _ _ _ rfl rfl rfl (B.or_u64 _ _)) ?_
          simp only [ls0, ls1]
          refine al_pure 12 56 (.pointer (some ⟨g0, 2 + ((t1528 : Int).toNat), none⟩)) (lb 14 8191) rfl rfl (by kernel_rfl) (fun _ _ _ => id) rfl (fun w_ => xr_indexAddr _ _ _ rfl rfl rfl (arr_index (sz := 1) Tryd.underlying79 (by kernel_rfl) (by first | assumption | decide | omega) (by first | assumption | decide | omega) (by omega))) ?_
          obtain ⟨y1580, A1581, H⟩ := Option.bind_eq_some_iff.mp H
          (try dsimp only at H)
          refine al_last 13 (lb 14 16383) rfl rfl (by kernel_rfl) rfl (fun K_ hK_ => ?_)
          refine arr_store_step (C := C1562_) (z := 1) (g := g0) (tb := 81) (of := 2) (N := 64) (pre := [.slice A1564 t1556.length cp1565, .map (some mb1568)]) (post := List.map (Value.int .u64) a0_3) (enc := (Value.int .u64)) (l0 := t1558) (i := (t1528 : Int).toNat) (Go.bits .or .u64 (List.getD t1558 ((t1528 : Int).toNat) 0) (shl .u64 1 (IntKind.u64.wrap (t1554)))) rfl rfl rfl rfl rfl rfl (by kernel_rfl) rfl HX1571 (by first | (simp only [List.append_assoc, List.cons_append, List.nil_append, List.append_nil]; done) | rfl) rfl HL1570 (by omega) (by omega) (Option.some.inj A1581) (xs' := [.slice A1564 t1556.length cp1565, .map (some mb1568)] ++ (List.map (Value.int .u64) y1580 ++ (List.map (Value.int .u64) a0_3))) (by first | (simp only [List.append_assoc, List.cons_append, List.nil_append, List.append_nil]; done) | rfl) ?_
          intro w1582 HX1583 HL1585 hs1584
          replace HO1566 := HO1566.thru hs1584 rfl
          replace HM1569 := HM1569.thru hs1584 rfl
          replace HJ1520 := HJ1520.thru hs1584 rfl
          replace HS1515 := HS1515.trans hs1584 hc rfl
          refine hK_ _ _ ?_
          clear hK_ K_
          (try simp only [Act.put, List.setIfInBounds_toArray, ls0, ls1])
          refine al_end (by kernel_rfl) ?_
          (try simp only [Act.put, List.setIfInBounds_toArray, ls0, ls1])
          refine hK1575 _ _ ?_
          (try clear hK1575 K1575)
          refine wp_seq_k fun K1586 hK1586 => ?_
          refine wl_region ?_
          refine st (.int .i64 0) rfl rfl (xr_assign _ rfl rfl) ?_
          refine wl_end ?_
          (try simp only [Act.put, List.setIfInBounds_toArray, ls0, ls1])
          refine hK1586 _ _ ?_
          (try clear hK1586 K1586)
          refine wp_ret ?_
          (try simp only [Exit.inBlock, Exit.then, Exit.noGoto])
          (try simp only [Act.put, List.setIfInBounds_toArray, ls0, ls1])
          simp only [Option.some.injEq, Prod.mk.injEq] at H
          obtain ⟨rfl, rfl, rfl, rfl⟩ := H
          refine bodyPost_ret (results_tmp rfl _ _ _) rfl ?_
          exact ⟨_, A1564, cp1565, mb1568, rfl, HS1515, HO1566, HC1567, HM1569, HL1585, HX1583⟩
         ·rw [if_neg c1579] at H
          exact absurd H (by simp)
        ·rw [if_neg c1578] at H
         exact absurd H (by simp)
       ·rw [if_neg c1577] at H
        exact absurd H (by simp)
      ·rw [if_neg c1574] at H
       (try rw [(Bool.eq_false_iff.mpr c1574)])
       (try simp only [Bool.not_true, Bool.not_false])
       refine wp_cond_true rfl ?_
       refine wp_seq_k fun K1587 hK1587 => ?_
       refine wl_region ?_
       refine st (.int .i64 8) rfl rfl (xr_assign _ rfl rfl) ?_
       refine wl_end ?_
       (try simp only [Act.put, List.setIfInBounds_toArray, ls0, ls1])
       refine hK1587 _ _ ?_
       (try clear hK1587 K1587)
       refine wp_ret ?_
       (try simp only [Exit.inBlock, Exit.then, Exit.noGoto])
       (try simp only [Act.put, List.setIfInBounds_toArray, ls0, ls1])
       simp only [Option.some.injEq, Prod.mk.injEq] at H
       obtain ⟨rfl, rfl, rfl, rfl⟩ := H
       refine bodyPost_ret (results_tmp rfl _ _ _) rfl ?_
       exact ⟨_, A1564, cp1565, mb1568, rfl, HS1515, HO1566, HC1567, HM1569, HL1570, HX1571⟩
    ·rw [if_neg c1548] at H
     (try rw [(Bool.eq_false_iff.mpr c1548)])
     (try simp only [Bool.not_true, Bool.not_false])
     refine wp_cond_true rfl ?_
     refine wp_seq_k fun K1588 hK1588 => ?_
     refine wl_region ?_
     refine st (.int .i64 8) rfl rfl (xr_assign _ rfl rfl) ?_
     refine wl_end ?_
     (try simp only [Act.put, List.setIfInBounds_toArray, ls0, ls1])
     refine hK1588 _ _ ?_
     (try clear hK1588 K1588)
     refine wp_ret ?_
     (try simp only [Exit.inBlock, Exit.then, Exit.noGoto])
     (try simp only [Act.put, List.setIfInBounds_toArray, ls0, ls1])
     simp only [Option.some.injEq, Prod.mk.injEq] at H
     obtain ⟨rfl, rfl, rfl, rfl⟩ := H
     refine bodyPost_ret (results_tmp rfl _ _ _) rfl ?_
     exact ⟨_, A1538, cp1539, mb1542, rfl, HS1515, HO1540, HC1541, HM1543, HL1544, HX1545⟩
 refine wl_region ?_
 refine st (.pointer (some ⟨g1447, 0, none⟩)) rfl rfl (xr_fieldAddr _ _ rfl rfl (bx_field2 Tryd.underlying53 rfl rfl (by kernel_rfl))) ?_
 refine st (.string a1_0) rfl rfl (xr_load _ _ rfl rfl (load_cell Tryd.underlying9 rfl (bx_cell (HX1450).2 0 rfl))) ?_
 obtain ⟨t1589, A1590, H⟩ := Option.bind_eq_some_iff.mp H
 (try dsimp only at H)
 refine st_call #[.string a1_0] rfl rfl Tryd.func71 (by kernel_rfl) rfl rfl (mp_ rfl) ?_
 refine (lex_Ident.calls k a1_0 t1589  (fun z_ => pal [(0, 0)] (C1449 z_)) w1448 (fun _ => pal_lt rfl _) A1590).mono ?_
 rintro _ w1592 ⟨C1593, rfl, hs1594⟩
 refine ⟨_, rfl, ?_⟩
 replace hs1594 := Step.lift (U := [(0, 0)]) hs1594 [] rfl rfl
 generalize up C1449 C1593 w1448.heap.size [(0, 0)] = C1593_ at hs1594
 replace HP0 := HP0.thru hs1594 rfl
 replace HP0_0 := HP0_0.thru hs1594 rfl
 replace HP0_1 := HP0_1.thru hs1594 rfl
 replace HX1450 := HX1450.thru hs1594 rfl
 replace HS := HS.trans hs1594 hc rfl
 (try simp only [Act.put, List.setIfInBounds_toArray, ls0, ls1])
 refine st (.bool (!t1589)) rfl rfl (xr_un (.bool t1589) _ rfl rfl (by first | rfl | (go_simp; done) | (go_simp; rfl) | (go_simp; exact i64_w _) | (go_simp; exact i32_w _))) ?_
 refine st (.bool (!t1589)) rfl rfl (xr_move _ rfl rfl) ?_
 by_cases c1595 : t1589 = true
 ·rw [if_pos c1595] at H
  (try rw [c1595])
  (try simp only [Bool.not_true, Bool.not_false])
  refine on_guard (guard_on 4 false 12 rfl rfl rfl) ?_
  refine st (.pointer (some ⟨g1447, 1, none⟩)) rfl rfl (xr_fieldAddr _ _ rfl rfl (bx_field2 Tryd.underlying53 rfl rfl (by kernel_rfl))) ?_
  refine on_guard (guard_on 4 false 12 rfl rfl rfl) ?_
  refine st (.string a1_1) rfl rfl (xr_load _ _ rfl rfl (load_cell Tryd.underlying9 rfl (bx_cell (HX1450).2 1 rfl))) ?_
  simp only [ls0, ls1]
  refine on_guard (guard_on 4 false 12 rfl rfl rfl) ?_
  refine st (.bool (!decide (a1_1 = (⟨#[]⟩ : ByteArray)))) rfl rfl (xr_bin _ _ _ rfl rfl rfl (B.neq_str _ _)) ?_
  refine on_guard (guard_on 4 false 12 rfl rfl rfl) ?_
  refine st (.bool (!decide (a1_1 = (⟨#[]⟩ : ByteArray)))) rfl rfl (xr_move _ rfl rfl) ?_
  by_cases c1596 : a1_1 = (⟨#[]⟩ : ByteArray)
  ·rw [if_pos c1596] at H
   (try rw [(decide_eq_true c1596)])
   (try simp only [Bool.not_true, Bool.not_false])
   refine sk_guard (guard_off 8 true 16 rfl rfl false (by decide) rfl) rfl ?_
   refine sk_guard (guard_off 8 true 16 rfl rfl false (by decide) rfl) rfl ?_
   simp only [ls0, ls1]
   refine sk_guard (guard_off 8 true 16 rfl rfl false (by decide) rfl) rfl ?_
   refine sk_guard (guard_off 8 true 16 rfl rfl false (by decide) rfl) rfl ?_
   refine on_guard (guard_on 4 false 12 rfl rfl rfl) ?_
   refine st (.bool false) rfl rfl (xr_pick false _ rfl rfl rfl) ?_
   refine st (.bool false) rfl rfl (xr_pick false _ rfl rfl rfl) ?_
   simp only [ls0, ls1]
   refine wl_end ?_
   (try simp only [Act.put, List.setIfInBounds_toArray, ls0, ls1])
   exact hj1512 _ _ _ (false) (fun q_ => List.getD [undef, .agg #[.string a1_0, .string a1_1, .int .i64 a1_2], undef, undef, .int .i64 0, undef, undef, undef, .pointer (some ⟨g1447, 0, none⟩), .string a1_0, .bool true, .bool false, .bool false, .pointer (some ⟨g1447, 1, none⟩), .string a1_1, .bool false, .bool false, undef, undef, undef, undef, .bool false, undef, undef, undef, undef, undef, undef, undef, undef, undef, undef, undef, undef, undef, undef, undef, undef, undef, undef, undef, undef, undef, undef, undef, undef, undef, undef, undef, undef, undef, undef, undef, undef, undef, undef, undef] q_ undef)  HS (by omega) HP0_0 HP0_1 HP0 HX1450 H
  ·rw [if_neg c1596] at H
   (try rw [(decide_eq_false c1596)])
   (try simp only [Bool.not_true, Bool.not_false])
   refine on_guard (guard_on 8 true 16 rfl rfl rfl) ?_
   refine st (.pointer (some ⟨g1447, 1, none⟩)) rfl rfl (xr_fieldAddr _ _ rfl rfl (bx_field2 Tryd.underlying53 rfl rfl (by kernel_rfl))) ?_
   refine on_guard (guard_on 8 true 16 rfl rfl rfl) ?_
   refine st (.string a1_1) rfl rfl (xr_load _ _ rfl rfl (load_cell Tryd.underlying9 rfl (bx_cell (HX1450).2 1 rfl))) ?_
   refine on_guard (guard_on 8 true 16 rfl rfl rfl) ?_
   obtain ⟨t1597, A1598, H⟩ := Option.bind_eq_some_iff.mp H
   (try dsimp only at H)
   refine st_call #[.string a1_1] rfl rfl Tryd.func71 (by kernel_rfl) rfl rfl (mp_ rfl) ?_
   refine (lex_Ident.calls k a1_1 t1597  (fun z_ => pal [(0, 0)] (C1593_ z_)) w1592 (fun _ => pal_lt rfl _) A1598).mono ?_
   rintro _ w1600 ⟨C1601, rfl, hs1602⟩
   refine ⟨_, rfl, ?_⟩
   replace hs1602 := Step.lift (U := [(0, 0)]) hs1602 [] rfl rfl
   generalize up C1593_ C1601 w1592.heap.size [(0, 0)] = C1601_ at hs1602
   replace HP0 := HP0.thru hs1602 rfl
   replace HP0_0 := HP0_0.thru hs1602 rfl
   replace HP0_1 := HP0_1.thru hs1602 rfl
   replace HX1450 := HX1450.thru hs1602 rfl
   replace HS := HS.trans hs1602 hc rfl
   (try simp only [Act.put, List.setIfInBounds_toArray, ls0, ls1])
   refine on_guard (guard_on 8 true 16 rfl rfl rfl) ?_
   refine st (.bool (!t1597)) rfl rfl (xr_un (.bool t1597) _ rfl rfl (by first | rfl | (go_simp; done) | (go_simp; rfl) | (go_simp; exact i64_w _) | (go_simp; exact i32_w _))) ?_
   refine on_guard (guard_on 4 false 12 rfl rfl rfl) ?_
   refine st (.bool (!t1597)) rfl rfl (xr_pick true _ rfl rfl rfl) ?_
   refine st (.bool (!t1597)) rfl rfl (xr_pick false _ rfl rfl rfl) ?_
   refine wl_end ?_
   (try simp only [Act.put, List.setIfInBounds_toArray, ls0, ls1])
   exact hj1512 _ _ _ (!t1597) (fun q_ => List.getD [undef, .agg #[.string a1_0, .string a1_1, .int .i64 a1_2], undef, undef, .int .i64 0, undef, undef, undef, .pointer (some ⟨g1447, 0, none⟩), .string a1_0, .bool true, .bool false, .bool false, .pointer (some ⟨g1447, 1, none⟩), .string a1_1, .bool true, .bool true, .pointer (some ⟨g1447, 1, none⟩), .string a1_1, .bool t1597, .bool (!t1597), .bool (!t1597), undef, undef, undef, undef, undef, undef, undef, undef, undef, undef, undef, undef, undef, undef, undef, undef, undef, undef, undef, undef, undef, undef, undef, undef, undef, undef, undef, undef, undef, undef, undef, undef, undef, undef, undef] q_ undef)  HS (by omega) HP0_0 HP0_1 HP0 HX1450 H
 ·rw [if_neg c1595] at H
  (try rw [(Bool.eq_false_iff.mpr c1595)])
  (try simp only [Bool.not_true, Bool.not_false])
  refine sk_guard (guard_off 4 false 12 rfl rfl true (by decide) rfl) rfl ?_
  refine sk_guard (guard_off 4 false 12 rfl rfl true (by decide) rfl) rfl ?_
  refine sk_guard (guard_off 4 false 12 rfl rfl true (by decide) rfl) rfl ?_
  refine sk_guard (guard_off 4 false 12 rfl rfl true (by decide) rfl) rfl ?_
  simp only [ls0, ls1]
  refine sk_guard (guard_und 8 true 16 rfl rfl rfl) rfl ?_
  refine sk_guard (guard_und 8 true 16 rfl rfl rfl) rfl ?_
  refine sk_guard (guard_und 8 true 16 rfl rfl rfl) rfl ?_
  refine sk_guard (guard_und 8 true 16 rfl rfl rfl) rfl ?_
  simp only [ls0, ls1]
  refine sk_guard (guard_off 4 false 12 rfl rfl true (by decide) rfl) rfl ?_
  refine st (.bool true) rfl rfl (xr_pick true _ rfl rfl rfl) ?_
  refine wl_end ?_
  (try simp only [Act.put, List.setIfInBounds_toArray, ls0, ls1])
  exact hj1512 _ _ _ (true) (fun q_ => List.getD [undef, .agg #[.string a1_0, .string a1_1, .int .i64 a1_2], undef, undef, .int .i64 0, undef, undef, undef, .pointer (some ⟨g1447, 0, none⟩), .string a1_0, .bool false, .bool true, .bool true, undef, undef, undef, undef, undef, undef, undef, undef, undef, undef, undef, undef, undef, undef, undef, undef, undef, undef, undef, undef, undef, undef, undef, undef, undef, undef, undef, undef, undef, undef, undef, undef, undef, undef, undef, undef, undef, undef, undef, undef, undef, undef, undef, undef] q_ undef)  HS (by omega) HP0_0 HP0_1 HP0 HX1450 H

/-! ### order_Order_close: function 51 -/
mutual
def order_Order_close.l0 : Nat → (List Int) → (List ByteArray) → Int → Int → (List Int) → Option ((List Int) × (List Int))
  | 0, _, _, _, _, _ => none
  | k + 1, a0_3, l0_0, x3832, x3900, x3903 => if x3900 < (l0_0.length : Int) then (if 0 ≤ x3900 then (if x3900 < 64 then (if 0 ≤ (IntKind.u64.wrap (x3832)) then (if (Go.bits .and .u64 (shr .u64 (List.getD x3903 ((x3900 : Int).toNat) 0) (IntKind.u64.wrap (x3832))) 1) = 1 then (if 0 ≤ x3832 then (if x3832 < 64 then ((some (List.set x3903 ((x3900 : Int).toNat) (Go.bits .or .u64 (List.getD x3903 ((x3900 : Int).toNat) 0) (List.getD x3903 ((x3832 : Int).toNat) 0)) : List Int)).bind fun y3929 => (order_Order_close.l0 k a0_3 l0_0 x3832 (wrap64 (x3900 + 1)) y3929)) else (none)) else (none)) else (order_Order_close.l0 k a0_3 l0_0 x3832 (wrap64 (x3900 + 1)) x3903)) else (none)) else (none)) else (none)) else (order_Order_close.l3 k a0_3 l0_0 (wrap64 (x3832 + 1)) x3903)
def order_Order_close.l1 : Nat → (List ByteArray) → (List Int) → Int → Int → (List Int) → Option ((List Int) × (List Int))
  | 0, _, _, _, _, _ => none
  | k + 1, l0_0, x3835, x4122, x4191, x4194 => if x4191 < (l0_0.length : Int) then (if 0 ≤ x4191 then (if x4191 < 64 then (if 0 ≤ (IntKind.u64.wrap (x4122)) then (if (Go.bits .and .u64 (shr .u64 (List.getD x3835 ((x4191 : Int).toNat) 0) (IntKind.u64.wrap (x4122))) 1) = 1 then (if 0 ≤ x4122 then (if x4122 < 64 then (if 0 ≤ (IntKind.u64.wrap (x4191)) then ((some (List.set x4194 ((x4122 : Int).toNat) (Go.bits .or .u64 (List.getD x4194 ((x4122 : Int).toNat) 0) (shl .u64 1 (IntKind.u64.wrap (x4191)))) : List Int)).bind fun y4221 => (order_Order_close.l1 k l0_0 x3835 x4122 (wrap64 (x4191 + 1)) y4221)) else (none)) else (none)) else (none)) else (order_Order_close.l1 k l0_0 x3835 x4122 (wrap64 (x4191 + 1)) x4194)) else (none)) else (none)) else (none)) else (order_Order_close.l2 k l0_0 x3835 (wrap64 (x4122 + 1)) x4194)
def order_Order_close.l2 : Nat → (List ByteArray) → (List Int) → Int → (List Int) → Option ((List Int) × (List Int))
  | 0, _, _, _, _ => none
  | k + 1, l0_0, x3835, x4122, x4125 => if x4122 < (l0_0.length : Int) then (order_Order_close.l1 k l0_0 x3835 x4122 0 x4125) else (some (x3835, x4125))
def order_Order_close.l3 : Nat → (List Int) → (List ByteArray) → Int → (List Int) → Option ((List Int) × (List Int))
  | 0, _, _, _, _ => none
  | k + 1, a0_3, l0_0, x3832, x3835 => if x3832 < (l0_0.length : Int) then (order_Order_close.l0 k a0_3 l0_0 x3832 0 x3835) else (order_Order_close.l2 k l0_0 x3835 0 a0_3)
end
def order_Order_close.f (k : Nat) (l0_0 : List ByteArray) (m0_1 : List (ByteArray × Int)) (a0_2 : List Int) (a0_3 : List Int) : Option ((List Int) × (List Int)) := order_Order_close.l3 k a0_3 l0_0 0 a0_2

set_option maxHeartbeats 2000000 in
set_option maxRecDepth 100000 in
theorem order_Order_close.calls (k : Nat) (g0 : Nat) (A0_0 : Option Addr) (c0_0 : Nat) (l0_0 : List ByteArray) (v0_1 : Value) (m0_1 : List (ByteArray × Int)) (a0_2 : List Int) (a0_3 : List Int) (r1 : List Int) (r2 : List Int) (c : Nat → Nat) (w : World) (hc : ∀ k, c k < 10) (HP0 : Bx c 1 w g0 81 ([.slice A0_0 l0_0.length c0_0, v0_1] ++ (List.map (Value.int .u64) a0_2 ++ (List.map (Value.int .u64) a0_3)))) (HP0_0 : Ft c [0] w (fun w_ => Kd.string.C w_ A0_0 l0_0.length l0_0)) (HCP0_0 : l0_0.length ≤ c0_0) (HP0_1 : Ft c [0] w (fun w_ => (Kd.mp Value.string (Value.int .i64)).K w_ m0_1 [v0_1])) (HL0_2 : a0_2.length = 64) (HL0_3 : a0_3.length = 64) (H : order_Order_close.f k l0_0 m0_1 a0_2 a0_3 = some (r1, r2)) :
    Calls Tryd.prog 51 #[.pointer (some ⟨g0, 0, none⟩)] w fun e w' => ∃ (c' : Nat → Nat) , e = .returned (.tuple #[]) ∧ Step c w c' w' [1] ∧ r1.length = 64 ∧ r2.length = 64 ∧ Bx c' 1 w' g0 81 ([.slice A0_0 l0_0.length c0_0, v0_1] ++ (List.map (Value.int .u64) r1 ++ (List.map (Value.int .u64) r2))) := by
 unfold order_Order_close.f at H
 have HS := Step.refl c w [1]
 go_enter Tryd.func51, Tryd.ntmps51
 refine wp_seq_k fun K3362 hK3362 => ?_
 refine wp_seq_k fun K3649 hK3649 => ?_
 refine wl_region ?_
 refine st (.pointer (some ⟨g0, 0, none⟩)) rfl rfl (xr_move _ rfl rfl) ?_
 refine st (.pointer (some ⟨g0, 0, none⟩)) rfl rfl (xr_nilCheck _ rfl rfl) ?_
 refine st (.pointer (some ⟨g0, 0, none⟩)) rfl rfl (xr_fieldAddr _ _ rfl rfl (bx_field2 Tryd.underlying81 rfl rfl (by kernel_rfl))) ?_
 refine st (.slice A0_0 l0_0.length c0_0) rfl rfl (xr_load _ _ rfl rfl (load_cell Tryd.underlying30 rfl (bx_cell (HP0).2 0 rfl))) ?_
 simp only [ls0, ls1]
 refine st (.int .i64 (l0_0.length : Int)) rfl rfl (xr_builtin #[.slice A0_0 l0_0.length c0_0] (.int .i64 (l0_0.length : Int)) rfl (mp_ rfl) (by first | rfl | (go_simp; done) | (go_simp; rfl) | (go_simp; exact i64_w _) | (go_simp; exact i32_w _))) ?_
 refine st (.int .i64 0) rfl rfl (xr_move _ rfl rfl) ?_
 refine wl_end ?_
 (try simp only [Act.put, List.setIfInBounds_toArray, ls0, ls1])
 refine hK3649 _ _ ?_
 (try clear hK3649 K3649)
 refine wp_block ?_
 (try simp only [Act.put, List.setIfInBounds_toArray, ls0, ls1])
 refine wp_looped (looped_ind (fun kq3841 a_ w3840 => ∃ (C3839 : Nat → Nat) (x3832 : Int) (x3835 : List Int) (g3838 : Nat → Value), a_ = ⟨#[.pointer (some ⟨g0, 0, none⟩), (g3838 1), (g3838 2), (g3838 3), (g3838 4), (g3838 5), (g3838 6), (g3838 7), (g3838 8), (g3838 9), .int .i64 (l0_0.length : Int), .int .i64 x3832, (g3838 12), (g3838 13), (g3838 14), (g3838 15), (g3838 16), (g3838 17), (g3838 18), (g3838 19), (g3838 20), (g3838 21), (g3838 22), (g3838 23), (g3838 24), (g3838 25), (g3838 26), (g3838 27), (g3838 28), (g3838 29), (g3838 30), (g3838 31), (g3838 32), (g3838 33), (g3838 34), (g3838 35), (g3838 36), (g3838 37), (g3838 38), (g3838 39), (g3838 40), (g3838 41), (g3838 42), (g3838 43), (g3838 44), (g3838 45), (g3838 46), (g3838 47), (g3838 48), (g3838 49), (g3838 50), (g3838 51), (g3838 52), (g3838 53), (g3838 54), (g3838 55), (g3838 56), (g3838 57), (g3838 58), (g3838 59), (g3838 60), (g3838 61), (g3838 62), (g3838 63), (g3838 64), (g3838 65), (g3838 66), (g3838 67), (g3838 68), (g3838 69), (g3838 70), (g3838 71), (g3838 72), (g3838 73), (g3838 74), (g3838 75), (g3838 76), (g3838 77), (g3838 78), (g3838 79), (g3838 80), (g3838 81), (g3838 82), (g3838 83), (g3838 84), (g3838 85), (g3838 86), (g3838 87), (g3838 88), (g3838 89), (g3838 90), (g3838 91), (g3838 92)], []⟩ ∧ Step c w C3839 w3840 [1] ∧ kq3841 ≤ k ∧ (Ft C3839 [0] w3840 (fun w_ => Kd.string.C w_ A0_0 l0_0.length l0_0)) ∧ (Ft C3839 [0] w3840 (fun w_ => (Kd.mp Value.string (Value.int .i64)).K w_ m0_1 [v0_1])) ∧ (x3835.length = 64) ∧ (Bx C3839 1 w3840 g0 81 ([.slice A0_0 l0_0.length c0_0, v0_1] ++ (List.map (Value.int .u64) x3835 ++ (List.map (Value.int .u64) a0_3)))) ∧ order_Order_close.l3 kq3841 a0_3 l0_0 x3832 x3835 = some (r1, r2)) ?step k _ _ ?init)
 case init =>
  exact ⟨_, 0, a0_2, (fun q_ => List.getD [undef, undef, undef, undef, undef, undef, .pointer (some ⟨g0, 0, none⟩), .pointer (some ⟨g0, 0, none⟩), .pointer (some ⟨g0, 0, none⟩), .slice A0_0 l0_0.length c0_0, undef, undef, undef, undef, undef, undef, undef, undef, undef, undef, undef, undef, undef, undef, undef, undef, undef, undef, undef, undef, undef, undef, undef, undef, undef, undef, undef, undef, undef, undef, undef, undef, undef, undef, undef, undef, undef, undef, undef, undef, undef, undef, undef, undef, undef, undef, undef, undef, undef, undef, undef, undef, undef, undef, undef, undef, undef, undef, undef, undef, undef, undef, undef, undef, undef, undef, undef, undef, undef, undef, undef, undef, undef, undef, undef, undef, undef, undef, undef, undef, undef, undef, undef] q_ undef), rfl, HS, Nat.le_refl _, HP0_0, HP0_1, HL0_2, HP0, H⟩
 case step =>
  intro kq3841 ih3844 a3845 w3840 hr3846
  obtain ⟨C3839, x3832, x3835, g3838, rfl, HS3842, hk3843, HJ3833, HJ3834, HL3836, HJ3837, H⟩ := hr3846
  refine looped_round ?_
  cases kq3841 with
  | zero => exact absurd H (by simp [order_Order_close.l3])
  | succ k3847 =>
   simp only [order_Order_close.l3] at H
   refine wp_seq_k fun K3848 hK3848 => ?_
   refine wl_region ?_
   refine st (.bool (decide (x3832 < (l0_0.length : Int)))) rfl rfl (xr_bin _ _ _ rfl rfl rfl (B.lss_i64 _ _)) ?_
   refine wl_end ?_
   (try simp only [Act.put, List.setIfInBounds_toArray, ls0, ls1])
   refine hK3848 _ _ ?_
   (try clear hK3848 K3848)
   refine wp_seq_k fun K3849 hK3849 => ?_
   by_cases c3850 : x3832 < (l0_0.length : Int)
   ·rw [if_pos c3850] at H
    (try rw [(decide_eq_true c3850)])
    (try simp only [Bool.not_true, Bool.not_false])
    refine wp_cond_true rfl ?_
    refine wp_skip ?_
    (try simp only [Act.put, List.setIfInBounds_toArray, ls0, ls1])
    refine hK3849 _ _ ?_
    (try clear hK3849 K3849)
    refine wp_seq_k fun K3851 hK3851 => ?_
    refine wp_block ?_
    refine wp_seq_k fun K3852 hK3852 => ?_
    refine wl_region ?_
    refine st (.int .i64 x3832) rfl rfl (xr_move _ rfl rfl) ?_
    refine st (.int .i64 x3832) rfl rfl (xr_assign _ rfl rfl) ?_
    refine wl_end ?_
    (try simp only [Act.put, List.setIfInBounds_toArray, ls0, ls1])
    refine hK3852 _ _ ?_
    (try clear hK3852 K3852)
    refine wp_seq_k fun K3853 hK3853 => ?_
    refine wl_region ?_
    refine st (.pointer (some ⟨g0, 0, none⟩)) rfl rfl (xr_move _ rfl rfl) ?_
    refine st (.pointer (some ⟨g0, 0, none⟩)) rfl rfl (xr_nilCheck _ rfl rfl) ?_
    refine st (.pointer (some ⟨g0, 0, none⟩)) rfl rfl (xr_fieldAddr _ _ rfl rfl (bx_field2 Tryd.underlying81 rfl rfl (by kernel_rfl))) ?_
    refine st (.slice A0_0 l0_0.length c0_0) rfl rfl (xr_load _ _ rfl rfl (load_cell Tryd.underlying30 rfl (bx_cell (HJ3837).2 0 rfl))) ?_
    simp only [ls0, ls1]
    refine st (.int .i64 (l0_0.length : Int)) rfl rfl (xr_builtin #[.slice A0_0 l0_0.length c0_0] (.int .i64 (l0_0.length : Int)) rfl (mp_ rfl) (by first | rfl | (go_simp; done) | (go_simp; rfl) | (go_simp; exact i64_w _) | (go_simp; exact i32_w _))) ?_
    refine st (.int .i64 0) rfl rfl (xr_move _ rfl rfl) ?_
    refine wl_end ?_
    (try simp only [Act.put, List.setIfInBounds_toArray, ls0, ls1])
    refine hK3853 _ _ ?_
    (try clear hK3853 K3853)
    refine wp_block ?_
    (try simp only [Act.put, List.setIfInBounds_toArray, ls0, ls1])
    refine wp_looped (looped_ind (fun kq3909 a_ w3908 => ∃ (C3907 : Nat → Nat) (x3900 : Int) (x3903 : List Int) (g3906 : Nat → Value), a_ = ⟨#[.pointer (some ⟨g0, 0, none⟩), (g3906 1), .int .i64 x3832, (g3906 3), (g3906 4), (g3906 5), (g3906 6), (g3906 7), (g3906 8), (g3906 9), .int .i64 (l0_0.length : Int), .int .i64 x3832, (g3906 12), (g3906 13), (g3906 14), (g3906 15), (g3906 16), (g3906 17), .int .i64 (l0_0.length : Int), .int .i64 x3900, (g3906 20), (g3906 21), (g3906 22), (g3906 23), (g3906 24), (g3906 25), (g3906 26), (g3906 27), (g3906 28), (g3906 29), (g3906 30), (g3906 31), (g3906 32), (g3906 33), (g3906 34), (g3906 35), (g3906 36), (g3906 37), (g3906 38), (g3906 39), (g3906 40), (g3906 41), (g3906 42), (g3906 43), (g3906 44), (g3906 45), (g3906 46), (g3906 47), (g3906 48), (g3906 49), (g3906 50), (g3906 51), (g3906 52), (g3906 53), (g3906 54), (g3906 55), (g3906 56), (g3906 57), (g3906 58), (g3906 59), (g3906 60), (g3906 61), (g3906 62), (g3906 63), (g3906 64), (g3906 65), (g3906 66), (g3906 67), (g3906 68), (g3906 69), (g3906 70), (g3906 71), (g3906 72), (g3906 73), (g3906 74), (g3906 75), (g3906 76), (g3906 77), (g3906 78), (g3906 79), (g3906 80), (g3906 81), (g3906 82), (g3906 83), (g3906 84), (g3906 85), (g3906 86), (g3906 87), (g3906 88), (g3906 89), (g3906 90), (g3906 91), (g3906 92)], []⟩ ∧ Step c w C3907 w3908 [1] ∧ kq3909 ≤ k3847 ∧ (Ft C3907 [0] w3908 (fun w_ => Kd.string.C w_ A0_0 l0_0.length l0_0)) ∧ (Ft C3907 [0] w3908 (fun w_ => (Kd.mp Value.string (Value.int .i64)).K w_ m0_1 [v0_1])) ∧ (x3903.length = 64) ∧ (Bx C3907 1 w3908 g0 81 ([.slice A0_0 l0_0.length c0_0, v0_1] ++ (List.map (Value.int .u64) x3903 ++ (List.map (Value.int .u64) a0_3)))) ∧ order_Order_close.l0 kq3909 a0_3 l0_0 x3832 x3900 x3903 = some (r1, r2)) ?step k3847 _ _ ?init)
    case init =>
     exact ⟨_, 0, x3835, (fun q_ => List.getD [undef, (g3838 1), undef, (g3838 3), (g3838 4), (g3838 5), (g3838 6), (g3838 7), (g3838 8), (g3838 9), undef, undef, .bool true, .int .i64 x3832, .pointer (some ⟨g0, 0, none⟩), .pointer (some ⟨g0, 0, none⟩), .pointer (some ⟨g0, 0, none⟩), .slice A0_0 l0_0.length c0_0, undef, undef, (g3838 20), (g3838 21), (g3838 22), (g3838 23), (g3838 24), (g3838 25), (g3838 26), (g3838 27), (g3838 28), (g3838 29), (g3838 30), (g3838 31), (g3838 32), (g3838 33), (g3838 34), (g3838 35), (g3838 36), (g3838 37), (g3838 38), (g3838 39), (g3838 40), (g3838 41), (g3838 42), (g3838 43), (g3838 44), (g3838 45), (g3838 46), (g3838 47), (g3838 48), (g3838 49), (g3838 50), (g3838 51), (g3838 52), (g3838 53), (g3838 54), (g3838 55), (g3838 56), (g3838 57), (g3838 58), (g3838 59), (g3838 60), (g3838 61), (g3838 62), (g3838 63), (g3838 64), (g3838 65), (g3838 66), (g3838 67), (g3838 68), (g3838 69), (g3838 70), (g3838 71), (g3838 72), (g3838 73), (g3838 74), (g3838 75), (g3838 76), (g3838 77), (g3838 78), (g3838 79), (g3838 80), (g3838 81), (g3838 82), (g3838 83), (g3838 84), (g3838 85), (g3838 86), (g3838 87), (g3838 88), (g3838 89), (g3838 90), (g3838 91), (g3838 92)] q_ undef), rfl, HS3842, Nat.le_refl _, HJ3833, HJ3834, HL3836, HJ3837, H⟩
    case step =>
     intro kq3909 ih3912 a3913 w3908 hr3914
     obtain ⟨C3907, x3900, x3903, g3906, rfl, HS3910, hk3911, HJ3901, HJ3902, HL3904, HJ3905, H⟩ := hr3914
     refine looped_round ?_
     cases kq3909 with
     | zero => exact absurd H (by simp [order_Order_close.l0])
     | succ k3915 =>
      simp only [order_Order_close.l0] at H
      refine wp_seq_k fun K3916 hK3916 => ?_
      refine wl_region ?_
      refine st (.bool (decide (x3900 < (l0_0.length : Int)))) rfl rfl (xr_bin _ _ _ rfl rfl rfl (B.lss_i64 _ _)) ?_
      refine wl_end ?_
      (try simp only [Act.put, List.setIfInBounds_toArray, ls0, ls1])
      refine hK3916 _ _ ?_
      (try clear hK3916 K3916)
      refine wp_seq_k fun K3917 hK3917 => ?_
      by_cases c3918 : x3900 < (l0_0.length : Int)
      ·rw [if_pos c3918] at H
       (try rw [(decide_eq_true c3918)])
       (try simp only [Bool.not_true, Bool.not_false])
       refine wp_cond_true rfl ?_
       refine wp_skip ?_
       (try simp only [Act.put, List.setIfInBounds_toArray, ls0, ls1])
       refine hK3917 _ _ ?_
       (try clear hK3917 K3917)
       refine wp_seq_k fun K3919 hK3919 => ?_
       refine wp_block ?_
       refine wp_seq_k fun K3920 hK3920 => ?_
       refine wl_region ?_
       refine st (.int .i64 x3900) rfl rfl (xr_move _ rfl rfl) ?_
       refine st (.int .i64 x3900) rfl rfl (xr_assign _ rfl rfl) ?_
       refine wl_end ?_
       (try simp only [Act.put, List.setIfInBounds_toArray, ls0, ls1])
       refine hK3920 _ _ ?_
       (try clear hK3920 K3920)
       refine wp_seq_k fun K3921 hK3921 => ?_
       refine wl_region ?_
       refine st (.pointer (some ⟨g0, 0, none⟩)) rfl rfl (xr_move _ rfl rfl) ?_
       refine st (.int .i64 x3900) rfl rfl (xr_move _ rfl rfl) ?_
       refine st (.pointer (some ⟨g0, 0, none⟩)) rfl rfl (xr_nilCheck _ rfl rfl) ?_
       refine st (.pointer (some ⟨g0, 2, none⟩)) rfl rfl (xr_fieldAddr _ _ rfl rfl (bx_field2 Tryd.underlying81 rfl rfl (by kernel_rfl))) ?_
       simp only [ls0, ls1]
       by_cases c3922 : 0 ≤ x3900
       ·rw [if_pos c3922] at H
        by_cases c3923 : x3900 < 64
        ·rw [if_pos c3923] at H
         refine st (.pointer (some ⟨g0, 2 + ((x3900 : Int).toNat), none⟩)) rfl rfl (xr_indexAddr _ _ _ rfl rfl rfl (arr_index (sz := 1) Tryd.underlying79 (by kernel_rfl) (by first | assumption | decide | omega) (by first | assumption | decide | omega) (by omega))) ?_
         refine st (.int .u64 (List.getD x3903 ((x3900 : Int).toNat) 0)) rfl rfl (xr_load _ _ rfl rfl (arr_load (o := 2) (N := 64) (pre := [.slice A0_0 l0_0.length c0_0, v0_1]) (post := List.map (Value.int .u64) a0_3) (enc := (Value.int .u64)) (l := x3903) (i := (x3900 : Int).toNat) 0 Tryd.underlying58 rfl (HJ3905).2 (by first | (simp only [List.append_assoc, List.cons_append, List.nil_append, List.append_nil]; done) | rfl) rfl HL3904 (by omega) (by omega))) ?_
         refine st (.int .i64 x3832) rfl rfl (xr_move _ rfl rfl) ?_
         refine st (.int .u64 (IntKind.u64.wrap (x3832))) rfl rfl (xr_conv (.int .i64 x3832) _ rfl rfl (by first | rfl | (go_simp; done) | (go_simp; rfl) | (go_simp; exact i64_w _) | (go_simp; exact i32_w _))) ?_
         simp only [ls0, ls1]
         by_cases c3924 : 0 ≤ (IntKind.u64.wrap (x3832))
         ·rw [if_pos c3924] at H
          refine st (.int .u64 (shr .u64 (List.getD x3903 ((x3900 : Int).toNat) 0) (IntKind.u64.wrap (x3832)))) rfl rfl (xr_bin _ _ _ rfl rfl rfl (B.shr_u64_u64 _ _ (by assumption))) ?_
          refine st (.int .u64 (Go.bits .and .u64 (shr .u64 (List.getD x3903 ((x3900 : Int).toNat) 0) (IntKind.u64.wrap (x3832))) 1)) rfl rfl (xr_bin _ _ _ rfl rfl rfl (B.and_u64 _ _)) ?_
          refine st (.bool (decide ((Go.bits .and .u64 (shr .u64 (List.getD x3903 ((x3900 : Int).toNat) 0) (IntKind.u64.wrap (x3832))) 1) = 1))) rfl rfl (xr_bin _ _ _ rfl rfl rfl (B.eql_u64 _ _)) ?_
          refine wl_end ?_
          (try simp only [Act.put, List.setIfInBounds_toArray, ls0, ls1])
          refine hK3921 _ _ ?_
          (try clear hK3921 K3921)
          by_cases c3925 : (Go.bits .and .u64 (shr .u64 (List.getD x3903 ((x3900 : Int).toNat) 0) (IntKind.u64.wrap (x3832))) 1) = 1
          ·rw [if_pos c3925] at H
           (try rw [(decide_eq_true c3925)])
           (try simp only [Bool.not_true, Bool.not_false])
           refine wp_cond_true rfl ?_
           (try simp only [Act.put, List.setIfInBounds_toArray, ls0, ls1])
           refine al_start (lb 17 0) rfl rfl rfl (fun w_ => w_.heap[g0]? = some (.cells (List.toArray ([.slice A0_0 l0_0.length c0_0, v0_1] ++ (List.map (Value.int .u64) x3903 ++ (List.map (Value.int .u64) a0_3)))) 81 (0, 0))) (HJ3905.drew).2 [16] ?_
           replace HJ3905 := HJ3905.drew
           replace HJ3901 := HJ3901.drew
           replace HJ3902 := HJ3902.drew
           replace HS3910 := Step.ofDrew HS3910
           generalize w3908.drew = w3926 at *
           refine al_pure 0 33 (.pointer (some ⟨g0, 0, none⟩)) (lb 17 1) rfl rfl (by kernel_rfl) (fun _ _ _ => id) rfl (fun w_ => xr_move _ rfl rfl) ?_
           refine al_pure 1 34 (.int .i64 x3900) (lb 17 3) rfl rfl (by kernel_rfl) (fun _ _ _ => id) rfl (fun w_ => xr_move _ rfl rfl) ?_
           refine al_pure 2 35 (.pointer (some ⟨g0, 0, none⟩)) (lb 17 7) rfl rfl (by kernel_rfl) (fun _ _ _ => id) rfl (fun w_ => xr_nilCheck _ rfl rfl) ?_
           refine al_pure 3 36 (.pointer (some ⟨g0, 2, none⟩)) (lb 17 15) rfl rfl (by kernel_rfl) (fun _ _ _ => id) rfl (fun w_ => xr_fieldAddr _ _ rfl rfl (bx_field2 Tryd.underlying81 rfl rfl (by kernel_rfl))) ?_
           simp only [ls0, ls1]
           refine al_pure 4 37 (.pointer (some ⟨g0, 2 + ((x3900 : Int).toNat), none⟩)) (lb 17 31) rfl rfl (by kernel_rfl) (fun _ _ _ => id) rfl (fun w_ => xr_indexAddr _ _ _ rfl rfl rfl (arr_index (sz := 1) Tryd.underlying79 (by kernel_rfl) (by first | assumption | decide | omega) (by first | assumption | decide | omega) (by omega))) ?_
           refine al_pure 6 39 (.pointer (some ⟨g0, 0, none⟩)) (lb 17 95) rfl rfl (by kernel_rfl) (fun _ _ _ => id) rfl (fun w_ => xr_move _ rfl rfl) ?_
           refine al_pure 7 40 (.int .i64 x3832) (lb 17 223) rfl rfl (by kernel_rfl) (fun _ _ _ => id) rfl (fun w_ => xr_move _ rfl rfl) ?_
           refine al_pure 8 41 (.pointer (some ⟨g0, 0, none⟩)) (lb 17 479) rfl rfl (by kernel_rfl) (fun _ _ _ => id) rfl (fun w_ => xr_nilCheck _ rfl rfl) ?_
           simp only [ls0, ls1]
           refine al_pure 9 42 (.pointer (some ⟨g0, 2, none⟩)) (lb 17 991) rfl rfl (by kernel_rfl) (fun _ _ _ => id) rfl (fun w_ => xr_fieldAddr _ _ rfl rfl (bx_field2 Tryd.underlying81 rfl rfl (by kernel_rfl))) ?_
           by_cases c3927 : 0 ≤ x3832
           ·rw [if_pos c3927] at H
            by_cases c3928 : x3832 < 64
            ·rw [if_pos c3928] at H
             refine al_pure 10 43 (.pointer (some ⟨g0, 2 + ((x3832 : Int).toNat), none⟩)) (lb 17 2015) rfl rfl (by kernel_rfl) (fun _ _ _ => id) rfl (fun w_ => xr_indexAddr _ _ _ rfl rfl rfl (arr_index (sz := 1) Tryd.underlying79 (by kernel_rfl) (by first | assumption | decide | omega) (by first | assumption | decide | omega) (by omega))) ?_
             refine al_pure 13 46 (.pointer (some ⟨g0, 0, none⟩)) (lb 17 10207) rfl rfl (by kernel_rfl) (fun _ _ _ => id) rfl (fun w_ => xr_nilCheck _ rfl rfl) ?_
             refine al_pure 14 47 (.pointer (some ⟨g0, 2, none⟩)) (lb 17 26591) rfl rfl (by kernel_rfl) (fun _ _ _ => id) rfl (fun w_ => xr_fieldAddr _ _ rfl rfl (bx_field2 Tryd.underlying81 rfl rfl (by kernel_rfl))) ?_
             simp only [ls0, ls1]
             refine al_take 5 38 (.int .u64 (List.getD x3903 ((x3900 : Int).toNat) 0)) (lb 17 26623) rfl rfl (by kernel_rfl) (fun _ _ _ => id) rfl (fun w_ hS_ => xr_load _ _ rfl rfl (arr_load (o := 2) (N := 64) (pre := [.slice A0_0 l0_0.length c0_0, v0_1]) (post := List.map (Value.int .u64) a0_3) (enc := (Value.int .u64)) (l := x3903) (i := (x3900 : Int).toNat) 0 Tryd.underlying58 rfl hS_ (by first | (simp only [List.append_assoc, List.cons_append, List.nil_append, List.append_nil]; done) | rfl) rfl HL3904 (by omega) (by omega))) (HJ3905).2 ?_
             refine al_take 11 44 (.int .u64 (List.getD x3903 ((x3832 : Int).toNat) 0)) (lb 17 28671) rfl rfl (by kernel_rfl) (fun _ _ _ => id) rfl (fun w_ hS_ => xr_load _ _ rfl rfl (arr_load (o := 2) (N := 64) (pre := [.slice A0_0 l0_0.length c0_0, v0_1]) (post := List.map (Value.int .u64) a0_3) (enc := (Value.int .u64)) (l := x3903) (i := (x3832 : Int).toNat) 0 Tryd.underlying58 rfl hS_ (by first | (simp only [List.append_assoc, List.cons_append, List.nil_append, List.append_nil]; done) | rfl) rfl HL3904 (by omega) (by omega))) (HJ3905).2 ?_
             refine al_pure 12 45 (.int .u64 (Go.bits .or .u64 (List.getD x3903 ((x3900 : Int).toNat) 0) (List.getD x3903 ((x3832 : Int).toNat) 0))) (lb 17 32767) rfl rfl (by kernel_rfl) (fun _ _ _ => id) rfl (fun w_ => xr_bin _ _ _ rfl rfl rfl (B.or_u64 _ _)) ?_
             refine al_pure 15 48 (.pointer (some ⟨g0, 2 + ((x3900 : Int).toNat), none⟩)) (lb 17 65535) rfl rfl (by kernel_rfl) (fun _ _ _ => id) rfl (fun w_ => xr_indexAddr _ _ _ rfl rfl rfl (arr_index (sz := 1) Tryd.underlying79 (by kernel_rfl) (by first | assumption | decide | omega) (by first | assumption | decide | omega) (by omega))) ?_
             simp only [ls0, ls1]
             obtain ⟨y3929, A3930, H⟩ := Option.bind_eq_some_iff.mp H
             (try dsimp only at H)
             refine al_last 16 (lb 17 131071) rfl rfl (by kernel_rfl) rfl (fun K_ hK_ => ?_)
             refine arr_store_step (C := C3907) (z := 1) (g := g0) (tb := 81) (of := 2) (N := 64) (pre := [.slice A0_0 l0_0.length c0_0, v0_1]) (post := List.map (Value.int .u64) a0_3) (enc := (Value.int .u64)) (l0 := x3903) (i := (x3900 : Int).toNat) (Go.bits .or .u64 (List.getD x3903 ((x3900 : Int).toNat) 0) (List.getD x3903 ((x3832 : Int).toNat) 0)) rfl rfl rfl rfl rfl rfl (by kernel_rfl) rfl HJ3905 (by first | (simp only [List.append_assoc, List.cons_append, List.nil_append, List.append_nil]; done) | rfl) rfl HL3904 (by omega) (by omega) (Option.some.inj A3930) (xs' := [.slice A0_0 l0_0.length c0_0, v0_1] ++ (List.map (Value.int .u64) y3929 ++ (List.map (Value.int .u64) a0_3))) (by first | (simp only [List.append_assoc, List.cons_append, List.nil_append, List.append_nil]; done) | rfl) ?_
             intro w3931 HX3932 HL3934 hs3933
             replace HJ3901 := HJ3901.thru hs3933 rfl
             replace HJ3902 := HJ3902.thru hs3933 rfl
             replace HS3910 := HS3910.trans hs3933 hc rfl
             refine hK_ _ _ ?_
             clear hK_ K_
             (try simp only [Act.put, List.setIfInBounds_toArray, ls0, ls1])
             refine al_end (by kernel_rfl) ?_
             (try simp only [Act.put, List.setIfInBounds_toArray, ls0, ls1])
             refine hK3919 _ _ ?_
             (try clear hK3919 K3919)
             refine wl_region ?_
             refine st (.int .i64 (wrap64 (x3900 + 1))) rfl rfl (xr_bin _ _ _ rfl rfl rfl (B.add_i64 _ _)) ?_
             refine st (.int .i64 (wrap64 (x3900 + 1))) rfl rfl (xr_move _ rfl rfl) ?_
             refine wl_end ?_
             (try simp only [Act.put, List.setIfInBounds_toArray, ls0, ls1])
             exact ih3912 k3915 (by omega) _ _ ⟨_, wrap64 (x3900 + 1), y3929, (fun q_ => List.getD [undef, (g3906 1), undef, .int .i64 x3900, (g3906 4), (g3906 5), (g3906 6), (g3906 7), (g3906 8), (g3906 9), undef, undef, (g3906 12), (g3906 13), (g3906 14), (g3906 15), (g3906 16), (g3906 17), undef, undef, .bool true, .int .i64 x3900, .pointer (some ⟨g0, 0, none⟩), .int .i64 x3900, .pointer (some ⟨g0, 0, none⟩), .pointer (some ⟨g0, 2, none⟩), .pointer (some ⟨g0, 2 + ((x3900 : Int).toNat), none⟩), .int .u64 (List.getD x3903 ((x3900 : Int).toNat) 0), .int .i64 x3832, .int .u64 (IntKind.u64.wrap (x3832)), .int .u64 (shr .u64 (List.getD x3903 ((x3900 : Int).toNat) 0) (IntKind.u64.wrap (x3832))), .int .u64 (Go.bits .and .u64 (shr .u64 (List.getD x3903 ((x3900 : Int).toNat) 0) (IntKind.u64.wrap (x3832))) 1), .bool true, .pointer (some ⟨g0, 0, none⟩), .int .i64 x3900, .pointer (some ⟨g0, 0, none⟩), .pointer (some ⟨g0, 2, none⟩), .pointer (some ⟨g0, 2 + ((x3900 : Int).toNat), none⟩), .int .u64 (List.getD x3903 ((x3900 : Int).toNat) 0), .pointer (some ⟨g0, 0, none⟩), .int .i64 x3832, .pointer (some ⟨g0, 0, none⟩), .pointer (some ⟨g0, 2, none⟩), .pointer (some ⟨g0, 2 + ((x3832 : Int).toNat), none⟩), .int .u64 (List.getD x3903 ((x3832 : Int).toNat) 0), .int .u64 (Go.bits .or .u64 (List.getD x3903 ((x3900 : Int).toNat) 0) (List.getD x3903 ((x3832 : Int).toNat) 0)), .pointer (some ⟨g0, 0, none⟩), .pointer (some ⟨g0, 2, none⟩), .pointer (some ⟨g0, 2 + ((x3900 : Int).toNat), none⟩), .int .i64 (wrap64 (x3900 + 1)), (g3906 50), (g3906 51), (g3906 52), (g3906 53), (g3906 54), (g3906 55), (g3906 56), (g3906 57), (g3906 58), (g3906 59), (g3906 60), (g3906 61), (g3906 62), (g3906 63), (g3906 64), (g3906 65), (g3906 66), (g3906 67), (g3906 68), (g3906 69), (g3906 70), (g3906 71), (g3906 72), (g3906 73), (g3906 74), (g3906 75), (g3906 76), (g3906 77), (g3906 78), (g3906 79), (g3906 80), (g3906 81), (g3906 82), (g3906 83), (g3906 84), (g3906 85), (g3906 86), (g3906 87), (g3906 88), (g3906 89), (g3906 90), (g3906 91), (g3906 92)] q_ undef), rfl, HS3910, (by omega), HJ3901, HJ3902, HL3934, HX3932, H⟩
            ·rw [if_neg c3928] at H
             exact absurd H (by simp)
           ·rw [if_neg c3927] at H
            exact absurd H (by simp)
          ·rw [if_neg c3925] at H
           (try rw [(decide_eq_false c3925)])
           (try simp only [Bool.not_true, Bool.not_false])
           refine wp_cond_false rfl ?_
           refine wp_skip ?_
           (try simp only [Act.put, List.setIfInBounds_toArray, ls0, ls1])
           refine hK3919 _ _ ?_
           (try clear hK3919 K3919)
           refine wl_region ?_
           refine st (.int .i64 (wrap64 (x3900 + 1))) rfl rfl (xr_bin _ _ _ rfl rfl rfl (B.add_i64 _ _)) ?_
           refine st (.int .i64 (wrap64 (x3900 + 1))) rfl rfl (xr_move _ rfl rfl) ?_
           refine wl_end ?_
           (try simp only [Act.put, List.setIfInBounds_toArray, ls0, ls1])
           exact ih3912 k3915 (by omega) _ _ ⟨_, wrap64 (x3900 + 1), x3903, (fun q_ => List.getD [undef, (g3906 1), undef, .int .i64 x3900, (g3906 4), (g3906 5), (g3906 6), (g3906 7), (g3906 8), (g3906 9), undef, undef, (g3906 12), (g3906 13), (g3906 14), (g3906 15), (g3906 16), (g3906 17), undef, undef, .bool true, .int .i64 x3900, .pointer (some ⟨g0, 0, none⟩), .int .i64 x3900, .pointer (some ⟨g0, 0, none⟩), .pointer (some ⟨g0, 2, none⟩), .pointer (some ⟨g0, 2 + ((x3900 : Int).toNat), none⟩), .int .u64 (List.getD x3903 ((x3900 : Int).toNat) 0), .int .i64 x3832, .int .u64 (IntKind.u64.wrap (x3832)), .int .u64 (shr .u64 (List.getD x3903 ((x3900 : Int).toNat) 0) (IntKind.u64.wrap (x3832))), .int .u64 (Go.bits .and .u64 (shr .u64 (List.getD x3903 ((x3900 : Int).toNat) 0) (IntKind.u64.wrap (x3832))) 1), .bool false, (g3906 33), (g3906 34), (g3906 35), (g3906 36), (g3906 37), (g3906 38), (g3906 39), (g3906 40), (g3906 41), (g3906 42), (g3906 43), (g3906 44), (g3906 45), (g3906 46), (g3906 47), (g3906 48), .int .i64 (wrap64 (x3900 + 1)), (g3906 50), (g3906 51), (g3906 52), (g3906 53), (g3906 54), (g3906 55), (g3906 56), (g3906 57), (g3906 58), (g3906 59), (g3906 60), (g3906 61), (g3906 62), (g3906 63), (g3906 64), (g3906 65), (g3906 66), (g3906 67), (g3906 68), (g3906 69), (g3906 70), (g3906 71), (g3906 72), (g3906 73), (g3906 74), (g3906 75), (g3906 76), (g3906 77), (g3906 78), (g3906 79), (g3906 80), (g3906 81), (g3906 82), (g3906 83), (g3906 84), (g3906 85), (g3906 86), (g3906 87), (g3906 88), (g3906 89), (g3906 90), (g3906 91), (g3906 92)] q_ undef), rfl, HS3910, (by omega), HJ3901, HJ3902, HL3904, HJ3905, H⟩
         ·rw [if_neg c3924] at H
          exact absurd H (by simp)
        ·rw [if_neg c3923] at H
         exact absurd H (by simp)
       ·rw [if_neg c3922] at H
        exact absurd H (by simp)
      ·rw [if_neg c3918] at H
       (try rw [(decide_eq_false c3918)])
       (try simp only [Bool.not_true, Bool.not_false])
       refine wp_cond_false rfl ?_
       refine wp_exit ?_
       (try simp only [Act.put, List.setIfInBounds_toArray, ls0, ls1])
       refine hK3851 _ _ ?_
       (try clear hK3851 K3851)
       refine wl_region ?_
       refine st (.int .i64 (wrap64 (x3832 + 1))) rfl rfl (xr_bin _ _ _ rfl rfl rfl (B.add_i64 _ _)) ?_
       refine st (.int .i64 (wrap64 (x3832 + 1))) rfl rfl (xr_move _ rfl rfl) ?_
       refine wl_end ?_
       (try simp only [Act.put, List.setIfInBounds_toArray, ls0, ls1])
       exact ih3844 k3915 (by omega) _ _ ⟨_, wrap64 (x3832 + 1), x3903, (fun q_ => List.getD [undef, (g3906 1), .int .i64 x3832, (g3906 3), (g3906 4), (g3906 5), (g3906 6), (g3906 7), (g3906 8), (g3906 9), undef, undef, (g3906 12), (g3906 13), (g3906 14), (g3906 15), (g3906 16), (g3906 17), .int .i64 (l0_0.length : Int), .int .i64 x3900, .bool false, (g3906 21), (g3906 22), (g3906 23), (g3906 24), (g3906 25), (g3906 26), (g3906 27), (g3906 28), (g3906 29), (g3906 30), (g3906 31), (g3906 32), (g3906 33), (g3906 34), (g3906 35), (g3906 36), (g3906 37), (g3906 38), (g3906 39), (g3906 40), (g3906 41), (g3906 42), (g3906 43), (g3906 44), (g3906 45), (g3906 46), (g3906 47), (g3906 48), (g3906 49), .int .i64 (wrap64 (x3832 + 1)), (g3906 51), (g3906 52), (g3906 53), (g3906 54), (g3906 55), (g3906 56), (g3906 57), (g3906 58), (g3906 59), (g3906 60), (g3906 61), (g3906 62), (g3906 63), (g3906 64), (g3906 65), (g3906 66), (g3906 67), (g3906 68), (g3906 69), (g3906 70), (g3906 71), (g3906 72), (g3906 73), (g3906 74), (g3906 75), (g3906 76), (g3906 77), (g3906 78), (g3906 79), (g3906 80), (g3906 81), (g3906 82), (g3906 83), (g3906 84), (g3906 85), (g3906 86), (g3906 87), (g3906 88), (g3906 89), (g3906 90), (g3906 91), (g3906 92)] q_ undef), rfl, HS3910, (by omega), HJ3901, HJ3902, HL3904, HJ3905, H⟩
   ·rw [if_neg c3850] at H
    (try rw [(decide_eq_false c3850)])
    (try simp only [Bool.not_true, Bool.not_false])
    refine wp_cond_false rfl ?_
    refine wp_exit ?_
    (try simp only [Act.put, List.setIfInBounds_toArray, ls0, ls1])
    refine hK3362 _ _ ?_
    (try clear hK3362 K3362)
    refine wp_seq_k fun K3935 hK3935 => ?_
    refine wl_region ?_
    refine st (.pointer (some ⟨g0, 0, none⟩)) rfl rfl (xr_move _ rfl rfl) ?_
    refine st (.pointer (some ⟨g0, 0, none⟩)) rfl rfl (xr_nilCheck _ rfl rfl) ?_
    refine st (.pointer (some ⟨g0, 0, none⟩)) rfl rfl (xr_fieldAddr _ _ rfl rfl (bx_field2 Tryd.underlying81 rfl rfl (by kernel_rfl))) ?_
    refine st (.slice A0_0 l0_0.length c0_0) rfl rfl (xr_load _ _ rfl rfl (load_cell Tryd.underlying30 rfl (bx_cell (HJ3837).2 0 rfl))) ?_
    simp only [ls0, ls1]
    refine st (.int .i64 (l0_0.length : Int)) rfl rfl (xr_builtin #[.slice A0_0 l0_0.length c0_0] (.int .i64 (l0_0.length : Int)) rfl (mp_ rfl) (by first | rfl | (go_simp; done) | (go_simp; rfl) | (go_simp; exact i64_w _) | (go_simp; exact i32_w _))) ?_
    refine st (.int .i64 0) rfl rfl (xr_move _ rfl rfl) ?_
    refine wl_end ?_
    (try simp only [Act.put, List.setIfInBounds_toArray, ls0, ls1])
    refine hK3935 _ _ ?_
    (try clear hK3935 K3935)
    refine wp_block ?_
    (try simp only [Act.put, List.setIfInBounds_toArray, ls0, ls1])
    refine wp_looped (looped_ind (fun kq4131 a_ w4130 => ∃ (C4129 : Nat → Nat) (x4122 : Int) (x4125 : List Int) (g4128 : Nat → Value), a_ = ⟨#[.pointer (some ⟨g0, 0, none⟩), (g4128 1), (g4128 2), (g4128 3), (g4128 4), (g4128 5), (g4128 6), (g4128 7), (g4128 8), (g4128 9), (g4128 10), (g4128 11), (g4128 12), (g4128 13), (g4128 14), (g4128 15), (g4128 16), (g4128 17), (g4128 18), (g4128 19), (g4128 20), (g4128 21), (g4128 22), (g4128 23), (g4128 24), (g4128 25), (g4128 26), (g4128 27), (g4128 28), (g4128 29), (g4128 30), (g4128 31), (g4128 32), (g4128 33), (g4128 34), (g4128 35), (g4128 36), (g4128 37), (g4128 38), (g4128 39), (g4128 40), (g4128 41), (g4128 42), (g4128 43), (g4128 44), (g4128 45), (g4128 46), (g4128 47), (g4128 48), (g4128 49), (g4128 50), (g4128 51), (g4128 52), (g4128 53), (g4128 54), .int .i64 (l0_0.length : Int), .int .i64 x4122, (g4128 57), (g4128 58), (g4128 59), (g4128 60), (g4128 61), (g4128 62), (g4128 63), (g4128 64), (g4128 65), (g4128 66), (g4128 67), (g4128 68), (g4128 69), (g4128 70), (g4128 71), (g4128 72), (g4128 73), (g4128 74), (g4128 75), (g4128 76), (g4128 77), (g4128 78), (g4128 79), (g4128 80), (g4128 81), (g4128 82), (g4128 83), (g4128 84), (g4128 85), (g4128 86), (g4128 87), (g4128 88), (g4128 89), (g4128 90), (g4128 91), (g4128 92)], []⟩ ∧ Step c w C4129 w4130 [1] ∧ kq4131 ≤ k3847 ∧ (Ft C4129 [0] w4130 (fun w_ => Kd.string.C w_ A0_0 l0_0.length l0_0)) ∧ (Ft C4129 [0] w4130 (fun w_ => (Kd.mp Value.string (Value.int .i64)).K w_ m0_1 [v0_1])) ∧ (x4125.length = 64) ∧ (Bx C4129 1 w4130 g0 81 ([.slice A0_0 l0_0.length c0_0, v0_1] ++ (List.map (Value.int .u64) x3835 ++ (List.map (Value.int .u64) x4125)))) ∧ order_Order_close.l2 kq4131 l0_0 x3835 x4122 x4125 = some (r1, r2)) ?step k3847 _ _ ?init)
    case init =>
     exact ⟨_, 0, a0_3, (fun q_ => List.getD [undef, (g3838 1), (g3838 2), (g3838 3), (g3838 4), (g3838 5), (g3838 6), (g3838 7), (g3838 8), (g3838 9), .int .i64 (l0_0.length : Int), .int .i64 x3832, .bool false, (g3838 13), (g3838 14), (g3838 15), (g3838 16), (g3838 17), (g3838 18), (g3838 19), (g3838 20), (g3838 21), (g3838 22), (g3838 23), (g3838 24), (g3838 25), (g3838 26), (g3838 27), (g3838 28), (g3838 29), (g3838 30), (g3838 31), (g3838 32), (g3838 33), (g3838 34), (g3838 35), (g3838 36), (g3838 37), (g3838 38), (g3838 39), (g3838 40), (g3838 41), (g3838 42), (g3838 43), (g3838 44), (g3838 45), (g3838 46), (g3838 47), (g3838 48), (g3838 49), (g3838 50), .pointer (some ⟨g0, 0, none⟩), .pointer (some ⟨g0, 0, none⟩), .pointer (some ⟨g0, 0, none⟩), .slice A0_0 l0_0.length c0_0, undef, undef, (g3838 57), (g3838 58), (g3838 59), (g3838 60), (g3838 61), (g3838 62), (g3838 63), (g3838 64), (g3838 65), (g3838 66), (g3838 67), (g3838 68), (g3838 69), (g3838 70), (g3838 71), (g3838 72), (g3838 73), (g3838 74), (g3838 75), (g3838 76), (g3838 77), (g3838 78), (g3838 79), (g3838 80), (g3838 81), (g3838 82), (g3838 83), (g3838 84), (g3838 85), (g3838 86), (g3838 87), (g3838 88), (g3838 89), (g3838 90), (g3838 91), (g3838 92)] q_ undef), rfl, HS3842, Nat.le_refl _, HJ3833, HJ3834, HL0_3, HJ3837, H⟩
    case step =>
     intro kq4131 ih4134 a4135 w4130 hr4136
     obtain ⟨C4129, x4122, x4125, g4128, rfl, HS4132, hk4133, HJ4123, HJ4124, HL4126, HJ4127, H⟩ := hr4136
     refine looped_round ?_
     cases kq4131 with
     | zero => exact absurd H (by simp [order_Order_close.l2])
     | succ k4137 =>
      simp only [order_Order_close.l2] at H
      refine wp_seq_k fun K4138 hK4138 => ?_
      refine wl_region ?_
      refine st (.bool (decide (x4122 < (l0_0.length : Int)))) rfl rfl (xr_bin _ _ _ rfl rfl rfl (B.lss_i64 _ _)) ?_
      refine wl_end ?_
      (try simp only [Act.put, List.setIfInBounds_toArray, ls0, ls1])
      refine hK4138 _ _ ?_
      (try clear hK4138 K4138)
      refine wp_seq_k fun K4139 hK4139 => ?_
      by_cases c4140 : x4122 < (l0_0.length : Int)
      ·rw [if_pos c4140] at H
       (try rw [(decide_eq_true c4140)])
       (try simp only [Bool.not_true, Bool.not_false])
       refine wp_cond_true rfl ?_
       refine wp_skip ?_
       (try simp only [Act.put, List.setIfInBounds_toArray, ls0, ls1])
       refine hK4139 _ _ ?_
       (try clear hK4139 K4139)
       refine wp_seq_k fun K4141 hK4141 => ?_
       refine wp_block ?_
       refine wp_seq_k fun K4142 hK4142 => ?_
       refine wl_region ?_
       refine st (.int .i64 x4122) rfl rfl (xr_move _ rfl rfl) ?_
       refine st (.int .i64 x4122) rfl rfl (xr_assign _ rfl rfl) ?_
       refine wl_end ?_
       (try simp only [Act.put, List.setIfInBounds_toArray, ls0, ls1])
       refine hK4142 _ _ ?_
       (try clear hK4142 K4142)
       refine wp_seq_k fun K4143 hK4143 => ?_
       refine wl_region ?_
       refine st (.pointer (some ⟨g0, 0, none⟩)) rfl rfl (xr_move _ rfl rfl) ?_
       refine st (.pointer (some ⟨g0, 0, none⟩)) rfl rfl (xr_nilCheck _ rfl rfl) ?_
       refine st (.pointer (some ⟨g0, 0, none⟩)) rfl rfl (xr_fieldAddr _ _ rfl rfl (bx_field2 Tryd.underlying81 rfl rfl (by kernel_rfl))) ?_
       refine st (.slice A0_0 l0_0.length c0_0) rfl rfl (xr_load _ _ rfl rfl (load_cell Tryd.underlying30 rfl (bx_cell (HJ4127).2 0 rfl))) ?_
       simp only [ls0, ls1]
       refine st (.int .i64 (l0_0.length : Int)) rfl rfl (xr_builtin #[.slice A0_0 l0_0.length c0_0] (.int .i64 (l0_0.length : Int)) rfl (mp_ rfl) (by first | rfl | (go_simp; done) | (go_simp; rfl) | (go_simp; exact i64_w _) | (go_simp; exact i32_w _))) ?_
       refine st (.int .i64 0) rfl rfl (xr_move _ rfl rfl) ?_
       refine wl_end ?_
       (try simp only [Act.put, List.setIfInBounds_toArray, ls0, ls1])
       refine hK4143 _ _ ?_
       (try clear hK4143 K4143)
       refine wp_block ?_
       (try simp only [Act.put, List.setIfInBounds_toArray, ls0, ls1])
       refine wp_looped (looped_ind (fun kq4200 a_ w4199 => ∃ (C4198 : Nat → Nat) (x4191 : Int) (x4194 : List Int) (g4197 : Nat → Value), a_ = ⟨#[.pointer (some ⟨g0, 0, none⟩), (g4197 1), (g4197 2), (g4197 3), .int .i64 x4122, (g4197 5), (g4197 6), (g4197 7), (g4197 8), (g4197 9), (g4197 10), (g4197 11), (g4197 12), (g4197 13), (g4197 14), (g4197 15), (g4197 16), (g4197 17), (g4197 18), (g4197 19), (g4197 20), (g4197 21), (g4197 22), (g4197 23), (g4197 24), (g4197 25), (g4197 26), (g4197 27), (g4197 28), (g4197 29), (g4197 30), (g4197 31), (g4197 32), (g4197 33), (g4197 34), (g4197 35), (g4197 36), (g4197 37), (g4197 38), (g4197 39), (g4197 40), (g4197 41), (g4197 42), (g4197 43), (g4197 44), (g4197 45), (g4197 46), (g4197 47), (g4197 48), (g4197 49), (g4197 50), (g4197 51), (g4197 52), (g4197 53), (g4197 54), .int .i64 (l0_0.length : Int), .int .i64 x4122, (g4197 57), (g4197 58), (g4197 59), (g4197 60), (g4197 61), (g4197 62), .int .i64 (l0_0.length : Int), .int .i64 x4191, (g4197 65), (g4197 66), (g4197 67), (g4197 68), (g4197 69), (g4197 70), (g4197 71), (g4197 72), (g4197 73), (g4197 74), (g4197 75), (g4197 76), (g4197 77), (g4197 78), (g4197 79), (g4197 80), (g4197 81), (g4197 82), (g4197 83), (g4197 84), (g4197 85), (g4197 86), (g4197 87), (g4197 88), (g4197 89), (g4197 90), (g4197 91), (g4197 92)], []⟩ ∧ Step c w C4198 w4199 [1] ∧ kq4200 ≤ k4137 ∧ (Ft C4198 [0] w4199 (fun w_ => Kd.string.C w_ A0_0 l0_0.length l0_0)) ∧ (Ft C4198 [0] w4199 (fun w_ => (Kd.mp Value.string (Value.int .i64)).K w_ m0_1 [v0_1])) ∧ (x4194.length = 64) ∧ (Bx C4198 1 w4199 g0 81 ([.slice A0_0 l0_0.length c0_0, v0_1] ++ (List.map (Value.int .u64) x3835 ++ (List.map (Value.int .u64) x4194)))) ∧ order_Order_close.l1 kq4200 l0_0 x3835 x4122 x4191 x4194 = some (r1, r2)) ?step k4137 _ _ ?init)
       case init =>
        exact ⟨_, 0, x4125, (fun q_ => List.getD [undef, (g4128 1), (g4128 2), (g4128 3), undef, (g4128 5), (g4128 6), (g4128 7), (g4128 8), (g4128 9), (g4128 10), (g4128 11), (g4128 12), (g4128 13), (g4128 14), (g4128 15), (g4128 16), (g4128 17), (g4128 18), (g4128 19), (g4128 20), (g4128 21), (g4128 22), (g4128 23), (g4128 24), (g4128 25), (g4128 26), (g4128 27), (g4128 28), (g4128 29), (g4128 30), (g4128 31), (g4128 32), (g4128 33), (g4128 34), (g4128 35), (g4128 36), (g4128 37), (g4128 38), (g4128 39), (g4128 40), (g4128 41), (g4128 42), (g4128 43), (g4128 44), (g4128 45), (g4128 46), (g4128 47), (g4128 48), (g4128 49), (g4128 50), (g4128 51), (g4128 52), (g4128 53), (g4128 54), undef, undef, .bool true, .int .i64 x4122, .pointer (some ⟨g0, 0, none⟩), .pointer (some ⟨g0, 0, none⟩), .pointer (some ⟨g0, 0, none⟩), .slice A0_0 l0_0.length c0_0, undef, undef, (g4128 65), (g4128 66), (g4128 67), (g4128 68), (g4128 69), (g4128 70), (g4128 71), (g4128 72), (g4128 73), (g4128 74), (g4128 75), (g4128 76), (g4128 77), (g4128 78), (g4128 79), (g4128 80), (g4128 81), (g4128 82), (g4128 83), (g4128 84), (g4128 85), (g4128 86), (g4128 87), (g4128 88), (g4128 89), (g4128 90), (g4128 91), (g4128 92)] q_ undef), rfl, HS4132, Nat.le_refl _, HJ4123, HJ4124, HL4126, HJ4127, H⟩
       case step =>
        intro kq4200 ih4203 a4204 w4199 hr4205
        obtain ⟨C4198, x4191, x4194, g4197, rfl, HS4201, hk4202, HJ4192, HJ4193, HL4195, HJ4196, H⟩ := hr4205
        refine looped_round ?_
        cases kq4200 with
        | zero => exact absurd H (by simp [order_Order_close.l1])
        | succ k4206 =>
         simp only [order_Order_close.l1] at H
         refine wp_seq_k fun K4207 hK4207 => ?_
         refine wl_region ?_
         refine st (.bool (decide (x4191 < (l0_0.length : Int)))) rfl rfl (xr_bin _ _ _ rfl rfl rfl (B.lss_i64 _ _)) ?_
         refine wl_end ?_
         (try simp only [Act.put, List.setIfInBounds_toArray, ls0, ls1])
         refine hK4207 _ _ ?_
         (try clear hK4207 K4207)
         refine wp_seq_k fun K4208 hK4208 => ?_
         by_cases c4209 : x4191 < (l0_0.length : Int)
         ·rw [if_pos c4209] at H
          (try rw [(decide_eq_true c4209)])
          (try simp only [Bool.not_true, Bool.not_false])
          refine wp_cond_true rfl ?_
          refine wp_skip ?_
          (try simp only [Act.put, List.setIfInBounds_toArray, ls0, ls1])
          refine hK4208 _ _ ?_
          (try clear hK4208 K4208)
          refine wp_seq_k fun K4210 hK4210 => ?_
          refine wp_block ?_
          refine wp_seq_k fun K4211 hK4211 => ?_
          refine wl_region ?_
          refine st (.int .i64 x4191) rfl rfl (xr_move _ rfl rfl) ?_
          refine st (.int .i64 x4191) rfl rfl (xr_assign _ rfl rfl) ?_
          refine wl_end ?_
          (try simp only [Act.put, List.setIfInBounds_toArray, ls0, ls1])
          refine hK4211 _ _ ?_
          (try clear hK4211 K4211)
          refine wp_seq_k fun K4212 hK4212 => ?_
          refine wl_region ?_
          refine st (.pointer (some ⟨g0, 0, none⟩)) rfl rfl (xr_move _ rfl rfl) ?_
          refine st (.int .i64 x4191) rfl rfl (xr_move _ rfl rfl) ?_
          refine st (.pointer (some ⟨g0, 0, none⟩)) rfl rfl (xr_nilCheck _ rfl rfl) ?_
          refine st (.pointer (some ⟨g0, 2, none⟩)) rfl rfl (xr_fieldAddr _ _ rfl rfl (bx_field2 Tryd.underlying81 rfl rfl (by kernel_rfl))) ?_
          simp only [ls0, ls1]
          by_cases c4213 : 0 ≤ x4191
          ·rw [if_pos c4213] at H
           by_cases c4214 : x4191 < 64
           ·rw [if_pos c4214] at H
            refine st (.pointer (some ⟨g0, 2 + ((x4191 : Int).toNat), none⟩)) rfl rfl (xr_indexAddr _ _ _ rfl rfl rfl (arr_index (sz := 1) Tryd.underlying79 (by kernel_rfl) (by first | assumption | decide | omega) (by first | assumption | decide | omega) (by omega))) ?_
            refine st (.int .u64 (List.getD x3835 ((x4191 : Int).toNat) 0)) rfl rfl (xr_load _ _ rfl rfl (arr_load (o := 2) (N := 64) (pre := [.slice A0_0 l0_0.length c0_0, v0_1]) (post := List.map (Value.int .u64) x4194) (enc := (Value.int .u64)) (l := x3835) (i := (x4191 : Int).toNat) 0 Tryd.underlying58 rfl (HJ4196).2 (by first | (simp only [List.append_assoc, List.cons_append, List.nil_append, List.append_nil]; done) | rfl) rfl HL3836 (by omega) (by omega))) ?_
            refine st (.int .i64 x4122) rfl rfl (xr_move _ rfl rfl) ?_
            refine st (.int .u64 (IntKind.u64.wrap (x4122))) rfl rfl (xr_conv (.int .i64 x4122) _ rfl rfl (by first | rfl | (go_simp; done) | (go_simp; rfl) | (go_simp; exact i64_w _) | (go_simp; exact i32_w _))) ?_
            simp only [ls0, ls1]
            by_cases c4215 : 0 ≤ (IntKind.u64.wrap (x4122))
            ·rw [if_pos c4215] at H
             refine st (.int .u64 (shr .u64 (List.getD x3835 ((x4191 : Int).toNat) 0) (IntKind.u64.wrap (x4122)))) rfl rfl (xr_bin _ _ _ rfl rfl rfl (B.shr_u64_u64 _ _ (by assumption))) ?_
             refine st (.int .u64 (Go.bits .and .u64 (shr .u64 (List.getD x3835 ((x4191 : Int).toNat) 0) (IntKind.u64.wrap (x4122))) 1)) rfl rfl (xr_bin _ _ _ rfl rfl rfl (B.and_u64 _ _)) ?_
             refine st (.bool (decide ((Go.bits .and .u64 (shr .u64 (List.getD x3835 ((x4191 : Int).toNat) 0) (IntKind.u64.wrap (x4122))) 1) = 1))) rfl rfl (xr_bin _ _ _ rfl rfl rfl (B.eql_u64 _ _)) ?_
             refine wl_end ?_
             (try simp only [Act.put, List.setIfInBounds_toArray, ls0, ls1])
             refine hK4212 _ _ ?_
             (try clear hK4212 K4212)
             by_cases c4216 : (Go.bits .and .u64 (shr .u64 (List.getD x3835 ((x4191 : Int).toNat) 0) (IntKind.u64.wrap (x4122))) 1) = 1
             ·rw [if_pos c4216] at H
              (try rw [(decide_eq_true c4216)])
              (try simp only [Bool.not_true, Bool.not_false])
              refine wp_cond_true rfl ?_
              (try simp only [Act.put, List.setIfInBounds_toArray, ls0, ls1])
              refine al_start (lb 14 0) rfl rfl rfl (fun w_ => w_.heap[g0]? = some (.cells (List.toArray ([.slice A0_0 l0_0.length c0_0, v0_1] ++ (List.map (Value.int .u64) x3835 ++ (List.map (Value.int .u64) x4194)))) 81 (0, 0))) (HJ4196.drew).2 [13] ?_
              replace HJ4196 := HJ4196.drew
              replace HJ4192 := HJ4192.drew
              replace HJ4193 := HJ4193.drew
              replace HS4201 := Step.ofDrew HS4201
              generalize w4199.drew = w4217 at *
              refine al_pure 0 78 (.pointer (some ⟨g0, 0, none⟩)) (lb 14 1) rfl rfl (by kernel_rfl) (fun _ _ _ => id) rfl (fun w_ => xr_move _ rfl rfl) ?_
              refine al_pure 1 79 (.int .i64 x4122) (lb 14 3) rfl rfl (by kernel_rfl) (fun _ _ _ => id) rfl (fun w_ => xr_move _ rfl rfl) ?_
              refine al_pure 2 80 (.pointer (some ⟨g0, 0, none⟩)) (lb 14 7) rfl rfl (by kernel_rfl) (fun _ _ _ => id) rfl (fun w_ => xr_nilCheck _ rfl rfl) ?_
              refine al_pure 3 81 (.pointer (some ⟨g0, 66, none⟩)) (lb 14 15) rfl rfl (by kernel_rfl) (fun _ _ _ => id) rfl (fun w_ => xr_fieldAddr _ _ rfl rfl (bx_field2 Tryd.underlying81 rfl rfl (by kernel_rfl))) ?_
              simp only [ls0, ls1]
              by_cases c4218 : 0 ≤ x4122
              ·rw [if_pos c4218] at H
               by_cases c4219 : x4122 < 64
               ·rw [if_pos c4219] at H
                refine al_pure 4 82 (.pointer (some ⟨g0, 66 + ((x4122 : Int).toNat), none⟩)) (lb 14 31) rfl rfl (by kernel_rfl) (fun _ _ _ => id) rfl (fun w_ => xr_indexAddr _ _ _ rfl rfl rfl (arr_index (sz := 1) Tryd.underlying79 (by kernel_rfl) (by first | assumption | decide | omega) (by first | assumption | decide | omega) (by omega))) ?_
                refine al_pure 6 84 (.int .i64 x4191) (lb 14 95) rfl rfl (by kernel_rfl) (fun _ _ _ => id) rfl (fun w_ => xr_move _ rfl rfl) ?_
                refine al_pure 7 85 (.int .u64 (IntKind.u64.wrap (x4191))) (lb 14 223) rfl rfl (by kernel_rfl) (fun _ _ _ => id) rfl (fun w_ => xr_conv (.int .i64 x4191) _ rfl rfl (by first | rfl | (go_simp; done) | (go_simp; rfl) | (go_simp; exact i64_w _) | (go_simp; exact i32_w _))) ?_
                by_cases c4220 : 0 ≤ (IntKind.u64.wrap (x4191))
                ·rw [if_pos c4220] at H
                 refine al_pure 8 86 (.int .u64 (shl .u64 1 (IntKind.u64.wrap (x4191)))) (lb 14 479) rfl rfl (by kernel_rfl) (fun _ _ _ => id) rfl (fun w_ => xr_bin _ _ _ rfl rfl rfl (B.shl_u64_u64 _ _ (by assumption))) ?_
                 simp only [ls0, ls1]
                 refine al_pure 10 88 (.pointer (some ⟨g0, 0, none⟩)) (lb 14 1503) rfl rfl (by kernel_rfl) (fun _ _ _ => id) rfl (fun w_ => xr_nilCheck _ rfl rfl) ?_
                 refine al_pure 11 89 (.pointer (some ⟨g0, 66, none⟩)) (lb 14 3551) rfl rfl (by kernel_rfl) (fun _ _ _ => id) rfl (fun w_ => xr_fieldAddr _ _ rfl rfl (bx_field2 Tryd.underlying81 rfl rfl (by kernel_rfl))) ?_
                 refine al_take 5 83 (.int .u64 (List.getD x4194 ((x4122 : Int).toNat) 0)) (lb 14 3583) rfl rfl (by kernel_rfl) (fun _ _ _ => id) rfl (fun w_ hS_ => xr_load _ _ rfl rfl (arr_load (o := 66) (N := 64) (pre := [.slice A0_0 l0_0.length c0_0, v0_1] ++ (List.map (Value.int .u64) x3835)) (post := []) (enc := (Value.int .u64)) (l := x4194) (i := (x4122 : Int).toNat) 0 Tryd.underlying58 rfl hS_ (by first | (simp only [List.append_assoc, List.cons_append, List.nil_append, List.append_nil]; done) | rfl) (by simp [HL3836]) HL4195 (by omega) (by omega))) (HJ4196).2 ?_
                 refine al_pure 9 87 (.int .u64 (Go.bits .or .u64 (List.getD x4194 ((x4122 : Int).toNat) 0) (shl .u64 1 (IntKind.u64.wrap (x4191))))) (lb 14 4095) rfl rfl (by kernel_rfl) (fun _ _ _ => id) rfl (fun w_ => xr_bin _ _ _ rfl rfl rfl (B.or_u64 _ _)) ?_
                 simp only [ls0, ls1]
                 refine al_pure 12 90 (.pointer (some ⟨g0, 66 + ((x4122 : Int).toNat), none⟩)) (lb 14 8191) rfl rfl (by kernel_rfl) (fun _ _ _ => id) rfl (fun w_ => xr_indexAddr _ _ _ rfl rfl rfl (arr_index (sz := 1) Tryd.underlying79 (by kernel_rfl) (by first | assumption | decide | omega) (by first | assumption | decide | omega) (by omega))) ?_
                 obtain ⟨y4221, A4222, H⟩ := Option.bind_eq_some_iff.mp H
                 (try dsimp only at H)
                 refine al_last 13 (lb 14 16383) rfl rfl (by kernel_rfl) rfl (fun K_ hK_ => ?_)
                 refine arr_store_step (C := C4198) (z := 1) (g := g0) (tb := 81) (of := 66) (N := 64) (pre := [.slice A0_0 l0_0.length c0_0, v0_1] ++ (List.map (Value.int .u64) x3835)) (post := []) (enc := (Value.int .u64)) (l0 := x4194) (i := (x4122 : Int).toNat) (Go.bits .or .u64 (List.getD x4194 ((x4122 : Int).toNat) 0) (shl .u64 1 (IntKind.u64.wrap (x4191)))) rfl rfl rfl rfl rfl rfl (by kernel_rfl) rfl HJ4196 (by first | (simp only [List.append_assoc, List.cons_append, List.nil_append, List.append_nil]; done) | rfl) (by simp [HL3836]) HL4195 (by omega) (by omega) (Option.some.inj A4222) (xs' := [.slice A0_0 l0_0.length c0_0, v0_1] ++ (List.map (Value.int .u64) x3835 ++ (List.map (Value.int .u64) y4221))) (by first | (simp only [List.append_assoc, List.cons_append, List.nil_append, List.append_nil]; done) | rfl) ?_
                 intro w4223 HX4224 HL4226 hs4225
                 replace HJ4192 := HJ4192.thru hs4225 rfl
                 replace HJ4193 := HJ4193.thru hs4225 rfl
                 replace HS4201 := HS4201.trans hs4225 hc rfl
                 refine hK_ _ _ ?_
                 clear hK_ K_
                 (try simp only [Act.put, List.setIfInBounds_toArray, ls0, ls1])
                 refine al_end (by kernel_rfl) ?_
                 (try simp only [Act.put, List.setIfInBounds_toArray, ls0, ls1])
                 refine hK4210 _ _ ?_
                 (try clear hK4210 K4210)
                 refine wl_region ?_
                 refine st (.int .i64 (wrap64 (x4191 + 1))) rfl rfl (xr_bin _ _ _ rfl rfl rfl (B.add_i64 _ _)) ?_
                 refine st (.int .i64 (wrap64 (x4191 + 1))) rfl rfl (xr_move _ rfl rfl) ?_
                 refine wl_end ?_
                 (try simp only [Act.put, List.setIfInBounds_toArray, ls0, ls1])
                 exact ih4203 k4206 (by omega) _ _ ⟨_, wrap64 (x4191 + 1), y4221, (fun q_ => List.getD [undef, (g4197 1), (g4197 2), (g4197 3), undef, .int .i64 x4191, (g4197 6), (g4197 7), (g4197 8), (g4197 9), (g4197 10), (g4197 11), (g4197 12), (g4197 13), (g4197 14), (g4197 15), (g4197 16), (g4197 17), (g4197 18), (g4197 19), (g4197 20), (g4197 21), (g4197 22), (g4197 23), (g4197 24), (g4197 25), (g4197 26), (g4197 27), (g4197 28), (g4197 29), (g4197 30), (g4197 31), (g4197 32), (g4197 33), (g4197 34), (g4197 35), (g4197 36), (g4197 37), (g4197 38), (g4197 39), (g4197 40), (g4197 41), (g4197 42), (g4197 43), (g4197 44), (g4197 45), (g4197 46), (g4197 47), (g4197 48), (g4197 49), (g4197 50), (g4197 51), (g4197 52), (g4197 53), (g4197 54), undef, undef, (g4197 57), (g4197 58), (g4197 59), (g4197 60), (g4197 61), (g4197 62), undef, undef, .bool true, .int .i64 x4191, .pointer (some ⟨g0, 0, none⟩), .int .i64 x4191, .pointer (some ⟨g0, 0, none⟩), .pointer (some ⟨g0, 2, none⟩), .pointer (some ⟨g0, 2 + ((x4191 : Int).toNat), none⟩), .int .u64 (List.getD x3835 ((x4191 : Int).toNat) 0), .int .i64 x4122, .int .u64 (IntKind.u64.wrap (x4122)), .int .u64 (shr .u64 (List.getD x3835 ((x4191 : Int).toNat) 0) (IntKind.u64.wrap (x4122))), .int .u64 (Go.bits .and .u64 (shr .u64 (List.getD x3835 ((x4191 : Int).toNat) 0) (IntKind.u64.wrap (x4122))) 1), .bool true, .pointer (some ⟨g0, 0, none⟩), .int .i64 x4122, .pointer (some ⟨g0, 0, none⟩), .pointer (some ⟨g0, 66, none⟩), .pointer (some ⟨g0, 66 + ((x4122 : Int).toNat), none⟩), .int .u64 (List.getD x4194 ((x4122 : Int).toNat) 0), .int .i64 x4191, .int .u64 (IntKind.u64.wrap (x4191)), .int .u64 (shl .u64 1 (IntKind.u64.wrap (x4191))), .int .u64 (Go.bits .or .u64 (List.getD x4194 ((x4122 : Int).toNat) 0) (shl .u64 1 (IntKind.u64.wrap (x4191)))), .pointer (some ⟨g0, 0, none⟩), .pointer (some ⟨g0, 66, none⟩), .pointer (some ⟨g0, 66 + ((x4122 : Int).toNat), none⟩), .int .i64 (wrap64 (x4191 + 1)), (g4197 92)] q_ undef), rfl, HS4201, (by omega), HJ4192, HJ4193, HL4226, HX4224, H⟩
                ·rw [if_neg c4220] at H
                 exact absurd H (by simp)
               ·rw [if_neg c4219] at H
                exact absurd H (by simp)
              ·rw [if_neg c4218] at H
               exact absurd H (by simp)
             ·rw [if_neg c4216] at H
              (try rw [(decide_eq_false c4216)])
              (try simp only [Bool.not_true, Bool.not_false])
              refine wp_cond_false rfl ?_
              refine wp_skip ?_
              (try simp only [Act.put, List.setIfInBounds_toArray, ls0, ls1])
              refine hK4210 _ _ ?_
              (try clear hK4210 K4210)
              refine wl_region ?_
              refine st (.int .i64 (wrap64 (x4191 + 1))) rfl rfl (xr_bin _ _ _ rfl rfl rfl (B.add_i64 _ _)) ?_
              refine st (.int .i64 (wrap64 (x4191 + 1))) rfl rfl (xr_move _ rfl rfl) ?_
              refine wl_end ?_
              (try simp only [Act.put, List.setIfInBounds_toArray, ls0, ls1])
              exact ih4203 k4206 (by omega) _ _ ⟨_, wrap64 (x4191 + 1), x4194, (fun q_ => List.getD [undef, (g4197 1), (g4197 2), (g4197 3), undef, .int .i64 x4191, (g4197 6), (g4197 7), (g4197 8), (g4197 9), (g4197 10), (g4197 11), (g4197 12), (g4197 13), (g4197 14), (g4197 15), (g4197 16), (g4197 17), (g4197 18), (g4197 19), (g4197 20), (g4197 21), (g4197 22), (g4197 23), (g4197 24), (g4197 25), (g4197 26), (g4197 27), (g4197 28), (g4197 29), (g4197 30), (g4197 31), (g4197 32), (g4197 33), (g4197 34), (g4197 35), (g4197 36), (g4197 37), (g4197 38), (g4197 39), (g4197 40), (g4197 41), (g4197 42), (g4197 43), (g4197 44), (g4197 45), (g4197 46), (g4197 47), (g4197 48), (g4197 49), (g4197 50), (g4197 51), (g4197 52), (g4197 53), (g4197 54), undef, undef, (g4197 57), (g4197 58), (g4197 59), (g4197 60), (g4197 61), (g4197 62), undef, undef, .bool true, .int .i64 x4191, .pointer (some ⟨g0, 0, none⟩), .int .i64 x4191, .pointer (some ⟨g0, 0, none⟩), .pointer (some ⟨g0, 2, none⟩), .pointer (some ⟨g0, 2 + ((x4191 : Int).toNat), none⟩), .int .u64 (List.getD x3835 ((x4191 : Int).toNat) 0), .int .i64 x4122, .int .u64 (IntKind.u64.wrap (x4122)), .int .u64 (shr .u64 (List.getD x3835 ((x4191 : Int).toNat) 0) (IntKind.u64.wrap (x4122))), .int .u64 (Go.bits .and .u64 (shr .u64 (List.getD x3835 ((x4191 : Int).toNat) 0) (IntKind.u64.wrap (x4122))) 1), .bool false, (g4197 78), (g4197 79), (g4197 80), (g4197 81), (g4197 82), (g4197 83), (g4197 84), (g4197 85), (g4197 86), (g4197 87), (g4197 88), (g4197 89), (g4197 90), .int .i64 (wrap64 (x4191 + 1)), (g4197 92)] q_ undef), rfl, HS4201, (by omega), HJ4192, HJ4193, HL4195, HJ4196, H⟩
            ·rw [if_neg c4215] at H
             exact absurd H (by simp)
           ·rw [if_neg c4214] at H
            exact absurd H (by simp)
          ·rw [if_neg c4213] at H
           exact absurd H (by simp)
         ·rw [if_neg c4209] at H
          (try rw [(decide_eq_false c4209)])
          (try simp only [Bool.not_true, Bool.not_false])
          refine wp_cond_false rfl ?_
          refine wp_exit ?_
          (try simp only [Act.put, List.setIfInBounds_toArray, ls0, ls1])
          refine hK4141 _ _ ?_
          (try clear hK4141 K4141)
          refine wl_region ?_
          refine st (.int .i64 (wrap64 (x4122 + 1))) rfl rfl (xr_bin _ _ _ rfl rfl rfl (B.add_i64 _ _)) ?_
          refine st (.int .i64 (wrap64 (x4122 + 1))) rfl rfl (xr_move _ rfl rfl) ?_
          refine wl_end ?_
          (try simp only [Act.put, List.setIfInBounds_toArray, ls0, ls1])
          exact ih4134 k4206 (by omega) _ _ ⟨_, wrap64 (x4122 + 1), x4194, (fun q_ => List.getD [undef, (g4197 1), (g4197 2), (g4197 3), .int .i64 x4122, (g4197 5), (g4197 6), (g4197 7), (g4197 8), (g4197 9), (g4197 10), (g4197 11), (g4197 12), (g4197 13), (g4197 14), (g4197 15), (g4197 16), (g4197 17), (g4197 18), (g4197 19), (g4197 20), (g4197 21), (g4197 22), (g4197 23), (g4197 24), (g4197 25), (g4197 26), (g4197 27), (g4197 28), (g4197 29), (g4197 30), (g4197 31), (g4197 32), (g4197 33), (g4197 34), (g4197 35), (g4197 36), (g4197 37), (g4197 38), (g4197 39), (g4197 40), (g4197 41), (g4197 42), (g4197 43), (g4197 44), (g4197 45), (g4197 46), (g4197 47), (g4197 48), (g4197 49), (g4197 50), (g4197 51), (g4197 52), (g4197 53), (g4197 54), undef, undef, (g4197 57), (g4197 58), (g4197 59), (g4197 60), (g4197 61), (g4197 62), .int .i64 (l0_0.length : Int), .int .i64 x4191, .bool false, (g4197 66), (g4197 67), (g4197 68), (g4197 69), (g4197 70), (g4197 71), (g4197 72), (g4197 73), (g4197 74), (g4197 75), (g4197 76), (g4197 77), (g4197 78), (g4197 79), (g4197 80), (g4197 81), (g4197 82), (g4197 83), (g4197 84), (g4197 85), (g4197 86), (g4197 87), (g4197 88), (g4197 89), (g4197 90), (g4197 91), .int .i64 (wrap64 (x4122 + 1))] q_ undef), rfl, HS4201, (by omega), HJ4192, HJ4193, HL4195, HJ4196, H⟩
      ·rw [if_neg c4140] at H
       (try rw [(decide_eq_false c4140)])
       (try simp only [Bool.not_true, Bool.not_false])
       refine wp_cond_false rfl ?_
       refine wp_exit ?_
       (try simp only [Exit.inBlock, Exit.then, Exit.noGoto, if_true, if_pos])
       (try simp only [Act.put, List.setIfInBounds_toArray, ls0, ls1])
       simp only [Option.some.injEq, Prod.mk.injEq] at H
       obtain ⟨rfl, rfl⟩ := H
       refine bodyPost_end (results_none rfl _ _ _) rfl ?_
       exact ⟨_, rfl, HS4132, HL3836, HL4126, HJ4127⟩

end Go.Proofs.YtpfepkkpbampkaaDoor.PLan
