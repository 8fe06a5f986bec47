-- By cprint.py, a program of this work. Lean checks it.
import Derived.Test.YtpfepkkpbampkaaPOrsx0
import Derived.Test.YtpfepkkpbampkaaPOrsx1
namespace Go.Proofs.Ytpfepkkpbampkaa.POrs
open Go.RowKit Go.Proofs.YtpfepkkpbampkaaW.PrintWords Go.Proofs.YtpfepkkpbampkaaW.PrintLast Go.Proofs.YtpfepkkpbampkaaW.PrintMore
set_option linter.unusedVariables false
set_option linter.unusedSimpArgs false

/-! ### order_Order_pair: function 18 -/
def order_Order_pair.j0 : Nat → (List Int) → (List Int) → ByteArray → ByteArray → (List ByteArray) → (List (ByteArray × Int)) → Bool → Option (Int × List ByteArray × (List (ByteArray × Int)) × (List Int))
  | 0, _, _, _, _, _, _, _ => none
  | k + 1, a0_2, a0_3, a1_0, a1_1, l0_0, m0_1, x1515 => if x1515 = true then (some (1, l0_0, m0_1, a0_2)) else ((order_Order_add.f l0_0 m0_1 a0_2 a0_3 a1_0).bind fun bt1527 => (if bt1527.2.1 = true then (if a1_1 = (⟨#[]⟩ : ByteArray) then (some (0, bt1527.2.2.1, bt1527.2.2.2.1, bt1527.2.2.2.2)) else ((order_Order_add.f bt1527.2.2.1 bt1527.2.2.2.1 bt1527.2.2.2.2 a0_3 a1_1).bind fun bt1553 => (if bt1553.2.1 = true then (if 0 ≤ bt1527.1 then (if bt1527.1 < 64 then (if 0 ≤ (IntKind.u64.wrap (bt1553.1)) then ((some (List.set bt1553.2.2.2.2 ((bt1527.1 : Int).toNat) (Go.bits .or .u64 (List.getD bt1553.2.2.2.2 ((bt1527.1 : Int).toNat) 0) (shl .u64 1 (IntKind.u64.wrap (bt1553.1)))) : List Int)).bind fun y1579 => (some (0, bt1553.2.2.1, bt1553.2.2.2.1, y1579))) else (none)) else (none)) else (none)) else (some (8, bt1553.2.2.1, bt1553.2.2.2.1, bt1553.2.2.2.2))))) else (some (8, bt1527.2.2.1, bt1527.2.2.2.1, bt1527.2.2.2.2))))
def order_Order_pair.f (k : Nat) (l0_0 : List ByteArray) (m0_1 : List (ByteArray × Int)) (a0_2 : List Int) (a0_3 : List Int) (a1_0 : ByteArray) (a1_1 : ByteArray) (a1_2 : Int) : Option (Int × List ByteArray × (List (ByteArray × Int)) × (List Int)) := (lex_Ident.f k a1_0).bind fun t1588 => (if t1588 = true then (if a1_1 = (⟨#[]⟩ : ByteArray) then (order_Order_pair.j0 k a0_2 a0_3 a1_0 a1_1 l0_0 m0_1 false) else ((lex_Ident.f k a1_1).bind fun t1596 => (order_Order_pair.j0 k a0_2 a0_3 a1_0 a1_1 l0_0 m0_1 (!t1596)))) else (order_Order_pair.j0 k a0_2 a0_3 a1_0 a1_1 l0_0 m0_1 true))

set_option maxHeartbeats 2000000 in
set_option maxRecDepth 100000 in
theorem order_Order_pair.calls (k : Nat) (g0 : Nat) (A0_0 : Option Addr) (c0_0 : Nat) (l0_0 : List ByteArray) (b0_1 : Nat) (m0_1 : List (ByteArray × Int)) (a0_2 : List Int) (a0_3 : List Int) (a1_0 : ByteArray) (a1_1 : ByteArray) (a1_2 : Int) (r1 : Int) (r2 : List ByteArray) (r3 : List (ByteArray × Int)) (r4 : List Int) (c : Nat → Nat) (w : World) (hc : ∀ k, c k < 10) (HP0 : Bx c 1 w g0 47 ([.slice A0_0 l0_0.length c0_0, .map (some b0_1)] ++ (List.map (Value.int .u64) a0_2 ++ (List.map (Value.int .u64) a0_3)))) (HP0_0 : Own c 2 w Kd.string 9 (.slice A0_0 l0_0.length c0_0) l0_0) (HCP0_0 : l0_0.length ≤ c0_0) (HP0_1 : Mp Value.string (Value.int .i64) c 3 w b0_1 m0_1) (HL0_2 : a0_2.length = 64) (HL0_3 : a0_3.length = 64) (H : order_Order_pair.f k l0_0 m0_1 a0_2 a0_3 a1_0 a1_1 a1_2 = some (r1, r2, r3, r4)) :
    Calls Try.prog 18 #[.pointer (some ⟨g0, 0, none⟩), .agg #[.string a1_0, .string a1_1, .int .i64 a1_2]] w fun e w' => ∃ (c' : Nat → Nat) (A_r2 : Option Addr) (c_r2 : Nat) (b_r3 : Nat), e = .returned (.int .i64 r1) ∧ Step c w c' w' [1, 2, 3] ∧ Own c' 2 w' Kd.string 9 (.slice A_r2 r2.length c_r2) r2 ∧ r2.length ≤ c_r2 ∧ Mp Value.string (Value.int .i64) c' 3 w' b_r3 r3 ∧ r4.length = 64 ∧ Bx c' 1 w' g0 47 ([.slice A_r2 r2.length c_r2, .map (some b_r3)] ++ (List.map (Value.int .u64) r4 ++ (List.map (Value.int .u64) a0_3))) := by
 unfold order_Order_pair.f at H
 have HS := Step.refl c w [1, 2, 3]
 go_enter Try.func18, Try.ntmps18
 refine wp_seq_k fun K1445 hK1445 => ?_
 refine wl_region ?_
 refine bx_new (C := c) 25 ([.string a1_0, .string a1_1, .int .i64 a1_2]) 11 rfl rfl (by first | (go_simp; done) | (go_simp; rfl)) ?_
 intro g1446 w1447 C1448 HX1449 hs1450
 replace HP0 := HP0.thru hs1450 rfl
 replace HP0_0 := HP0_0.thru hs1450 rfl
 replace HP0_1 := HP0_1.thru hs1450 rfl
 replace HS := HS.trans hs1450 hc rfl
 (try simp only [Act.put, List.setIfInBounds_toArray, ls0, ls1])
 refine st (.int .i64 0) rfl rfl (xr_assign (.int .i64 0) rfl rfl) ?_
 simp only [ls0, ls1]
 refine wl_end ?_
 (try simp only [Act.put, List.setIfInBounds_toArray, ls0, ls1])
 refine hK1445 _ _ ?_
 (try clear hK1445 K1445)
 refine wp_seq_k fun K1451 hK1451 => ?_
 refine wp_seq_k fun K1496 hK1496 => ?_
 have hj1511 : ∀ (kq1521 : Nat) (C1512 : Nat → Nat) (w1513 : World) (x1515 : Bool) (g1520 : Nat → Value), Step c w C1512 w1513 [1, 2, 3] → kq1521 ≤ k → (Own C1512 2 w1513 Kd.string 9 (.slice A0_0 l0_0.length c0_0) l0_0) → (Mp Value.string (Value.int .i64) C1512 3 w1513 b0_1 m0_1) → (Bx C1512 1 w1513 g0 47 ([.slice A0_0 l0_0.length c0_0, .map (some b0_1)] ++ (List.map (Value.int .u64) a0_2 ++ (List.map (Value.int .u64) a0_3)))) → (Bx C1512 11 w1513 g1446 25 ([.string a1_0, .string a1_1, .int .i64 a1_2])) → order_Order_pair.j0 kq1521 a0_2 a0_3 a1_0 a1_1 l0_0 m0_1 x1515 = some (r1, r2, r3, r4) → K1496 ⟨#[.pointer (some ⟨g0, 0, none⟩), (g1520 1), (g1520 2), .pointer (some ⟨g1446, 0, none⟩), (g1520 4), (g1520 5), (g1520 6), (g1520 7), (g1520 8), (g1520 9), (g1520 10), (g1520 11), (g1520 12), (g1520 13), (g1520 14), (g1520 15), (g1520 16), (g1520 17), (g1520 18), (g1520 19), (g1520 20), (g1520 21), .bool x1515, (g1520 23), (g1520 24), (g1520 25), (g1520 26), (g1520 27), (g1520 28), (g1520 29), (g1520 30), (g1520 31), (g1520 32), (g1520 33), (g1520 34), (g1520 35), (g1520 36), (g1520 37), (g1520 38), (g1520 39), (g1520 40), (g1520 41), (g1520 42), (g1520 43), (g1520 44), (g1520 45), (g1520 46), (g1520 47), (g1520 48), (g1520 49), (g1520 50), (g1520 51), (g1520 52), (g1520 53), (g1520 54), (g1520 55), (g1520 56)], []⟩ w1513 := by
  intro kq1521 C1512 w1513 x1515 g1520 HS1514 hk1522 HJ1516 HJ1517 HJ1518 HJ1519 H
  cases kq1521 with
  | zero => exact absurd H (by simp [order_Order_pair.j0])
  | succ k1523 =>
   simp only [order_Order_pair.j0] at H
   refine hK1496 _ _ ?_
   (try clear hK1496)
   by_cases c1524 : x1515 = true
   ·rw [if_pos c1524] at H
    (try rw [c1524])
    (try simp only [Bool.not_true, Bool.not_false])
    refine wp_cond_true rfl ?_
    refine wp_seq_k fun K1525 hK1525 => ?_
    refine wl_region ?_
    refine st (.int .i64 1) rfl rfl (xr_assign (.int .i64 1) rfl rfl) ?_
    simp only [ls0, ls1]
    refine wl_end ?_
    (try simp only [Act.put, List.setIfInBounds_toArray, ls0, ls1])
    refine hK1525 _ _ ?_
    (try clear hK1525 K1525)
    refine wp_ret ?_
    (try simp only [Exit.inBlock, Exit.then, Exit.noGoto])
    (try simp only [Act.put, List.setIfInBounds_toArray, ls0, ls1])
    simp only [Option.some.injEq, Prod.mk.injEq] at H
    obtain ⟨rfl, rfl, rfl, rfl⟩ := H
    refine bodyPost_ret (results_tmp rfl _ _ _) rfl ?_
    exact ⟨_, A0_0, c0_0, b0_1, rfl, HS1514, HJ1516, HCP0_0, HJ1517, HL0_2, HJ1518⟩
   ·rw [if_neg c1524] at H
    (try rw [(Bool.eq_false_iff.mpr c1524)])
    (try simp only [Bool.not_true, Bool.not_false])
    refine wp_cond_false rfl ?_
    refine wp_skip ?_
    (try simp only [Act.put, List.setIfInBounds_toArray, ls0, ls1])
    refine hK1451 _ _ ?_
    (try clear hK1451 K1451)
    refine wp_seq_k fun K1526 hK1526 => ?_
    refine wl_region ?_
    refine st (.pointer (some ⟨g0, 0, none⟩)) rfl rfl (xr_move (.pointer (some ⟨g0, 0, none⟩)) rfl rfl) ?_
    simp only [ls0, ls1]
    refine st (.pointer (some ⟨g1446, 0, none⟩)) rfl rfl (xr_fieldAddr (.pointer (some ⟨g1446, 0, none⟩)) (.pointer (some ⟨g1446, 0, none⟩)) rfl rfl (bx_field2 Try.underlying25 rfl rfl (by kernel_rfl))) ?_
    simp only [ls0, ls1]
    refine st (.string a1_0) rfl rfl (xr_load (.pointer (some ⟨g1446, 0, none⟩)) (.string a1_0) rfl rfl (load_cell Try.underlying9 rfl (bx_cell (l := ([.string a1_0, .string a1_1, .int .i64 a1_2])) (HJ1519).2 0 rfl))) ?_
    simp only [ls0, ls1]
    obtain ⟨⟨t1527, t1528, t1529, t1530, t1531⟩, A1532, H⟩ := Option.bind_eq_some_iff.mp H
    (try dsimp only at H)
    refine st_call #[.pointer (some ⟨g0, 0, none⟩), .string a1_0] rfl rfl Try.func23 (by kernel_rfl) rfl rfl (by simp only [List.map_toArray, List.map_cons, List.map_nil]; first | done | rfl) ?_
    refine (order_Order_add.calls g0 A0_0 c0_0 l0_0 b0_1 m0_1 a0_2 a0_3 a1_0 t1527 t1528 t1529 t1530 t1531  (fun z_ => pal [(0, 0), (1, 1), (2, 3), (3, 2)] (C1512 z_)) w1513 (fun _ => pal_lt rfl _) (Bx.arg HJ1518 rfl) (Own.arg HJ1516 rfl rfl) HCP0_0 (Mp.arg HJ1517 rfl) HL0_2 HL0_3 A1532).mono ?_
    rintro _ w1534 ⟨C1535, A1537, cp1538, mb1541, rfl, hs1536, HO1539, HC1540, HM1542, HL1543, HX1544⟩
    refine ⟨_, rfl, ?_⟩
    replace HO1539 := Own.res (U := [(0, 0), (1, 1), (3, 2), (2, 3)]) (j := 2) HO1539 hs1536 (by rfl) (by decide) rfl rfl
    replace HM1542 := Mp.res (U := [(0, 0), (1, 1), (3, 2), (2, 3)]) (j := 3) HM1542 hs1536 (by rfl) (by decide) rfl
    replace HX1544 := Bx.res (U := [(0, 0), (1, 1), (3, 2), (2, 3)]) (j := 1) HX1544 hs1536 (by rfl) (by decide) rfl
    replace hs1536 := Step.lift (U := [(0, 0), (1, 1), (3, 2), (2, 3)]) hs1536 [1, 2, 3] rfl rfl
    generalize up C1512 C1535 w1513.heap.size [(0, 0), (1, 1), (3, 2), (2, 3)] = C1535_ at HO1539 HM1542 HX1544 hs1536
    replace HJ1519 := HJ1519.thru hs1536 rfl
    replace HS1514 := HS1514.trans hs1536 hc rfl
    (try simp only [Act.put, List.setIfInBounds_toArray, ls0, ls1])
    refine st (.tuple #[.int .i64 t1527, .bool t1528]) rfl rfl (xr_move (.tuple #[.int .i64 t1527, .bool t1528]) rfl rfl) ?_
    simp only [ls0, ls1]
    refine st (.int .i64 t1527) rfl rfl (xr_extract (.tuple #[.int .i64 t1527, .bool t1528]) (.int .i64 t1527) rfl rfl rfl) ?_
    simp only [ls0, ls1]
    refine st (.bool t1528) rfl rfl (xr_extract (.tuple #[.int .i64 t1527, .bool t1528]) (.bool t1528) rfl rfl rfl) ?_
    simp only [ls0, ls1]
    refine st (.int .i64 t1527) rfl rfl (xr_assign (.int .i64 t1527) rfl rfl) ?_
    simp only [ls0, ls1]
    refine st (.bool t1528) rfl rfl (xr_assign (.bool t1528) rfl rfl) ?_
    simp only [ls0, ls1]
    refine wl_end ?_
    (try simp only [Act.put, List.setIfInBounds_toArray, ls0, ls1])
    refine hK1526 _ _ ?_
    (try clear hK1526 K1526)
    refine wp_seq_k fun K1545 hK1545 => ?_
    refine wp_seq_k fun K1546 hK1546 => ?_
    refine wl_region ?_
    refine st (.bool t1528) rfl rfl (xr_move (.bool t1528) rfl rfl) ?_
    simp only [ls0, ls1]
    refine st (.bool (!t1528)) rfl rfl (xr_un (.bool t1528) (.bool (!t1528)) rfl rfl (by first | rfl | (go_simp; done) | (go_simp; rfl) | (go_simp; exact i64_w _) | (go_simp; exact i32_w _))) ?_
    simp only [ls0, ls1]
    refine wl_end ?_
    (try simp only [Act.put, List.setIfInBounds_toArray, ls0, ls1])
    refine hK1546 _ _ ?_
    (try clear hK1546 K1546)
    by_cases c1547 : t1528 = true
    ·rw [if_pos c1547] at H
     (try rw [c1547])
     (try simp only [Bool.not_true, Bool.not_false])
     refine wp_cond_false rfl ?_
     refine wp_skip ?_
     (try simp only [Act.put, List.setIfInBounds_toArray, ls0, ls1])
     refine hK1545 _ _ ?_
     (try clear hK1545 K1545)
     refine wp_seq_k fun K1548 hK1548 => ?_
     refine wp_seq_k fun K1549 hK1549 => ?_
     refine wl_region ?_
     refine st (.pointer (some ⟨g1446, 1, none⟩)) rfl rfl (xr_fieldAddr (.pointer (some ⟨g1446, 0, none⟩)) (.pointer (some ⟨g1446, 1, none⟩)) rfl rfl (bx_field2 Try.underlying25 rfl rfl (by kernel_rfl))) ?_
     simp only [ls0, ls1]
     refine st (.string a1_1) rfl rfl (xr_load (.pointer (some ⟨g1446, 1, none⟩)) (.string a1_1) rfl rfl (load_cell Try.underlying9 rfl (bx_cell (l := ([.string a1_0, .string a1_1, .int .i64 a1_2])) (HJ1519).2 1 rfl))) ?_
     simp only [ls0, ls1]
     refine st (.bool (decide (a1_1 = (⟨#[]⟩ : ByteArray)))) rfl rfl (xr_bin (.string a1_1) (.string (⟨#[]⟩ : ByteArray)) (.bool (decide (a1_1 = (⟨#[]⟩ : ByteArray)))) rfl rfl rfl (B.eql_str a1_1 (⟨#[]⟩ : ByteArray))) ?_
     simp only [ls0, ls1]
     refine wl_end ?_
     (try simp only [Act.put, List.setIfInBounds_toArray, ls0, ls1])
     refine hK1549 _ _ ?_
     (try clear hK1549 K1549)
     by_cases c1550 : a1_1 = (⟨#[]⟩ : ByteArray)
     ·rw [if_pos c1550] at H
      (try rw [(decide_eq_true c1550)])
      (try simp only [Bool.not_true, Bool.not_false])
      refine wp_cond_true rfl ?_
      refine wp_seq_k fun K1551 hK1551 => ?_
      refine wl_region ?_
      refine st (.int .i64 0) rfl rfl (xr_assign (.int .i64 0) rfl rfl) ?_
      simp only [ls0, ls1]
      refine wl_end ?_
      (try simp only [Act.put, List.setIfInBounds_toArray, ls0, ls1])
      refine hK1551 _ _ ?_
      (try clear hK1551 K1551)
      refine wp_ret ?_
      (try simp only [Exit.inBlock, Exit.then, Exit.noGoto])
      (try simp only [Act.put, List.setIfInBounds_toArray, ls0, ls1])
      simp only [Option.some.injEq, Prod.mk.injEq] at H
      obtain ⟨rfl, rfl, rfl, rfl⟩ := H
      refine bodyPost_ret (results_tmp rfl _ _ _) rfl ?_
      exact ⟨_, A1537, cp1538, mb1541, rfl, HS1514, HO1539, HC1540, HM1542, HL1543, HX1544⟩
     ·rw [if_neg c1550] at H
      (try rw [(decide_eq_false c1550)])
      (try simp only [Bool.not_true, Bool.not_false])
      refine wp_cond_false rfl ?_
      refine wp_skip ?_
      (try simp only [Act.put, List.setIfInBounds_toArray, ls0, ls1])
      refine hK1548 _ _ ?_
      (try clear hK1548 K1548)
      refine wp_seq_k fun K1552 hK1552 => ?_
      refine wl_region ?_
      refine st (.pointer (some ⟨g0, 0, none⟩)) rfl rfl (xr_move (.pointer (some ⟨g0, 0, none⟩)) rfl rfl) ?_
      simp only [ls0, ls1]
      refine st (.pointer (some ⟨g1446, 1, none⟩)) rfl rfl (xr_fieldAddr (.pointer (some ⟨g1446, 0, none⟩)) (.pointer (some ⟨g1446, 1, none⟩)) rfl rfl (bx_field2 Try.underlying25 rfl rfl (by kernel_rfl))) ?_
      simp only [ls0, ls1]
      refine st (.string a1_1) rfl rfl (xr_load (.pointer (some ⟨g1446, 1, none⟩)) (.string a1_1) rfl rfl (load_cell Try.underlying9 rfl (bx_cell (l := ([.string a1_0, .string a1_1, .int .i64 a1_2])) (HJ1519).2 1 rfl))) ?_
      simp only [ls0, ls1]
      obtain ⟨⟨t1553, t1554, t1555, t1556, t1557⟩, A1558, H⟩ := Option.bind_eq_some_iff.mp H
      (try dsimp only at H)
      refine st_call #[.pointer (some ⟨g0, 0, none⟩), .string a1_1] rfl rfl Try.func23 (by kernel_rfl) rfl rfl (by simp only [List.map_toArray, List.map_cons, List.map_nil]; first | done | rfl) ?_
      refine (order_Order_add.calls g0 A1537 cp1538 t1529 mb1541 t1530 t1531 a0_3 a1_1 t1553 t1554 t1555 t1556 t1557  (fun z_ => pal [(0, 0), (1, 1), (2, 3), (3, 2)] (C1535_ z_)) w1534 (fun _ => pal_lt rfl _) (Bx.arg HX1544 rfl) (Own.arg HO1539 rfl rfl) HC1540 (Mp.arg HM1542 rfl) HL1543 HL0_3 A1558).mono ?_
      rintro _ w1560 ⟨C1561, A1563, cp1564, mb1567, rfl, hs1562, HO1565, HC1566, HM1568, HL1569, HX1570⟩
      refine ⟨_, rfl, ?_⟩
      replace HO1565 := Own.res (U := [(0, 0), (1, 1), (3, 2), (2, 3)]) (j := 2) HO1565 hs1562 (by rfl) (by decide) rfl rfl
      replace HM1568 := Mp.res (U := [(0, 0), (1, 1), (3, 2), (2, 3)]) (j := 3) HM1568 hs1562 (by rfl) (by decide) rfl
      replace HX1570 := Bx.res (U := [(0, 0), (1, 1), (3, 2), (2, 3)]) (j := 1) HX1570 hs1562 (by rfl) (by decide) rfl
      replace hs1562 := Step.lift (U := [(0, 0), (1, 1), (3, 2), (2, 3)]) hs1562 [1, 2, 3] rfl rfl
      generalize up C1535_ C1561 w1534.heap.size [(0, 0), (1, 1), (3, 2), (2, 3)] = C1561_ at HO1565 HM1568 HX1570 hs1562
      replace HJ1519 := HJ1519.thru hs1562 rfl
      replace HS1514 := HS1514.trans hs1562 hc rfl
      (try simp only [Act.put, List.setIfInBounds_toArray, ls0, ls1])
      refine st (.tuple #[.int .i64 t1553, .bool t1554]) rfl rfl (xr_move (.tuple #[.int .i64 t1553, .bool t1554]) rfl rfl) ?_
      simp only [ls0, ls1]
      refine st (.int .i64 t1553) rfl rfl (xr_extract (.tuple #[.int .i64 t1553, .bool t1554]) (.int .i64 t1553) rfl rfl rfl) ?_
      simp only [ls0, ls1]
      refine st (.bool t1554) rfl rfl (xr_extract (.tuple #[.int .i64 t1553, .bool t1554]) (.bool t1554) rfl rfl rfl) ?_
      simp only [ls0, ls1]
      refine st (.int .i64 t1553) rfl rfl (xr_assign (.int .i64 t1553) rfl rfl) ?_
      simp only [ls0, ls1]
      refine st (.bool t1554) rfl rfl (xr_assign (.bool t1554) rfl rfl) ?_
      simp only [ls0, ls1]
      refine wl_end ?_
      (try simp only [Act.put, List.setIfInBounds_toArray, ls0, ls1])
      refine hK1552 _ _ ?_
      (try clear hK1552 K1552)
      refine wp_seq_k fun K1571 hK1571 => ?_
      refine wp_seq_k fun K1572 hK1572 => ?_
      refine wl_region ?_
      refine st (.bool t1554) rfl rfl (xr_move (.bool t1554) rfl rfl) ?_
      simp only [ls0, ls1]
      refine st (.bool (!t1554)) rfl rfl (xr_un (.bool t1554) (.bool (!t1554)) rfl rfl (by first | rfl | (go_simp; done) | (go_simp; rfl) | (go_simp; exact i64_w _) | (go_simp; exact i32_w _))) ?_
      simp only [ls0, ls1]
      refine wl_end ?_
      (try simp only [Act.put, List.setIfInBounds_toArray, ls0, ls1])
      refine hK1572 _ _ ?_
      (try clear hK1572 K1572)
      by_cases c1573 : t1554 = true
      ·rw [if_pos c1573] at H
       (try rw [c1573])
       (try simp only [Bool.not_true, Bool.not_false])
       refine wp_cond_false rfl ?_
       refine wp_skip ?_
       (try simp only [Act.put, List.setIfInBounds_toArray, ls0, ls1])
       refine hK1571 _ _ ?_
       (try clear hK1571 K1571)
       refine wp_seq_k fun K1574 hK1574 => ?_
       (try simp only [Act.put, List.setIfInBounds_toArray, ls0, ls1])
       refine al_start #[false, false, false, false, false, false, false, false, false, false, false, false, false, false] rfl rfl rfl (fun w_ => w_.heap[g0]? = some (.cells (List.toArray ([.slice A1563 t1555.length cp1564, .map (some mb1567)] ++ (List.map (Value.int .u64) t1557 ++ (List.map (Value.int .u64) a0_3)))) 47 (0, 0))) (HX1570.drew).2 [13] ?_
       replace HX1570 := HX1570.drew
       replace HO1565 := HO1565.drew
       replace HM1568 := HM1568.drew
       replace HJ1519 := HJ1519.drew
       replace HS1514 := Step.ofDrew HS1514
       generalize w1560.drew = w1575 at *
       refine al_pure 0 44 (.pointer (some ⟨g0, 0, none⟩)) #[true, false, false, false, false, false, false, false, false, false, false, false, false, false] rfl rfl (by kernel_rfl) (fun _ _ _ h_ => h_) rfl (fun w_ => xr_move (.pointer (some ⟨g0, 0, none⟩)) rfl rfl) ?_
       simp only [ls0, ls1]
       refine al_pure 1 45 (.int .i64 t1527) #[true, true, false, false, false, false, false, false, false, false, false, false, false, false] rfl rfl (by kernel_rfl) (fun _ _ _ h_ => h_) rfl (fun w_ => xr_move (.int .i64 t1527) rfl rfl) ?_
       simp only [ls0, ls1]
       refine al_pure 2 46 (.pointer (some ⟨g0, 0, none⟩)) #[true, true, true, false, false, false, false, false, false, false, false, false, false, false] rfl rfl (by kernel_rfl) (fun _ _ _ h_ => h_) rfl (fun w_ => xr_nilCheck ⟨g0, 0, none⟩ rfl rfl) ?_
       simp only [ls0, ls1]
       refine al_pure 3 47 (.pointer (some ⟨g0, 2, none⟩)) #[true, true, true, true, false, false, false, false, false, false, false, false, false, false] rfl rfl (by kernel_rfl) (fun _ _ _ h_ => h_) rfl (fun w_ => xr_fieldAddr (.pointer (some ⟨g0, 0, none⟩)) (.pointer (some ⟨g0, 2, none⟩)) rfl rfl (bx_field2 Try.underlying47 rfl rfl (by kernel_rfl))) ?_
       simp only [ls0, ls1]
       by_cases c1576 : 0 ≤ t1527
       ·rw [if_pos c1576] at H
        by_cases c1577 : t1527 < 64
        ·rw [if_pos c1577] at H
         refine al_pure 4 48 (.pointer (some ⟨g0, 2 + ((t1527 : Int).toNat), none⟩)) #[true, true, true, true, true, false, false, false, false, false, false, false, false, false] rfl rfl (by kernel_rfl) (fun _ _ _ h_ => h_) rfl (fun w_ => xr_indexAddr (.pointer (some ⟨g0, 2, none⟩)) (.int .i64 t1527) (.pointer (some ⟨g0, 2 + ((t1527 : Int).toNat), none⟩)) rfl rfl rfl (arr_index (sz := 1) Try.underlying45 (by kernel_rfl) (by first | assumption | decide | omega) (by first | assumption | decide | omega) (by omega))) ?_
         simp only [ls0, ls1]
         refine al_pure 6 50 (.int .i64 t1553) #[true, true, true, true, true, false, true, false, false, false, false, false, false, false] rfl rfl (by kernel_rfl) (fun _ _ _ h_ => h_) rfl (fun w_ => xr_move (.int .i64 t1553) rfl rfl) ?_
         simp only [ls0, ls1]
         refine al_pure 7 51 (.int .u64 (IntKind.u64.wrap (t1553))) #[true, true, true, true, true, false, true, true, false, false, false, false, false, false] rfl rfl (by kernel_rfl) (fun _ _ _ h_ => h_) rfl (fun w_ => xr_conv (.int .i64 t1553) (.int .u64 (IntKind.u64.wrap (t1553))) rfl rfl (by first | rfl | (go_simp; done) | (go_simp; rfl) | (go_simp; exact i64_w _) | (go_simp; exact i32_w _))) ?_
         simp only [ls0, ls1]
         by_cases c1578 : 0 ≤ (IntKind.u64.wrap (t1553))
         ·rw [if_pos c1578] at H
          refine al_pure 8 52 (.int .u64 (shl .u64 1 (IntKind.u64.wrap (t1553)))) #[true, true, true, true, true, false, true, true, true, false, false, false, false, false] rfl rfl (by kernel_rfl) (fun _ _ _ h_ => h_) rfl (fun w_ => xr_bin (.int .u64 1) (.int .u64 (IntKind.u64.wrap (t1553))) (.int .u64 (shl .u64 1 (IntKind.u64.wrap (t1553)))) rfl rfl rfl (B.shl_u64_u64 1 (IntKind.u64.wrap (t1553)) (by assumption))) ?_
          simp only [ls0, ls1]
          refine al_pure 10 54 (.pointer (some ⟨g0, 0, none⟩)) #[true, true, true, true, true, false, true, true, true, false, true, false, false, false] rfl rfl (by kernel_rfl) (fun _ _ _ h_ => h_) rfl (fun w_ => xr_nilCheck ⟨g0, 0, none⟩ rfl rfl) ?_
          simp only [ls0, ls1]
          refine al_pure 11 55 (.pointer (some ⟨g0, 2, none⟩)) #[true, true, true, true, true, false, true, true, true, false, true, true, false, false] rfl rfl (by kernel_rfl) (fun _ _ _ h_ => h_) rfl (fun w_ => xr_fieldAddr (.pointer (some ⟨g0, 0, none⟩)) (.pointer (some ⟨g0, 2, none⟩)) rfl rfl (bx_field2 Try.underlying47 rfl rfl (by kernel_rfl))) ?_
          simp only [ls0, ls1]
          refine al_take 5 49 (.int .u64 (List.getD t1557 ((t1527 : Int).toNat) 0)) #[true, true, true, true, true, true, true, true, true, false, true, true, false, false] rfl rfl (by kernel_rfl) (fun _ _ _ h_ => h_) rfl (fun w_ hS_ => xr_load (.pointer (some ⟨g0, 2 + ((t1527 : Int).toNat), none⟩)) (.int .u64 (List.getD t1557 ((t1527 : Int).toNat) 0)) rfl rfl (arr_load (o := 2) (N := 64) (pre := [.slice A1563 t1555.length cp1564, .map (some mb1567)]) (post := List.map (Value.int .u64) a0_3) (enc := (Value.int .u64)) (l := t1557) (i := (t1527 : Int).toNat) 0 Try.underlying40 rfl hS_ (by first | (simp only [List.append_assoc, List.cons_append, List.nil_append, List.append_nil]; done) | rfl) (by simp []) HL1569 (by omega) (by omega))) (HX1570).2 ?_
          simp only [ls0, ls1]
          refine al_pure 9 53 (.int .u64 (Go.bits .or .u64 (List.getD t1557 ((t1527 : Int).toNat) 0) (shl .u64 1 (IntKind.u64.wrap (t1553))))) #[true, true, true, true, true, true, true, true, true, true, true, true, false, false] rfl rfl (by kernel_rfl) (fun _ _ _ h_ => h_) rfl (fun w_ => xr_bin (.int .u64 (List.getD t1557 ((t1527 : Int).toNat) 0)) (.int .u64 (shl .u64 1 (IntKind.u64.wrap (t1553)))) (.int .u64 (Go.bits .or .u64 (List.getD t1557 ((t1527 : Int).toNat) 0) (shl .u64 1 (IntKind.u64.wrap (t1553))))) rfl rfl rfl (B.or_u64 (List.getD t1557 ((t1527 : Int).toNat) 0) (shl .u64 1 (IntKind.u64.wrap (t1553))))) ?_
          simp only [ls0, ls1]
          refine al_pure 12 56 (.pointer (some ⟨g0, 2 + ((t1527 : Int).toNat), none⟩)) #[true, true, true, true, true, true, true, true, true, true, true, true, true, false] rfl rfl (by kernel_rfl) (fun _ _ _ h_ => h_) rfl (fun w_ => xr_indexAddr (.pointer (some ⟨g0, 2, none⟩)) (.int .i64 t1527) (.pointer (some ⟨g0, 2 + ((t1527 : Int).toNat), none⟩)) rfl rfl rfl (arr_index (sz := 1) Try.underlying45 (by kernel_rfl) (by first | assumption | decide | omega) (by first | assumption | decide | omega) (by omega))) ?_
          simp only [ls0, ls1]
          obtain ⟨y1579, A1580, H⟩ := Option.bind_eq_some_iff.mp H
          (try dsimp only at H)
          refine al_last 13 #[true, true, true, true, true, true, true, true, true, true, true, true, true, true] rfl rfl (by kernel_rfl) rfl (fun K_ hK_ => ?_)
          refine arr_store_step (C := C1561_) (z := 1) (g := g0) (tb := 47) (of := 2) (N := 64) (pre := [.slice A1563 t1555.length cp1564, .map (some mb1567)]) (post := List.map (Value.int .u64) a0_3) (enc := (Value.int .u64)) (l0 := t1557) (i := (t1527 : Int).toNat) (Go.bits .or .u64 (List.getD t1557 ((t1527 : Int).toNat) 0) (shl .u64 1 (IntKind.u64.wrap (t1553)))) rfl rfl rfl rfl rfl rfl (by kernel_rfl) rfl HX1570 (by first | (simp only [List.append_assoc, List.cons_append, List.nil_append, List.append_nil]; done) | rfl) (by simp []) HL1569 (by omega) (by omega) (Option.some.inj A1580) (xs' := [.slice A1563 t1555.length cp1564, .map (some mb1567)] ++ (List.map (Value.int .u64) y1579 ++ (List.map (Value.int .u64) a0_3))) (by first | (simp only [List.append_assoc, List.cons_append, List.nil_append, List.append_nil]; done) | rfl) ?_
          intro w1581 HX1582 HL1584 hs1583
          replace HO1565 := HO1565.thru hs1583 rfl
          replace HM1568 := HM1568.thru hs1583 rfl
          replace HJ1519 := HJ1519.thru hs1583 rfl
          replace HS1514 := HS1514.trans hs1583 hc rfl
          refine hK_ _ _ ?_
          clear hK_ K_
          (try simp only [Act.put, List.setIfInBounds_toArray, ls0, ls1])
          refine al_end (by kernel_rfl) ?_
          (try simp only [Act.put, List.setIfInBounds_toArray, ls0, ls1])
          refine hK1574 _ _ ?_
          (try clear hK1574 K1574)
          refine wp_seq_k fun K1585 hK1585 => ?_
          refine wl_region ?_
          refine st (.int .i64 0) rfl rfl (xr_assign (.int .i64 0) rfl rfl) ?_
          simp only [ls0, ls1]
          refine wl_end ?_
          (try simp only [Act.put, List.setIfInBounds_toArray, ls0, ls1])
          refine hK1585 _ _ ?_
          (try clear hK1585 K1585)
          refine wp_ret ?_
          (try simp only [Exit.inBlock, Exit.then, Exit.noGoto])
          (try simp only [Act.put, List.setIfInBounds_toArray, ls0, ls1])
          simp only [Option.some.injEq, Prod.mk.injEq] at H
          obtain ⟨rfl, rfl, rfl, rfl⟩ := H
          refine bodyPost_ret (results_tmp rfl _ _ _) rfl ?_
          exact ⟨_, A1563, cp1564, mb1567, rfl, HS1514, HO1565, HC1566, HM1568, HL1584, HX1582⟩
         ·rw [if_neg c1578] at H
          exact absurd H (by simp)
        ·rw [if_neg c1577] at H
         exact absurd H (by simp)
       ·rw [if_neg c1576] at H
        exact absurd H (by simp)
      ·rw [if_neg c1573] at H
       (try rw [(Bool.eq_false_iff.mpr c1573)])
       (try simp only [Bool.not_true, Bool.not_false])
       refine wp_cond_true rfl ?_
       refine wp_seq_k fun K1586 hK1586 => ?_
       refine wl_region ?_
       refine st (.int .i64 8) rfl rfl (xr_assign (.int .i64 8) rfl rfl) ?_
       simp only [ls0, ls1]
       refine wl_end ?_
       (try simp only [Act.put, List.setIfInBounds_toArray, ls0, ls1])
       refine hK1586 _ _ ?_
       (try clear hK1586 K1586)
       refine wp_ret ?_
       (try simp only [Exit.inBlock, Exit.then, Exit.noGoto])
       (try simp only [Act.put, List.setIfInBounds_toArray, ls0, ls1])
       simp only [Option.some.injEq, Prod.mk.injEq] at H
       obtain ⟨rfl, rfl, rfl, rfl⟩ := H
       refine bodyPost_ret (results_tmp rfl _ _ _) rfl ?_
       exact ⟨_, A1563, cp1564, mb1567, rfl, HS1514, HO1565, HC1566, HM1568, HL1569, HX1570⟩
    ·rw [if_neg c1547] at H
     (try rw [(Bool.eq_false_iff.mpr c1547)])
     (try simp only [Bool.not_true, Bool.not_false])
     refine wp_cond_true rfl ?_
     refine wp_seq_k fun K1587 hK1587 => ?_
     refine wl_region ?_
     refine st (.int .i64 8) rfl rfl (xr_assign (.int .i64 8) rfl rfl) ?_
     simp only [ls0, ls1]
     refine wl_end ?_
     (try simp only [Act.put, List.setIfInBounds_toArray, ls0, ls1])
     refine hK1587 _ _ ?_
     (try clear hK1587 K1587)
     refine wp_ret ?_
     (try simp only [Exit.inBlock, Exit.then, Exit.noGoto])
     (try simp only [Act.put, List.setIfInBounds_toArray, ls0, ls1])
     simp only [Option.some.injEq, Prod.mk.injEq] at H
     obtain ⟨rfl, rfl, rfl, rfl⟩ := H
     refine bodyPost_ret (results_tmp rfl _ _ _) rfl ?_
     exact ⟨_, A1537, cp1538, mb1541, rfl, HS1514, HO1539, HC1540, HM1542, HL1543, HX1544⟩
 refine wl_region ?_
 refine st (.pointer (some ⟨g1446, 0, none⟩)) rfl rfl (xr_fieldAddr (.pointer (some ⟨g1446, 0, none⟩)) (.pointer (some ⟨g1446, 0, none⟩)) rfl rfl (bx_field2 Try.underlying25 rfl rfl (by kernel_rfl))) ?_
 simp only [ls0, ls1]
 refine st (.string a1_0) rfl rfl (xr_load (.pointer (some ⟨g1446, 0, none⟩)) (.string a1_0) rfl rfl (load_cell Try.underlying9 rfl (bx_cell (l := ([.string a1_0, .string a1_1, .int .i64 a1_2])) (HX1449).2 0 rfl))) ?_
 simp only [ls0, ls1]
 obtain ⟨t1588, A1589, H⟩ := Option.bind_eq_some_iff.mp H
 (try dsimp only at H)
 refine st_call #[.string a1_0] rfl rfl Try.func22 (by kernel_rfl) rfl rfl (by simp only [List.map_toArray, List.map_cons, List.map_nil]; first | done | rfl) ?_
 refine (lex_Ident.calls k a1_0 t1588  (fun z_ => pal [(0, 0)] (C1448 z_)) w1447 (fun _ => pal_lt rfl _) A1589).mono ?_
 rintro _ w1591 ⟨C1592, rfl, hs1593⟩
 refine ⟨_, rfl, ?_⟩
 replace hs1593 := Step.lift (U := [(0, 0)]) hs1593 [] rfl rfl
 generalize up C1448 C1592 w1447.heap.size [(0, 0)] = C1592_ at hs1593
 replace HP0 := HP0.thru hs1593 rfl
 replace HP0_0 := HP0_0.thru hs1593 rfl
 replace HP0_1 := HP0_1.thru hs1593 rfl
 replace HX1449 := HX1449.thru hs1593 rfl
 replace HS := HS.trans hs1593 hc rfl
 (try simp only [Act.put, List.setIfInBounds_toArray, ls0, ls1])
 refine st (.bool (!t1588)) rfl rfl (xr_un (.bool t1588) (.bool (!t1588)) rfl rfl (by first | rfl | (go_simp; done) | (go_simp; rfl) | (go_simp; exact i64_w _) | (go_simp; exact i32_w _))) ?_
 simp only [ls0, ls1]
 refine st (.bool (!t1588)) rfl rfl (xr_move (.bool (!t1588)) rfl rfl) ?_
 simp only [ls0, ls1]
 by_cases c1594 : t1588 = true
 ·rw [if_pos c1594] at H
  (try rw [c1594])
  (try simp only [Bool.not_true, Bool.not_false])
  refine on_guard (guard_on 4 false 12 rfl rfl rfl) ?_
  refine st (.pointer (some ⟨g1446, 1, none⟩)) rfl rfl (xr_fieldAddr (.pointer (some ⟨g1446, 0, none⟩)) (.pointer (some ⟨g1446, 1, none⟩)) rfl rfl (bx_field2 Try.underlying25 rfl rfl (by kernel_rfl))) ?_
  simp only [ls0, ls1]
  refine on_guard (guard_on 4 false 12 rfl rfl rfl) ?_
  refine st (.string a1_1) rfl rfl (xr_load (.pointer (some ⟨g1446, 1, none⟩)) (.string a1_1) rfl rfl (load_cell Try.underlying9 rfl (bx_cell (l := ([.string a1_0, .string a1_1, .int .i64 a1_2])) (HX1449).2 1 rfl))) ?_
  simp only [ls0, ls1]
  refine on_guard (guard_on 4 false 12 rfl rfl rfl) ?_
  refine st (.bool (!decide (a1_1 = (⟨#[]⟩ : ByteArray)))) rfl rfl (xr_bin (.string a1_1) (.string (⟨#[]⟩ : ByteArray)) (.bool (!decide (a1_1 = (⟨#[]⟩ : ByteArray)))) rfl rfl rfl (B.neq_str a1_1 (⟨#[]⟩ : ByteArray))) ?_
  simp only [ls0, ls1]
  refine on_guard (guard_on 4 false 12 rfl rfl rfl) ?_
  refine st (.bool (!decide (a1_1 = (⟨#[]⟩ : ByteArray)))) rfl rfl (xr_move (.bool (!decide (a1_1 = (⟨#[]⟩ : ByteArray)))) rfl rfl) ?_
  simp only [ls0, ls1]
  by_cases c1595 : a1_1 = (⟨#[]⟩ : ByteArray)
  ·rw [if_pos c1595] at H
   (try rw [(decide_eq_true c1595)])
   (try simp only [Bool.not_true, Bool.not_false])
   refine sk_guard (guard_off 8 true 16 rfl rfl false (by decide) rfl) rfl ?_
   simp only [ls0, ls1]
   refine sk_guard (guard_off 8 true 16 rfl rfl false (by decide) rfl) rfl ?_
   simp only [ls0, ls1]
   refine sk_guard (guard_off 8 true 16 rfl rfl false (by decide) rfl) rfl ?_
   simp only [ls0, ls1]
   refine sk_guard (guard_off 8 true 16 rfl rfl false (by decide) rfl) rfl ?_
   simp only [ls0, ls1]
   refine on_guard (guard_on 4 false 12 rfl rfl rfl) ?_
   refine st (.bool false) rfl rfl (xr_pick false (.bool false) rfl rfl rfl) ?_
   simp only [ls0, ls1]
   refine st (.bool false) rfl rfl (xr_pick false (.bool false) rfl rfl rfl) ?_
   simp only [ls0, ls1]
   refine wl_end ?_
   (try simp only [Act.put, List.setIfInBounds_toArray, ls0, ls1])
   exact hj1511 _ _ _ (false) (fun q_ => List.getD [undef, .agg #[.string a1_0, .string a1_1, .int .i64 a1_2], undef, undef, .int .i64 0, undef, undef, undef, .pointer (some ⟨g1446, 0, none⟩), .string a1_0, .bool true, .bool false, .bool false, .pointer (some ⟨g1446, 1, none⟩), .string a1_1, .bool false, .bool false, undef, undef, undef, undef, .bool false, undef, undef, undef, undef, undef, undef, undef, undef, undef, undef, undef, undef, undef, undef, undef, undef, undef, undef, undef, undef, undef, undef, undef, undef, undef, undef, undef, undef, undef, undef, undef, undef, undef, undef, undef] q_ undef)  HS (by omega) HP0_0 HP0_1 HP0 HX1449 H
  ·rw [if_neg c1595] at H
   (try rw [(decide_eq_false c1595)])
   (try simp only [Bool.not_true, Bool.not_false])
   refine on_guard (guard_on 8 true 16 rfl rfl rfl) ?_
   refine st (.pointer (some ⟨g1446, 1, none⟩)) rfl rfl (xr_fieldAddr (.pointer (some ⟨g1446, 0, none⟩)) (.pointer (some ⟨g1446, 1, none⟩)) rfl rfl (bx_field2 Try.underlying25 rfl rfl (by kernel_rfl))) ?_
   simp only [ls0, ls1]
   refine on_guard (guard_on 8 true 16 rfl rfl rfl) ?_
   refine st (.string a1_1) rfl rfl (xr_load (.pointer (some ⟨g1446, 1, none⟩)) (.string a1_1) rfl rfl (load_cell Try.underlying9 rfl (bx_cell (l := ([.string a1_0, .string a1_1, .int .i64 a1_2])) (HX1449).2 1 rfl))) ?_
   simp only [ls0, ls1]
   refine on_guard (guard_on 8 true 16 rfl rfl rfl) ?_
   obtain ⟨t1596, A1597, H⟩ := Option.bind_eq_some_iff.mp H
   (try dsimp only at H)
   refine st_call #[.string a1_1] rfl rfl Try.func22 (by kernel_rfl) rfl rfl (by simp only [List.map_toArray, List.map_cons, List.map_nil]; first | done | rfl) ?_
   refine (lex_Ident.calls k a1_1 t1596  (fun z_ => pal [(0, 0)] (C1592_ z_)) w1591 (fun _ => pal_lt rfl _) A1597).mono ?_
   rintro _ w1599 ⟨C1600, rfl, hs1601⟩
   refine ⟨_, rfl, ?_⟩
   replace hs1601 := Step.lift (U := [(0, 0)]) hs1601 [] rfl rfl
   generalize up C1592_ C1600 w1591.heap.size [(0, 0)] = C1600_ at hs1601
   replace HP0 := HP0.thru hs1601 rfl
   replace HP0_0 := HP0_0.thru hs1601 rfl
   replace HP0_1 := HP0_1.thru hs1601 rfl
   replace HX1449 := HX1449.thru hs1601 rfl
   replace HS := HS.trans hs1601 hc rfl
   (try simp only [Act.put, List.setIfInBounds_toArray, ls0, ls1])
   refine on_guard (guard_on 8 true 16 rfl rfl rfl) ?_
   refine st (.bool (!t1596)) rfl rfl (xr_un (.bool t1596) (.bool (!t1596)) rfl rfl (by first | rfl | (go_simp; done) | (go_simp; rfl) | (go_simp; exact i64_w _) | (go_simp; exact i32_w _))) ?_
   simp only [ls0, ls1]
   refine on_guard (guard_on 4 false 12 rfl rfl rfl) ?_
   refine st (.bool (!t1596)) rfl rfl (xr_pick true (.bool (!t1596)) rfl rfl rfl) ?_
   simp only [ls0, ls1]
   refine st (.bool (!t1596)) rfl rfl (xr_pick false (.bool (!t1596)) rfl rfl rfl) ?_
   simp only [ls0, ls1]
   refine wl_end ?_
   (try simp only [Act.put, List.setIfInBounds_toArray, ls0, ls1])
   exact hj1511 _ _ _ (!t1596) (fun q_ => List.getD [undef, .agg #[.string a1_0, .string a1_1, .int .i64 a1_2], undef, undef, .int .i64 0, undef, undef, undef, .pointer (some ⟨g1446, 0, none⟩), .string a1_0, .bool true, .bool false, .bool false, .pointer (some ⟨g1446, 1, none⟩), .string a1_1, .bool true, .bool true, .pointer (some ⟨g1446, 1, none⟩), .string a1_1, .bool t1596, .bool (!t1596), .bool (!t1596), undef, undef, undef, undef, undef, undef, undef, undef, undef, undef, undef, undef, undef, undef, undef, undef, undef, undef, undef, undef, undef, undef, undef, undef, undef, undef, undef, undef, undef, undef, undef, undef, undef, undef, undef] q_ undef)  HS (by omega) HP0_0 HP0_1 HP0 HX1449 H
 ·rw [if_neg c1594] at H
  (try rw [(Bool.eq_false_iff.mpr c1594)])
  (try simp only [Bool.not_true, Bool.not_false])
  refine sk_guard (guard_off 4 false 12 rfl rfl true (by decide) rfl) rfl ?_
  simp only [ls0, ls1]
  refine sk_guard (guard_off 4 false 12 rfl rfl true (by decide) rfl) rfl ?_
  simp only [ls0, ls1]
  refine sk_guard (guard_off 4 false 12 rfl rfl true (by decide) rfl) rfl ?_
  simp only [ls0, ls1]
  refine sk_guard (guard_off 4 false 12 rfl rfl true (by decide) rfl) rfl ?_
  simp only [ls0, ls1]
  refine sk_guard (guard_und 8 true 16 rfl rfl rfl) rfl ?_
  simp only [ls0, ls1]
  refine sk_guard (guard_und 8 true 16 rfl rfl rfl) rfl ?_
  simp only [ls0, ls1]
  refine sk_guard (guard_und 8 true 16 rfl rfl rfl) rfl ?_
  simp only [ls0, ls1]
  refine sk_guard (guard_und 8 true 16 rfl rfl rfl) rfl ?_
  simp only [ls0, ls1]
  refine sk_guard (guard_off 4 false 12 rfl rfl true (by decide) rfl) rfl ?_
  simp only [ls0, ls1]
  refine st (.bool true) rfl rfl (xr_pick true (.bool true) rfl rfl rfl) ?_
  simp only [ls0, ls1]
  refine wl_end ?_
  (try simp only [Act.put, List.setIfInBounds_toArray, ls0, ls1])
  exact hj1511 _ _ _ (true) (fun q_ => List.getD [undef, .agg #[.string a1_0, .string a1_1, .int .i64 a1_2], undef, undef, .int .i64 0, undef, undef, undef, .pointer (some ⟨g1446, 0, none⟩), .string a1_0, .bool false, .bool true, .bool true, undef, undef, undef, undef, undef, undef, undef, undef, undef, undef, undef, undef, undef, undef, undef, undef, undef, undef, undef, undef, undef, undef, undef, undef, undef, undef, undef, undef, undef, undef, undef, undef, undef, undef, undef, undef, undef, undef, undef, undef, undef, undef, undef, undef] q_ undef)  HS (by omega) HP0_0 HP0_1 HP0 HX1449 H

/-! ### order_Order_close: function 19 -/
mutual
def order_Order_close.l0 : Nat → (List Int) → (List ByteArray) → Int → Int → (List Int) → Option ((List Int) × (List Int))
  | 0, _, _, _, _, _ => none
  | k + 1, a0_3, l0_0, x3831, x3899, x3902 => if x3899 < (l0_0.length : Int) then (if 0 ≤ x3899 then (if x3899 < 64 then (if 0 ≤ (IntKind.u64.wrap (x3831)) then (if (Go.bits .and .u64 (shr .u64 (List.getD x3902 ((x3899 : Int).toNat) 0) (IntKind.u64.wrap (x3831))) 1) = 1 then (if 0 ≤ x3831 then (if x3831 < 64 then ((some (List.set x3902 ((x3899 : Int).toNat) (Go.bits .or .u64 (List.getD x3902 ((x3899 : Int).toNat) 0) (List.getD x3902 ((x3831 : Int).toNat) 0)) : List Int)).bind fun y3928 => (order_Order_close.l0 k a0_3 l0_0 x3831 (wrap64 (x3899 + 1)) y3928)) else (none)) else (none)) else (order_Order_close.l0 k a0_3 l0_0 x3831 (wrap64 (x3899 + 1)) x3902)) else (none)) else (none)) else (none)) else (order_Order_close.l3 k a0_3 l0_0 (wrap64 (x3831 + 1)) x3902)
def order_Order_close.l1 : Nat → (List ByteArray) → (List Int) → Int → Int → (List Int) → Option ((List Int) × (List Int))
  | 0, _, _, _, _, _ => none
  | k + 1, l0_0, x3834, x4121, x4190, x4193 => if x4190 < (l0_0.length : Int) then (if 0 ≤ x4190 then (if x4190 < 64 then (if 0 ≤ (IntKind.u64.wrap (x4121)) then (if (Go.bits .and .u64 (shr .u64 (List.getD x3834 ((x4190 : Int).toNat) 0) (IntKind.u64.wrap (x4121))) 1) = 1 then (if 0 ≤ x4121 then (if x4121 < 64 then (if 0 ≤ (IntKind.u64.wrap (x4190)) then ((some (List.set x4193 ((x4121 : Int).toNat) (Go.bits .or .u64 (List.getD x4193 ((x4121 : Int).toNat) 0) (shl .u64 1 (IntKind.u64.wrap (x4190)))) : List Int)).bind fun y4220 => (order_Order_close.l1 k l0_0 x3834 x4121 (wrap64 (x4190 + 1)) y4220)) else (none)) else (none)) else (none)) else (order_Order_close.l1 k l0_0 x3834 x4121 (wrap64 (x4190 + 1)) x4193)) else (none)) else (none)) else (none)) else (order_Order_close.l2 k l0_0 x3834 (wrap64 (x4121 + 1)) x4193)
def order_Order_close.l2 : Nat → (List ByteArray) → (List Int) → Int → (List Int) → Option ((List Int) × (List Int))
  | 0, _, _, _, _ => none
  | k + 1, l0_0, x3834, x4121, x4124 => if x4121 < (l0_0.length : Int) then (order_Order_close.l1 k l0_0 x3834 x4121 0 x4124) else (some (x3834, x4124))
def order_Order_close.l3 : Nat → (List Int) → (List ByteArray) → Int → (List Int) → Option ((List Int) × (List Int))
  | 0, _, _, _, _ => none
  | k + 1, a0_3, l0_0, x3831, x3834 => if x3831 < (l0_0.length : Int) then (order_Order_close.l0 k a0_3 l0_0 x3831 0 x3834) else (order_Order_close.l2 k l0_0 x3834 0 a0_3)
end
def order_Order_close.f (k : Nat) (l0_0 : List ByteArray) (m0_1 : List (ByteArray × Int)) (a0_2 : List Int) (a0_3 : List Int) : Option ((List Int) × (List Int)) := order_Order_close.l3 k a0_3 l0_0 0 a0_2

set_option maxHeartbeats 2000000 in
set_option maxRecDepth 100000 in
theorem order_Order_close.calls (k : Nat) (g0 : Nat) (A0_0 : Option Addr) (c0_0 : Nat) (l0_0 : List ByteArray) (v0_1 : Value) (m0_1 : List (ByteArray × Int)) (a0_2 : List Int) (a0_3 : List Int) (r1 : List Int) (r2 : List Int) (c : Nat → Nat) (w : World) (hc : ∀ k, c k < 10) (HP0 : Bx c 1 w g0 47 ([.slice A0_0 l0_0.length c0_0, v0_1] ++ (List.map (Value.int .u64) a0_2 ++ (List.map (Value.int .u64) a0_3)))) (HP0_0 : Ft c [0] w (fun w_ => Kd.string.C w_ A0_0 l0_0.length l0_0)) (HCP0_0 : l0_0.length ≤ c0_0) (HP0_1 : Ft c [0] w (fun w_ => (Kd.mp Value.string (Value.int .i64)).K w_ m0_1 [v0_1])) (HL0_2 : a0_2.length = 64) (HL0_3 : a0_3.length = 64) (H : order_Order_close.f k l0_0 m0_1 a0_2 a0_3 = some (r1, r2)) :
    Calls Try.prog 19 #[.pointer (some ⟨g0, 0, none⟩)] w fun e w' => ∃ (c' : Nat → Nat) , e = .returned (.tuple #[]) ∧ Step c w c' w' [1] ∧ r1.length = 64 ∧ r2.length = 64 ∧ Bx c' 1 w' g0 47 ([.slice A0_0 l0_0.length c0_0, v0_1] ++ (List.map (Value.int .u64) r1 ++ (List.map (Value.int .u64) r2))) := by
 unfold order_Order_close.f at H
 have HS := Step.refl c w [1]
 go_enter Try.func19, Try.ntmps19
 refine wp_seq_k fun K3361 hK3361 => ?_
 refine wp_seq_k fun K3648 hK3648 => ?_
 refine wl_region ?_
 refine st (.pointer (some ⟨g0, 0, none⟩)) rfl rfl (xr_move (.pointer (some ⟨g0, 0, none⟩)) rfl rfl) ?_
 simp only [ls0, ls1]
 refine st (.pointer (some ⟨g0, 0, none⟩)) rfl rfl (xr_nilCheck ⟨g0, 0, none⟩ rfl rfl) ?_
 simp only [ls0, ls1]
 refine st (.pointer (some ⟨g0, 0, none⟩)) rfl rfl (xr_fieldAddr (.pointer (some ⟨g0, 0, none⟩)) (.pointer (some ⟨g0, 0, none⟩)) rfl rfl (bx_field2 Try.underlying47 rfl rfl (by kernel_rfl))) ?_
 simp only [ls0, ls1]
 refine st (.slice A0_0 l0_0.length c0_0) rfl rfl (xr_load (.pointer (some ⟨g0, 0, none⟩)) (.slice A0_0 l0_0.length c0_0) rfl rfl (load_cell Try.underlying44 rfl (bx_cell (l := ([.slice A0_0 l0_0.length c0_0, v0_1] ++ (List.map (Value.int .u64) a0_2 ++ (List.map (Value.int .u64) a0_3)))) (HP0).2 0 rfl))) ?_
 simp only [ls0, ls1]
 refine st (.int .i64 (l0_0.length : Int)) rfl rfl (xr_builtin #[.slice A0_0 l0_0.length c0_0] (.int .i64 (l0_0.length : Int)) rfl (by simp only [List.map_toArray, List.map_cons, List.map_nil]; first | done | rfl) (by first | rfl | (go_simp; done) | (go_simp; rfl) | (go_simp; exact i64_w _) | (go_simp; exact i32_w _))) ?_
 simp only [ls0, ls1]
 refine st (.int .i64 0) rfl rfl (xr_move (.int .i64 0) rfl rfl) ?_
 simp only [ls0, ls1]
 refine wl_end ?_
 (try simp only [Act.put, List.setIfInBounds_toArray, ls0, ls1])
 refine hK3648 _ _ ?_
 (try clear hK3648 K3648)
 refine wp_block ?_
 (try simp only [Act.put, List.setIfInBounds_toArray, ls0, ls1])
 refine wp_looped (looped_ind (fun kq3840 a_ w3839 => ∃ (C3838 : Nat → Nat) (x3831 : Int) (x3834 : List Int) (g3837 : Nat → Value), a_ = ⟨#[.pointer (some ⟨g0, 0, none⟩), (g3837 1), (g3837 2), (g3837 3), (g3837 4), (g3837 5), (g3837 6), (g3837 7), (g3837 8), (g3837 9), .int .i64 (l0_0.length : Int), .int .i64 x3831, (g3837 12), (g3837 13), (g3837 14), (g3837 15), (g3837 16), (g3837 17), (g3837 18), (g3837 19), (g3837 20), (g3837 21), (g3837 22), (g3837 23), (g3837 24), (g3837 25), (g3837 26), (g3837 27), (g3837 28), (g3837 29), (g3837 30), (g3837 31), (g3837 32), (g3837 33), (g3837 34), (g3837 35), (g3837 36), (g3837 37), (g3837 38), (g3837 39), (g3837 40), (g3837 41), (g3837 42), (g3837 43), (g3837 44), (g3837 45), (g3837 46), (g3837 47), (g3837 48), (g3837 49), (g3837 50), (g3837 51), (g3837 52), (g3837 53), (g3837 54), (g3837 55), (g3837 56), (g3837 57), (g3837 58), (g3837 59), (g3837 60), (g3837 61), (g3837 62), (g3837 63), (g3837 64), (g3837 65), (g3837 66), (g3837 67), (g3837 68), (g3837 69), (g3837 70), (g3837 71), (g3837 72), (g3837 73), (g3837 74), (g3837 75), (g3837 76), (g3837 77), (g3837 78), (g3837 79), (g3837 80), (g3837 81), (g3837 82), (g3837 83), (g3837 84), (g3837 85), (g3837 86), (g3837 87), (g3837 88), (g3837 89), (g3837 90), (g3837 91), (g3837 92)], []⟩ ∧ Step c w C3838 w3839 [1] ∧ kq3840 ≤ k ∧ (Ft C3838 [0] w3839 (fun w_ => Kd.string.C w_ A0_0 l0_0.length l0_0)) ∧ (Ft C3838 [0] w3839 (fun w_ => (Kd.mp Value.string (Value.int .i64)).K w_ m0_1 [v0_1])) ∧ (x3834.length = 64) ∧ (Bx C3838 1 w3839 g0 47 ([.slice A0_0 l0_0.length c0_0, v0_1] ++ (List.map (Value.int .u64) x3834 ++ (List.map (Value.int .u64) a0_3)))) ∧ order_Order_close.l3 kq3840 a0_3 l0_0 x3831 x3834 = some (r1, r2)) ?step k _ _ ?init)
 case init =>
  exact ⟨_, 0, a0_2, (fun q_ => List.getD [undef, undef, undef, undef, undef, undef, .pointer (some ⟨g0, 0, none⟩), .pointer (some ⟨g0, 0, none⟩), .pointer (some ⟨g0, 0, none⟩), .slice A0_0 l0_0.length c0_0, undef, undef, undef, undef, undef, undef, undef, undef, undef, undef, undef, undef, undef, undef, undef, undef, undef, undef, undef, undef, undef, undef, undef, undef, undef, undef, undef, undef, undef, undef, undef, undef, undef, undef, undef, undef, undef, undef, undef, undef, undef, undef, undef, undef, undef, undef, undef, undef, undef, undef, undef, undef, undef, undef, undef, undef, undef, undef, undef, undef, undef, undef, undef, undef, undef, undef, undef, undef, undef, undef, undef, undef, undef, undef, undef, undef, undef, undef, undef, undef, undef, undef, undef] q_ undef), rfl, HS, Nat.le_refl _, HP0_0, HP0_1, HL0_2, HP0, H⟩
 case step =>
  intro kq3840 ih3843 a3844 w3839 hr3845
  obtain ⟨C3838, x3831, x3834, g3837, rfl, HS3841, hk3842, HJ3832, HJ3833, HL3835, HJ3836, H⟩ := hr3845
  refine looped_round ?_
  cases kq3840 with
  | zero => exact absurd H (by simp [order_Order_close.l3])
  | succ k3846 =>
   simp only [order_Order_close.l3] at H
   refine wp_seq_k fun K3847 hK3847 => ?_
   refine wl_region ?_
   refine st (.bool (decide (x3831 < (l0_0.length : Int)))) rfl rfl (xr_bin (.int .i64 x3831) (.int .i64 (l0_0.length : Int)) (.bool (decide (x3831 < (l0_0.length : Int)))) rfl rfl rfl (B.lss_i64 x3831 (l0_0.length : Int))) ?_
   simp only [ls0, ls1]
   refine wl_end ?_
   (try simp only [Act.put, List.setIfInBounds_toArray, ls0, ls1])
   refine hK3847 _ _ ?_
   (try clear hK3847 K3847)
   refine wp_seq_k fun K3848 hK3848 => ?_
   by_cases c3849 : x3831 < (l0_0.length : Int)
   ·rw [if_pos c3849] at H
    (try rw [(decide_eq_true c3849)])
    (try simp only [Bool.not_true, Bool.not_false])
    refine wp_cond_true rfl ?_
    refine wp_skip ?_
    (try simp only [Act.put, List.setIfInBounds_toArray, ls0, ls1])
    refine hK3848 _ _ ?_
    (try clear hK3848 K3848)
    refine wp_seq_k fun K3850 hK3850 => ?_
    refine wp_block ?_
    refine wp_seq_k fun K3851 hK3851 => ?_
    refine wl_region ?_
    refine st (.int .i64 x3831) rfl rfl (xr_move (.int .i64 x3831) rfl rfl) ?_
    simp only [ls0, ls1]
    refine st (.int .i64 x3831) rfl rfl (xr_assign (.int .i64 x3831) rfl rfl) ?_
    simp only [ls0, ls1]
    refine wl_end ?_
    (try simp only [Act.put, List.setIfInBounds_toArray, ls0, ls1])
    refine hK3851 _ _ ?_
    (try clear hK3851 K3851)
    refine wp_seq_k fun K3852 hK3852 => ?_
    refine wl_region ?_
    refine st (.pointer (some ⟨g0, 0, none⟩)) rfl rfl (xr_move (.pointer (some ⟨g0, 0, none⟩)) rfl rfl) ?_
    simp only [ls0, ls1]
    refine st (.pointer (some ⟨g0, 0, none⟩)) rfl rfl (xr_nilCheck ⟨g0, 0, none⟩ rfl rfl) ?_
    simp only [ls0, ls1]
    refine st (.pointer (some ⟨g0, 0, none⟩)) rfl rfl (xr_fieldAddr (.pointer (some ⟨g0, 0, none⟩)) (.pointer (some ⟨g0, 0, none⟩)) rfl rfl (bx_field2 Try.underlying47 rfl rfl (by kernel_rfl))) ?_
    simp only [ls0, ls1]
    refine st (.slice A0_0 l0_0.length c0_0) rfl rfl (xr_load (.pointer (some ⟨g0, 0, none⟩)) (.slice A0_0 l0_0.length c0_0) rfl rfl (load_cell Try.underlying44 rfl (bx_cell (l := ([.slice A0_0 l0_0.length c0_0, v0_1] ++ (List.map (Value.int .u64) x3834 ++ (List.map (Value.int .u64) a0_3)))) (HJ3836).2 0 rfl))) ?_
    simp only [ls0, ls1]
    refine st (.int .i64 (l0_0.length : Int)) rfl rfl (xr_builtin #[.slice A0_0 l0_0.length c0_0] (.int .i64 (l0_0.length : Int)) rfl (by simp only [List.map_toArray, List.map_cons, List.map_nil]; first | done | rfl) (by first | rfl | (go_simp; done) | (go_simp; rfl) | (go_simp; exact i64_w _) | (go_simp; exact i32_w _))) ?_
    simp only [ls0, ls1]
    refine st (.int .i64 0) rfl rfl (xr_move (.int .i64 0) rfl rfl) ?_
    simp only [ls0, ls1]
    refine wl_end ?_
    (try simp only [Act.put, List.setIfInBounds_toArray, ls0, ls1])
    refine hK3852 _ _ ?_
    (try clear hK3852 K3852)
    refine wp_block ?_
    (try simp only [Act.put, List.setIfInBounds_toArray, ls0, ls1])
    refine wp_looped (looped_ind (fun kq3908 a_ w3907 => ∃ (C3906 : Nat → Nat) (x3899 : Int) (x3902 : List Int) (g3905 : Nat → Value), a_ = ⟨#[.pointer (some ⟨g0, 0, none⟩), (g3905 1), .int .i64 x3831, (g3905 3), (g3905 4), (g3905 5), (g3905 6), (g3905 7), (g3905 8), (g3905 9), .int .i64 (l0_0.length : Int), .int .i64 x3831, (g3905 12), (g3905 13), (g3905 14), (g3905 15), (g3905 16), (g3905 17), .int .i64 (l0_0.length : Int), .int .i64 x3899, (g3905 20), (g3905 21), (g3905 22), (g3905 23), (g3905 24), (g3905 25), (g3905 26), (g3905 27), (g3905 28), (g3905 29), (g3905 30), (g3905 31), (g3905 32), (g3905 33), (g3905 34), (g3905 35), (g3905 36), (g3905 37), (g3905 38), (g3905 39), (g3905 40), (g3905 41), (g3905 42), (g3905 43), (g3905 44), (g3905 45), (g3905 46), (g3905 47), (g3905 48), (g3905 49), (g3905 50), (g3905 51), (g3905 52), (g3905 53), (g3905 54), (g3905 55), (g3905 56), (g3905 57), (g3905 58), (g3905 59), (g3905 60), (g3905 61), (g3905 62), (g3905 63), (g3905 64), (g3905 65), (g3905 66), (g3905 67), (g3905 68), (g3905 69), (g3905 70), (g3905 71), (g3905 72), (g3905 73), (g3905 74), (g3905 75), (g3905 76), (g3905 77), (g3905 78), (g3905 79), (g3905 80), (g3905 81), (g3905 82), (g3905 83), (g3905 84), (g3905 85), (g3905 86), (g3905 87), (g3905 88), (g3905 89), (g3905 90), (g3905 91), (g3905 92)], []⟩ ∧ Step c w C3906 w3907 [1] ∧ kq3908 ≤ k3846 ∧ (Ft C3906 [0] w3907 (fun w_ => Kd.string.C w_ A0_0 l0_0.length l0_0)) ∧ (Ft C3906 [0] w3907 (fun w_ => (Kd.mp Value.string (Value.int .i64)).K w_ m0_1 [v0_1])) ∧ (x3902.length = 64) ∧ (Bx C3906 1 w3907 g0 47 ([.slice A0_0 l0_0.length c0_0, v0_1] ++ (List.map (Value.int .u64) x3902 ++ (List.map (Value.int .u64) a0_3)))) ∧ order_Order_close.l0 kq3908 a0_3 l0_0 x3831 x3899 x3902 = some (r1, r2)) ?step k3846 _ _ ?init)
    case init =>
     exact ⟨_, 0, x3834, (fun q_ => List.getD [undef, (g3837 1), undef, (g3837 3), (g3837 4), (g3837 5), (g3837 6), (g3837 7), (g3837 8), (g3837 9), undef, undef, .bool true, .int .i64 x3831, .pointer (some ⟨g0, 0, none⟩), .pointer (some ⟨g0, 0, none⟩), .pointer (some ⟨g0, 0, none⟩), .slice A0_0 l0_0.length c0_0, undef, undef, (g3837 20), (g3837 21), (g3837 22), (g3837 23), (g3837 24), (g3837 25), (g3837 26), (g3837 27), (g3837 28), (g3837 29), (g3837 30), (g3837 31), (g3837 32), (g3837 33), (g3837 34), (g3837 35), (g3837 36), (g3837 37), (g3837 38), (g3837 39), (g3837 40), (g3837 41), (g3837 42), (g3837 43), (g3837 44), (g3837 45), (g3837 46), (g3837 47), (g3837 48), (g3837 49), (g3837 50), (g3837 51), (g3837 52), (g3837 53), (g3837 54), (g3837 55), (g3837 56), (g3837 57), (g3837 58), (g3837 59), (g3837 60), (g3837 61), (g3837 62), (g3837 63), (g3837 64), (g3837 65), (g3837 66), (g3837 67), (g3837 68), (g3837 69), (g3837 70), (g3837 71), (g3837 72), (g3837 73), (g3837 74), (g3837 75), (g3837 76), (g3837 77), (g3837 78), (g3837 79), (g3837 80), (g3837 81), (g3837 82), (g3837 83), (g3837 84), (g3837 85), (g3837 86), (g3837 87), (g3837 88), (g3837 89), (g3837 90), (g3837 91), (g3837 92)] q_ undef), rfl, HS3841, Nat.le_refl _, HJ3832, HJ3833, HL3835, HJ3836, H⟩
    case step =>
     intro kq3908 ih3911 a3912 w3907 hr3913
     obtain ⟨C3906, x3899, x3902, g3905, rfl, HS3909, hk3910, HJ3900, HJ3901, HL3903, HJ3904, H⟩ := hr3913
     refine looped_round ?_
     cases kq3908 with
     | zero => exact absurd H (by simp [order_Order_close.l0])
     | succ k3914 =>
      simp only [order_Order_close.l0] at H
      refine wp_seq_k fun K3915 hK3915 => ?_
      refine wl_region ?_
      refine st (.bool (decide (x3899 < (l0_0.length : Int)))) rfl rfl (xr_bin (.int .i64 x3899) (.int .i64 (l0_0.length : Int)) (.bool (decide (x3899 < (l0_0.length : Int)))) rfl rfl rfl (B.lss_i64 x3899 (l0_0.length : Int))) ?_
      simp only [ls0, ls1]
      refine wl_end ?_
      (try simp only [Act.put, List.setIfInBounds_toArray, ls0, ls1])
      refine hK3915 _ _ ?_
      (try clear hK3915 K3915)
      refine wp_seq_k fun K3916 hK3916 => ?_
      by_cases c3917 : x3899 < (l0_0.length : Int)
      ·rw [if_pos c3917] at H
       (try rw [(decide_eq_true c3917)])
       (try simp only [Bool.not_true, Bool.not_false])
       refine wp_cond_true rfl ?_
       refine wp_skip ?_
       (try simp only [Act.put, List.setIfInBounds_toArray, ls0, ls1])
       refine hK3916 _ _ ?_
       (try clear hK3916 K3916)
       refine wp_seq_k fun K3918 hK3918 => ?_
       refine wp_block ?_
       refine wp_seq_k fun K3919 hK3919 => ?_
       refine wl_region ?_
       refine st (.int .i64 x3899) rfl rfl (xr_move (.int .i64 x3899) rfl rfl) ?_
       simp only [ls0, ls1]
       refine st (.int .i64 x3899) rfl rfl (xr_assign (.int .i64 x3899) rfl rfl) ?_
       simp only [ls0, ls1]
       refine wl_end ?_
       (try simp only [Act.put, List.setIfInBounds_toArray, ls0, ls1])
       refine hK3919 _ _ ?_
       (try clear hK3919 K3919)
       refine wp_seq_k fun K3920 hK3920 => ?_
       refine wl_region ?_
       refine st (.pointer (some ⟨g0, 0, none⟩)) rfl rfl (xr_move (.pointer (some ⟨g0, 0, none⟩)) rfl rfl) ?_
       simp only [ls0, ls1]
       refine st (.int .i64 x3899) rfl rfl (xr_move (.int .i64 x3899) rfl rfl) ?_
       simp only [ls0, ls1]
       refine st (.pointer (some ⟨g0, 0, none⟩)) rfl rfl (xr_nilCheck ⟨g0, 0, none⟩ rfl rfl) ?_
       simp only [ls0, ls1]
       refine st (.pointer (some ⟨g0, 2, none⟩)) rfl rfl (xr_fieldAddr (.pointer (some ⟨g0, 0, none⟩)) (.pointer (some ⟨g0, 2, none⟩)) rfl rfl (bx_field2 Try.underlying47 rfl rfl (by kernel_rfl))) ?_
       simp only [ls0, ls1]
       by_cases c3921 : 0 ≤ x3899
       ·rw [if_pos c3921] at H
        by_cases c3922 : x3899 < 64
        ·rw [if_pos c3922] at H
         refine st (.pointer (some ⟨g0, 2 + ((x3899 : Int).toNat), none⟩)) rfl rfl (xr_indexAddr (.pointer (some ⟨g0, 2, none⟩)) (.int .i64 x3899) (.pointer (some ⟨g0, 2 + ((x3899 : Int).toNat), none⟩)) rfl rfl rfl (arr_index (sz := 1) Try.underlying45 (by kernel_rfl) (by first | assumption | decide | omega) (by first | assumption | decide | omega) (by omega))) ?_
         simp only [ls0, ls1]
         refine st (.int .u64 (List.getD x3902 ((x3899 : Int).toNat) 0)) rfl rfl (xr_load (.pointer (some ⟨g0, 2 + ((x3899 : Int).toNat), none⟩)) (.int .u64 (List.getD x3902 ((x3899 : Int).toNat) 0)) rfl rfl (arr_load (o := 2) (N := 64) (pre := [.slice A0_0 l0_0.length c0_0, v0_1]) (post := List.map (Value.int .u64) a0_3) (enc := (Value.int .u64)) (l := x3902) (i := (x3899 : Int).toNat) 0 Try.underlying40 rfl (HJ3904).2 (by first | (simp only [List.append_assoc, List.cons_append, List.nil_append, List.append_nil]; done) | rfl) (by simp []) HL3903 (by omega) (by omega))) ?_
         simp only [ls0, ls1]
         refine st (.int .i64 x3831) rfl rfl (xr_move (.int .i64 x3831) rfl rfl) ?_
         simp only [ls0, ls1]
         refine st (.int .u64 (IntKind.u64.wrap (x3831))) rfl rfl (xr_conv (.int .i64 x3831) (.int .u64 (IntKind.u64.wrap (x3831))) rfl rfl (by first | rfl | (go_simp; done) | (go_simp; rfl) | (go_simp; exact i64_w _) | (go_simp; exact i32_w _))) ?_
         simp only [ls0, ls1]
         by_cases c3923 : 0 ≤ (IntKind.u64.wrap (x3831))
         ·rw [if_pos c3923] at H
          refine st (.int .u64 (shr .u64 (List.getD x3902 ((x3899 : Int).toNat) 0) (IntKind.u64.wrap (x3831)))) rfl rfl (xr_bin (.int .u64 (List.getD x3902 ((x3899 : Int).toNat) 0)) (.int .u64 (IntKind.u64.wrap (x3831))) (.int .u64 (shr .u64 (List.getD x3902 ((x3899 : Int).toNat) 0) (IntKind.u64.wrap (x3831)))) rfl rfl rfl (B.shr_u64_u64 (List.getD x3902 ((x3899 : Int).toNat) 0) (IntKind.u64.wrap (x3831)) (by assumption))) ?_
          simp only [ls0, ls1]
          refine st (.int .u64 (Go.bits .and .u64 (shr .u64 (List.getD x3902 ((x3899 : Int).toNat) 0) (IntKind.u64.wrap (x3831))) 1)) rfl rfl (xr_bin (.int .u64 (shr .u64 (List.getD x3902 ((x3899 : Int).toNat) 0) (IntKind.u64.wrap (x3831)))) (.int .u64 1) (.int .u64 (Go.bits .and .u64 (shr .u64 (List.getD x3902 ((x3899 : Int).toNat) 0) (IntKind.u64.wrap (x3831))) 1)) rfl rfl rfl (B.and_u64 (shr .u64 (List.getD x3902 ((x3899 : Int).toNat) 0) (IntKind.u64.wrap (x3831))) 1)) ?_
          simp only [ls0, ls1]
          refine st (.bool (decide ((Go.bits .and .u64 (shr .u64 (List.getD x3902 ((x3899 : Int).toNat) 0) (IntKind.u64.wrap (x3831))) 1) = 1))) rfl rfl (xr_bin (.int .u64 (Go.bits .and .u64 (shr .u64 (List.getD x3902 ((x3899 : Int).toNat) 0) (IntKind.u64.wrap (x3831))) 1)) (.int .u64 1) (.bool (decide ((Go.bits .and .u64 (shr .u64 (List.getD x3902 ((x3899 : Int).toNat) 0) (IntKind.u64.wrap (x3831))) 1) = 1))) rfl rfl rfl (B.eql_u64 (Go.bits .and .u64 (shr .u64 (List.getD x3902 ((x3899 : Int).toNat) 0) (IntKind.u64.wrap (x3831))) 1) 1)) ?_
          simp only [ls0, ls1]
          refine wl_end ?_
          (try simp only [Act.put, List.setIfInBounds_toArray, ls0, ls1])
          refine hK3920 _ _ ?_
          (try clear hK3920 K3920)
          by_cases c3924 : (Go.bits .and .u64 (shr .u64 (List.getD x3902 ((x3899 : Int).toNat) 0) (IntKind.u64.wrap (x3831))) 1) = 1
          ·rw [if_pos c3924] at H
           (try rw [(decide_eq_true c3924)])
           (try simp only [Bool.not_true, Bool.not_false])
           refine wp_cond_true rfl ?_
           (try simp only [Act.put, List.setIfInBounds_toArray, ls0, ls1])
           refine al_start #[false, false, false, false, false, false, false, false, false, false, false, false, false, false, false, false, false] rfl rfl rfl (fun w_ => w_.heap[g0]? = some (.cells (List.toArray ([.slice A0_0 l0_0.length c0_0, v0_1] ++ (List.map (Value.int .u64) x3902 ++ (List.map (Value.int .u64) a0_3)))) 47 (0, 0))) (HJ3904.drew).2 [16] ?_
           replace HJ3904 := HJ3904.drew
           replace HJ3900 := HJ3900.drew
           replace HJ3901 := HJ3901.drew
           replace HS3909 := Step.ofDrew HS3909
           generalize w3907.drew = w3925 at *
           refine al_pure 0 33 (.pointer (some ⟨g0, 0, none⟩)) #[true, false, false, false, false, false, false, false, false, false, false, false, false, false, false, false, false] rfl rfl (by kernel_rfl) (fun _ _ _ h_ => h_) rfl (fun w_ => xr_move (.pointer (some ⟨g0, 0, none⟩)) rfl rfl) ?_
           simp only [ls0, ls1]
           refine al_pure 1 34 (.int .i64 x3899) #[true, true, false, false, false, false, false, false, false, false, false, false, false, false, false, false, false] rfl rfl (by kernel_rfl) (fun _ _ _ h_ => h_) rfl (fun w_ => xr_move (.int .i64 x3899) rfl rfl) ?_
           simp only [ls0, ls1]
           refine al_pure 2 35 (.pointer (some ⟨g0, 0, none⟩)) #[true, true, true, false, false, false, false, false, false, false, false, false, false, false, false, false, false] rfl rfl (by kernel_rfl) (fun _ _ _ h_ => h_) rfl (fun w_ => xr_nilCheck ⟨g0, 0, none⟩ rfl rfl) ?_
           simp only [ls0, ls1]
           refine al_pure 3 36 (.pointer (some ⟨g0, 2, none⟩)) #[true, true, true, true, false, false, false, false, false, false, false, false, false, false, false, false, false] rfl rfl (by kernel_rfl) (fun _ _ _ h_ => h_) rfl (fun w_ => xr_fieldAddr (.pointer (some ⟨g0, 0, none⟩)) (.pointer (some ⟨g0, 2, none⟩)) rfl rfl (bx_field2 Try.underlying47 rfl rfl (by kernel_rfl))) ?_
           simp only [ls0, ls1]
           refine al_pure 4 37 (.pointer (some ⟨g0, 2 + ((x3899 : Int).toNat), none⟩)) #[true, true, true, true, true, false, false, false, false, false, false, false, false, false, false, false, false] rfl rfl (by kernel_rfl) (fun _ _ _ h_ => h_) rfl (fun w_ => xr_indexAddr (.pointer (some ⟨g0, 2, none⟩)) (.int .i64 x3899) (.pointer (some ⟨g0, 2 + ((x3899 : Int).toNat), none⟩)) rfl rfl rfl (arr_index (sz := 1) Try.underlying45 (by kernel_rfl) (by first | assumption | decide | omega) (by first | assumption | decide | omega) (by omega))) ?_
           simp only [ls0, ls1]
           refine al_pure 6 39 (.pointer (some ⟨g0, 0, none⟩)) #[true, true, true, true, true, false, true, false, false, false, false, false, false, false, false, false, false] rfl rfl (by kernel_rfl) (fun _ _ _ h_ => h_) rfl (fun w_ => xr_move (.pointer (some ⟨g0, 0, none⟩)) rfl rfl) ?_
           simp only [ls0, ls1]
           refine al_pure 7 40 (.int .i64 x3831) #[true, true, true, true, true, false, true, true, false, false, false, false, false, false, false, false, false] rfl rfl (by kernel_rfl) (fun _ _ _ h_ => h_) rfl (fun w_ => xr_move (.int .i64 x3831) rfl rfl) ?_
           simp only [ls0, ls1]
           refine al_pure 8 41 (.pointer (some ⟨g0, 0, none⟩)) #[true, true, true, true, true, false, true, true, true, false, false, false, false, false, false, false, false] rfl rfl (by kernel_rfl) (fun _ _ _ h_ => h_) rfl (fun w_ => xr_nilCheck ⟨g0, 0, none⟩ rfl rfl) ?_
           simp only [ls0, ls1]
           refine al_pure 9 42 (.pointer (some ⟨g0, 2, none⟩)) #[true, true, true, true, true, false, true, true, true, true, false, false, false, false, false, false, false] rfl rfl (by kernel_rfl) (fun _ _ _ h_ => h_) rfl (fun w_ => xr_fieldAddr (.pointer (some ⟨g0, 0, none⟩)) (.pointer (some ⟨g0, 2, none⟩)) rfl rfl (bx_field2 Try.underlying47 rfl rfl (by kernel_rfl))) ?_
           simp only [ls0, ls1]
           by_cases c3926 : 0 ≤ x3831
           ·rw [if_pos c3926] at H
            by_cases c3927 : x3831 < 64
            ·rw [if_pos c3927] at H
             refine al_pure 10 43 (.pointer (some ⟨g0, 2 + ((x3831 : Int).toNat), none⟩)) #[true, true, true, true, true, false, true, true, true, true, true, false, false, false, false, false, false] rfl rfl (by kernel_rfl) (fun _ _ _ h_ => h_) rfl (fun w_ => xr_indexAddr (.pointer (some ⟨g0, 2, none⟩)) (.int .i64 x3831) (.pointer (some ⟨g0, 2 + ((x3831 : Int).toNat), none⟩)) rfl rfl rfl (arr_index (sz := 1) Try.underlying45 (by kernel_rfl) (by first | assumption | decide | omega) (by first | assumption | decide | omega) (by omega))) ?_
             simp only [ls0, ls1]
             refine al_pure 13 46 (.pointer (some ⟨g0, 0, none⟩)) #[true, true, true, true, true, false, true, true, true, true, true, false, false, true, false, false, false] rfl rfl (by kernel_rfl) (fun _ _ _ h_ => h_) rfl (fun w_ => xr_nilCheck ⟨g0, 0, none⟩ rfl rfl) ?_
             simp only [ls0, ls1]
             refine al_pure 14 47 (.pointer (some ⟨g0, 2, none⟩)) #[true, true, true, true, true, false, true, true, true, true, true, false, false, true, true, false, false] rfl rfl (by kernel_rfl) (fun _ _ _ h_ => h_) rfl (fun w_ => xr_fieldAddr (.pointer (some ⟨g0, 0, none⟩)) (.pointer (some ⟨g0, 2, none⟩)) rfl rfl (bx_field2 Try.underlying47 rfl rfl (by kernel_rfl))) ?_
             simp only [ls0, ls1]
             refine al_take 5 38 (.int .u64 (List.getD x3902 ((x3899 : Int).toNat) 0)) #[true, true, true, true, true, true, true, true, true, true, true, false, false, true, true, false, false] rfl rfl (by kernel_rfl) (fun _ _ _ h_ => h_) rfl (fun w_ hS_ => xr_load (.pointer (some ⟨g0, 2 + ((x3899 : Int).toNat), none⟩)) (.int .u64 (List.getD x3902 ((x3899 : Int).toNat) 0)) rfl rfl (arr_load (o := 2) (N := 64) (pre := [.slice A0_0 l0_0.length c0_0, v0_1]) (post := List.map (Value.int .u64) a0_3) (enc := (Value.int .u64)) (l := x3902) (i := (x3899 : Int).toNat) 0 Try.underlying40 rfl hS_ (by first | (simp only [List.append_assoc, List.cons_append, List.nil_append, List.append_nil]; done) | rfl) (by simp []) HL3903 (by omega) (by omega))) (HJ3904).2 ?_
             simp only [ls0, ls1]
             refine al_take 11 44 (.int .u64 (List.getD x3902 ((x3831 : Int).toNat) 0)) #[true, true, true, true, true, true, true, true, true, true, true, true, false, true, true, false, false] rfl rfl (by kernel_rfl) (fun _ _ _ h_ => h_) rfl (fun w_ hS_ => xr_load (.pointer (some ⟨g0, 2 + ((x3831 : Int).toNat), none⟩)) (.int .u64 (List.getD x3902 ((x3831 : Int).toNat) 0)) rfl rfl (arr_load (o := 2) (N := 64) (pre := [.slice A0_0 l0_0.length c0_0, v0_1]) (post := List.map (Value.int .u64) a0_3) (enc := (Value.int .u64)) (l := x3902) (i := (x3831 : Int).toNat) 0 Try.underlying40 rfl hS_ (by first | (simp only [List.append_assoc, List.cons_append, List.nil_append, List.append_nil]; done) | rfl) (by simp []) HL3903 (by omega) (by omega))) (HJ3904).2 ?_
             simp only [ls0, ls1]
             refine al_pure 12 45 (.int .u64 (Go.bits .or .u64 (List.getD x3902 ((x3899 : Int).toNat) 0) (List.getD x3902 ((x3831 : Int).toNat) 0))) #[true, true, true, true, true, true, true, true, true, true, true, true, true, true, true, false, false] rfl rfl (by kernel_rfl) (fun _ _ _ h_ => h_) rfl (fun w_ => xr_bin (.int .u64 (List.getD x3902 ((x3899 : Int).toNat) 0)) (.int .u64 (List.getD x3902 ((x3831 : Int).toNat) 0)) (.int .u64 (Go.bits .or .u64 (List.getD x3902 ((x3899 : Int).toNat) 0) (List.getD x3902 ((x3831 : Int).toNat) 0))) rfl rfl rfl (B.or_u64 (List.getD x3902 ((x3899 : Int).toNat) 0) (List.getD x3902 ((x3831 : Int).toNat) 0))) ?_
             simp only [ls0, ls1]
             refine al_pure 15 48 (.pointer (some ⟨g0, 2 + ((x3899 : Int).toNat), none⟩)) #[true, true, true, true, true, true, true, true, true, true, true, true, true, true, true, true, false] rfl rfl (by kernel_rfl) (fun _ _ _ h_ => h_) rfl (fun w_ => xr_indexAddr (.pointer (some ⟨g0, 2, none⟩)) (.int .i64 x3899) (.pointer (some ⟨g0, 2 + ((x3899 : Int).toNat), none⟩)) rfl rfl rfl (arr_index (sz := 1) Try.underlying45 (by kernel_rfl) (by first | assumption | decide | omega) (by first | assumption | decide | omega) (by omega))) ?_
             simp only [ls0, ls1]
             obtain ⟨y3928, A3929, H⟩ := Option.bind_eq_some_iff.mp H
             (try dsimp only at H)
             refine al_last 16 #[true, true, true, true, true, true, true, true, true, true, true, true, true, true, true, true, true] rfl rfl (by kernel_rfl) rfl (fun K_ hK_ => ?_)
             refine arr_store_step (C := C3906) (z := 1) (g := g0) (tb := 47) (of := 2) (N := 64) (pre := [.slice A0_0 l0_0.length c0_0, v0_1]) (post := List.map (Value.int .u64) a0_3) (enc := (Value.int .u64)) (l0 := x3902) (i := (x3899 : Int).toNat) (Go.bits .or .u64 (List.getD x3902 ((x3899 : Int).toNat) 0) (List.getD x3902 ((x3831 : Int).toNat) 0)) rfl rfl rfl rfl rfl rfl (by kernel_rfl) rfl HJ3904 (by first | (simp only [List.append_assoc, List.cons_append, List.nil_append, List.append_nil]; done) | rfl) (by simp []) HL3903 (by omega) (by omega) (Option.some.inj A3929) (xs' := [.slice A0_0 l0_0.length c0_0, v0_1] ++ (List.map (Value.int .u64) y3928 ++ (List.map (Value.int .u64) a0_3))) (by first | (simp only [List.append_assoc, List.cons_append, List.nil_append, List.append_nil]; done) | rfl) ?_
             intro w3930 HX3931 HL3933 hs3932
             replace HJ3900 := HJ3900.thru hs3932 rfl
             replace HJ3901 := HJ3901.thru hs3932 rfl
             replace HS3909 := HS3909.trans hs3932 hc rfl
             refine hK_ _ _ ?_
             clear hK_ K_
             (try simp only [Act.put, List.setIfInBounds_toArray, ls0, ls1])
             refine al_end (by kernel_rfl) ?_
             (try simp only [Act.put, List.setIfInBounds_toArray, ls0, ls1])
             refine hK3918 _ _ ?_
             (try clear hK3918 K3918)
             refine wl_region ?_
             refine st (.int .i64 (wrap64 (x3899 + 1))) rfl rfl (xr_bin (.int .i64 x3899) (.int .i64 1) (.int .i64 (wrap64 (x3899 + 1))) rfl rfl rfl (B.add_i64 x3899 1)) ?_
             simp only [ls0, ls1]
             refine st (.int .i64 (wrap64 (x3899 + 1))) rfl rfl (xr_move (.int .i64 (wrap64 (x3899 + 1))) rfl rfl) ?_
             simp only [ls0, ls1]
             refine wl_end ?_
             (try simp only [Act.put, List.setIfInBounds_toArray, ls0, ls1])
             exact ih3911 k3914 (by omega) _ _ ⟨_, wrap64 (x3899 + 1), y3928, (fun q_ => List.getD [undef, (g3905 1), undef, .int .i64 x3899, (g3905 4), (g3905 5), (g3905 6), (g3905 7), (g3905 8), (g3905 9), undef, undef, (g3905 12), (g3905 13), (g3905 14), (g3905 15), (g3905 16), (g3905 17), undef, undef, .bool true, .int .i64 x3899, .pointer (some ⟨g0, 0, none⟩), .int .i64 x3899, .pointer (some ⟨g0, 0, none⟩), .pointer (some ⟨g0, 2, none⟩), .pointer (some ⟨g0, 2 + ((x3899 : Int).toNat), none⟩), .int .u64 (List.getD x3902 ((x3899 : Int).toNat) 0), .int .i64 x3831, .int .u64 (IntKind.u64.wrap (x3831)), .int .u64 (shr .u64 (List.getD x3902 ((x3899 : Int).toNat) 0) (IntKind.u64.wrap (x3831))), .int .u64 (Go.bits .and .u64 (shr .u64 (List.getD x3902 ((x3899 : Int).toNat) 0) (IntKind.u64.wrap (x3831))) 1), .bool true, .pointer (some ⟨g0, 0, none⟩), .int .i64 x3899, .pointer (some ⟨g0, 0, none⟩), .pointer (some ⟨g0, 2, none⟩), .pointer (some ⟨g0, 2 + ((x3899 : Int).toNat), none⟩), .int .u64 (List.getD x3902 ((x3899 : Int).toNat) 0), .pointer (some ⟨g0, 0, none⟩), .int .i64 x3831, .pointer (some ⟨g0, 0, none⟩), .pointer (some ⟨g0, 2, none⟩), .pointer (some ⟨g0, 2 + ((x3831 : Int).toNat), none⟩), .int .u64 (List.getD x3902 ((x3831 : Int).toNat) 0), .int .u64 (Go.bits .or .u64 (List.getD x3902 ((x3899 : Int).toNat) 0) (List.getD x3902 ((x3831 : Int).toNat) 0)), .pointer (some ⟨g0, 0, none⟩), .pointer (some ⟨g0, 2, none⟩), .pointer (some ⟨g0, 2 + ((x3899 : Int).toNat), none⟩), .int .i64 (wrap64 (x3899 + 1)), (g3905 50), (g3905 51), (g3905 52), (g3905 53), (g3905 54), (g3905 55), (g3905 56), (g3905 57), (g3905 58), (g3905 59), (g3905 60), (g3905 61), (g3905 62), (g3905 63), (g3905 64), (g3905 65), (g3905 66), (g3905 67), (g3905 68), (g3905 69), (g3905 70), (g3905 71), (g3905 72), (g3905 73), (g3905 74), (g3905 75), (g3905 76), (g3905 77), (g3905 78), (g3905 79), (g3905 80), (g3905 81), (g3905 82), (g3905 83), (g3905 84), (g3905 85), (g3905 86), (g3905 87), (g3905 88), (g3905 89), (g3905 90), (g3905 91), (g3905 92)] q_ undef), rfl, HS3909, (by omega), HJ3900, HJ3901, HL3933, HX3931, H⟩
            ·rw [if_neg c3927] at H
             exact absurd H (by simp)
           ·rw [if_neg c3926] at H
            exact absurd H (by simp)
          ·rw [if_neg c3924] at H
           (try rw [(decide_eq_false c3924)])
           (try simp only [Bool.not_true, Bool.not_false])
           refine wp_cond_false rfl ?_
           refine wp_skip ?_
           (try simp only [Act.put, List.setIfInBounds_toArray, ls0, ls1])
           refine hK3918 _ _ ?_
           (try clear hK3918 K3918)
           refine wl_region ?_
           refine st (.int .i64 (wrap64 (x3899 + 1))) rfl rfl (xr_bin (.int .i64 x3899) (.int .i64 1) (.int .i64 (wrap64 (x3899 + 1))) rfl rfl rfl (B.add_i64 x3899 1)) ?_
           simp only [ls0, ls1]
           refine st (.int .i64 (wrap64 (x3899 + 1))) rfl rfl (xr_move (.int .i64 (wrap64 (x3899 + 1))) rfl rfl) ?_
           simp only [ls0, ls1]
           refine wl_end ?_
           (try simp only [Act.put, List.setIfInBounds_toArray, ls0, ls1])
           exact ih3911 k3914 (by omega) _ _ ⟨_, wrap64 (x3899 + 1), x3902, (fun q_ => List.getD [undef, (g3905 1), undef, .int .i64 x3899, (g3905 4), (g3905 5), (g3905 6), (g3905 7), (g3905 8), (g3905 9), undef, undef, (g3905 12), (g3905 13), (g3905 14), (g3905 15), (g3905 16), (g3905 17), undef, undef, .bool true, .int .i64 x3899, .pointer (some ⟨g0, 0, none⟩), .int .i64 x3899, .pointer (some ⟨g0, 0, none⟩), .pointer (some ⟨g0, 2, none⟩), .pointer (some ⟨g0, 2 + ((x3899 : Int).toNat), none⟩), .int .u64 (List.getD x3902 ((x3899 : Int).toNat) 0), .int .i64 x3831, .int .u64 (IntKind.u64.wrap (x3831)), .int .u64 (shr .u64 (List.getD x3902 ((x3899 : Int).toNat) 0) (IntKind.u64.wrap (x3831))), .int .u64 (Go.bits .and .u64 (shr .u64 (List.getD x3902 ((x3899 : Int).toNat) 0) (IntKind.u64.wrap (x3831))) 1), .bool false, (g3905 33), (g3905 34), (g3905 35), (g3905 36), (g3905 37), (g3905 38), (g3905 39), (g3905 40), (g3905 41), (g3905 42), (g3905 43), (g3905 44), (g3905 45), (g3905 46), (g3905 47), (g3905 48), .int .i64 (wrap64 (x3899 + 1)), (g3905 50), (g3905 51), (g3905 52), (g3905 53), (g3905 54), (g3905 55), (g3905 56), (g3905 57), (g3905 58), (g3905 59), (g3905 60), (g3905 61), (g3905 62), (g3905 63), (g3905 64), (g3905 65), (g3905 66), (g3905 67), (g3905 68), (g3905 69), (g3905 70), (g3905 71), (g3905 72), (g3905 73), (g3905 74), (g3905 75), (g3905 76), (g3905 77), (g3905 78), (g3905 79), (g3905 80), (g3905 81), (g3905 82), (g3905 83), (g3905 84), (g3905 85), (g3905 86), (g3905 87), (g3905 88), (g3905 89), (g3905 90), (g3905 91), (g3905 92)] q_ undef), rfl, HS3909, (by omega), HJ3900, HJ3901, HL3903, HJ3904, H⟩
         ·rw [if_neg c3923] at H
          exact absurd H (by simp)
        ·rw [if_neg c3922] at H
         exact absurd H (by simp)
       ·rw [if_neg c3921] at H
        exact absurd H (by simp)
      ·rw [if_neg c3917] at H
       (try rw [(decide_eq_false c3917)])
       (try simp only [Bool.not_true, Bool.not_false])
       refine wp_cond_false rfl ?_
       refine wp_exit ?_
       (try simp only [Act.put, List.setIfInBounds_toArray, ls0, ls1])
       refine hK3850 _ _ ?_
       (try clear hK3850 K3850)
       refine wl_region ?_
       refine st (.int .i64 (wrap64 (x3831 + 1))) rfl rfl (xr_bin (.int .i64 x3831) (.int .i64 1) (.int .i64 (wrap64 (x3831 + 1))) rfl rfl rfl (B.add_i64 x3831 1)) ?_
       simp only [ls0, ls1]
       refine st (.int .i64 (wrap64 (x3831 + 1))) rfl rfl (xr_move (.int .i64 (wrap64 (x3831 + 1))) rfl rfl) ?_
       simp only [ls0, ls1]
       refine wl_end ?_
       (try simp only [Act.put, List.setIfInBounds_toArray, ls0, ls1])
       exact ih3843 k3914 (by omega) _ _ ⟨_, wrap64 (x3831 + 1), x3902, (fun q_ => List.getD [undef, (g3905 1), .int .i64 x3831, (g3905 3), (g3905 4), (g3905 5), (g3905 6), (g3905 7), (g3905 8), (g3905 9), undef, undef, (g3905 12), (g3905 13), (g3905 14), (g3905 15), (g3905 16), (g3905 17), .int .i64 (l0_0.length : Int), .int .i64 x3899, .bool false, (g3905 21), (g3905 22), (g3905 23), (g3905 24), (g3905 25), (g3905 26), (g3905 27), (g3905 28), (g3905 29), (g3905 30), (g3905 31), (g3905 32), (g3905 33), (g3905 34), (g3905 35), (g3905 36), (g3905 37), (g3905 38), (g3905 39), (g3905 40), (g3905 41), (g3905 42), (g3905 43), (g3905 44), (g3905 45), (g3905 46), (g3905 47), (g3905 48), (g3905 49), .int .i64 (wrap64 (x3831 + 1)), (g3905 51), (g3905 52), (g3905 53), (g3905 54), (g3905 55), (g3905 56), (g3905 57), (g3905 58), (g3905 59), (g3905 60), (g3905 61), (g3905 62), (g3905 63), (g3905 64), (g3905 65), (g3905 66), (g3905 67), (g3905 68), (g3905 69), (g3905 70), (g3905 71), (g3905 72), (g3905 73), (g3905 74), (g3905 75), (g3905 76), (g3905 77), (g3905 78), (g3905 79), (g3905 80), (g3905 81), (g3905 82), (g3905 83), (g3905 84), (g3905 85), (g3905 86), (g3905 87), (g3905 88), (g3905 89), (g3905 90), (g3905 91), (g3905 92)] q_ undef), rfl, HS3909, (by omega), HJ3900, HJ3901, HL3903, HJ3904, H⟩
   ·rw [if_neg c3849] at H
    (try rw [(decide_eq_false c3849)])
    (try simp only [Bool.not_true, Bool.not_false])
    refine wp_cond_false rfl ?_
    refine wp_exit ?_
    (try simp only [Act.put, List.setIfInBounds_toArray, ls0, ls1])
    refine hK3361 _ _ ?_
    (try clear hK3361 K3361)
    refine wp_seq_k fun K3934 hK3934 => ?_
    refine wl_region ?_
    refine st (.pointer (some ⟨g0, 0, none⟩)) rfl rfl (xr_move (.pointer (some ⟨g0, 0, none⟩)) rfl rfl) ?_
    simp only [ls0, ls1]
    refine st (.pointer (some ⟨g0, 0, none⟩)) rfl rfl (xr_nilCheck ⟨g0, 0, none⟩ rfl rfl) ?_
    simp only [ls0, ls1]
    refine st (.pointer (some ⟨g0, 0, none⟩)) rfl rfl (xr_fieldAddr (.pointer (some ⟨g0, 0, none⟩)) (.pointer (some ⟨g0, 0, none⟩)) rfl rfl (bx_field2 Try.underlying47 rfl rfl (by kernel_rfl))) ?_
    simp only [ls0, ls1]
    refine st (.slice A0_0 l0_0.length c0_0) rfl rfl (xr_load (.pointer (some ⟨g0, 0, none⟩)) (.slice A0_0 l0_0.length c0_0) rfl rfl (load_cell Try.underlying44 rfl (bx_cell (l := ([.slice A0_0 l0_0.length c0_0, v0_1] ++ (List.map (Value.int .u64) x3834 ++ (List.map (Value.int .u64) a0_3)))) (HJ3836).2 0 rfl))) ?_
    simp only [ls0, ls1]
    refine st (.int .i64 (l0_0.length : Int)) rfl rfl (xr_builtin #[.slice A0_0 l0_0.length c0_0] (.int .i64 (l0_0.length : Int)) rfl (by simp only [List.map_toArray, List.map_cons, List.map_nil]; first | done | rfl) (by first | rfl | (go_simp; done) | (go_simp; rfl) | (go_simp; exact i64_w _) | (go_simp; exact i32_w _))) ?_
    simp only [ls0, ls1]
    refine st (.int .i64 0) rfl rfl (xr_move (.int .i64 0) rfl rfl) ?_
    simp only [ls0, ls1]
    refine wl_end ?_
    (try simp only [Act.put, List.setIfInBounds_toArray, ls0, ls1])
    refine hK3934 _ _ ?_
    (try clear hK3934 K3934)
    refine wp_block ?_
    (try simp only [Act.put, List.setIfInBounds_toArray, ls0, ls1])
    refine wp_looped (looped_ind (fun kq4130 a_ w4129 => ∃ (C4128 : Nat → Nat) (x4121 : Int) (x4124 : List Int) (g4127 : Nat → Value), a_ = ⟨#[.pointer (some ⟨g0, 0, none⟩), (g4127 1), (g4127 2), (g4127 3), (g4127 4), (g4127 5), (g4127 6), (g4127 7), (g4127 8), (g4127 9), (g4127 10), (g4127 11), (g4127 12), (g4127 13), (g4127 14), (g4127 15), (g4127 16), (g4127 17), (g4127 18), (g4127 19), (g4127 20), (g4127 21), (g4127 22), (g4127 23), (g4127 24), (g4127 25), (g4127 26), (g4127 27), (g4127 28), (g4127 29), (g4127 30), (g4127 31), (g4127 32), (g4127 33), (g4127 34), (g4127 35), (g4127 36), (g4127 37), (g4127 38), (g4127 39), (g4127 40), (g4127 41), (g4127 42), (g4127 43), (g4127 44), (g4127 45), (g4127 46), (g4127 47), (g4127 48), (g4127 49), (g4127 50), (g4127 51), (g4127 52), (g4127 53), (g4127 54), .int .i64 (l0_0.length : Int), .int .i64 x4121, (g4127 57), (g4127 58), (g4127 59), (g4127 60), (g4127 61), (g4127 62), (g4127 63), (g4127 64), (g4127 65), (g4127 66), (g4127 67), (g4127 68), (g4127 69), (g4127 70), (g4127 71), (g4127 72), (g4127 73), (g4127 74), (g4127 75), (g4127 76), (g4127 77), (g4127 78), (g4127 79), (g4127 80), (g4127 81), (g4127 82), (g4127 83), (g4127 84), (g4127 85), (g4127 86), (g4127 87), (g4127 88), (g4127 89), (g4127 90), (g4127 91), (g4127 92)], []⟩ ∧ Step c w C4128 w4129 [1] ∧ kq4130 ≤ k3846 ∧ (Ft C4128 [0] w4129 (fun w_ => Kd.string.C w_ A0_0 l0_0.length l0_0)) ∧ (Ft C4128 [0] w4129 (fun w_ => (Kd.mp Value.string (Value.int .i64)).K w_ m0_1 [v0_1])) ∧ (x4124.length = 64) ∧ (Bx C4128 1 w4129 g0 47 ([.slice A0_0 l0_0.length c0_0, v0_1] ++ (List.map (Value.int .u64) x3834 ++ (List.map (Value.int .u64) x4124)))) ∧ order_Order_close.l2 kq4130 l0_0 x3834 x4121 x4124 = some (r1, r2)) ?step k3846 _ _ ?init)
    case init =>
     exact ⟨_, 0, a0_3, (fun q_ => List.getD [undef, (g3837 1), (g3837 2), (g3837 3), (g3837 4), (g3837 5), (g3837 6), (g3837 7), (g3837 8), (g3837 9), .int .i64 (l0_0.length : Int), .int .i64 x3831, .bool false, (g3837 13), (g3837 14), (g3837 15), (g3837 16), (g3837 17), (g3837 18), (g3837 19), (g3837 20), (g3837 21), (g3837 22), (g3837 23), (g3837 24), (g3837 25), (g3837 26), (g3837 27), (g3837 28), (g3837 29), (g3837 30), (g3837 31), (g3837 32), (g3837 33), (g3837 34), (g3837 35), (g3837 36), (g3837 37), (g3837 38), (g3837 39), (g3837 40), (g3837 41), (g3837 42), (g3837 43), (g3837 44), (g3837 45), (g3837 46), (g3837 47), (g3837 48), (g3837 49), (g3837 50), .pointer (some ⟨g0, 0, none⟩), .pointer (some ⟨g0, 0, none⟩), .pointer (some ⟨g0, 0, none⟩), .slice A0_0 l0_0.length c0_0, undef, undef, (g3837 57), (g3837 58), (g3837 59), (g3837 60), (g3837 61), (g3837 62), (g3837 63), (g3837 64), (g3837 65), (g3837 66), (g3837 67), (g3837 68), (g3837 69), (g3837 70), (g3837 71), (g3837 72), (g3837 73), (g3837 74), (g3837 75), (g3837 76), (g3837 77), (g3837 78), (g3837 79), (g3837 80), (g3837 81), (g3837 82), (g3837 83), (g3837 84), (g3837 85), (g3837 86), (g3837 87), (g3837 88), (g3837 89), (g3837 90), (g3837 91), (g3837 92)] q_ undef), rfl, HS3841, Nat.le_refl _, HJ3832, HJ3833, HL0_3, HJ3836, H⟩
    case step =>
     intro kq4130 ih4133 a4134 w4129 hr4135
     obtain ⟨C4128, x4121, x4124, g4127, rfl, HS4131, hk4132, HJ4122, HJ4123, HL4125, HJ4126, H⟩ := hr4135
     refine looped_round ?_
     cases kq4130 with
     | zero => exact absurd H (by simp [order_Order_close.l2])
     | succ k4136 =>
      simp only [order_Order_close.l2] at H
      refine wp_seq_k fun K4137 hK4137 => ?_
      refine wl_region ?_
      refine st (.bool (decide (x4121 < (l0_0.length : Int)))) rfl rfl (xr_bin (.int .i64 x4121) (.int .i64 (l0_0.length : Int)) (.bool (decide (x4121 < (l0_0.length : Int)))) rfl rfl rfl (B.lss_i64 x4121 (l0_0.length : Int))) ?_
      simp only [ls0, ls1]
      refine wl_end ?_
      (try simp only [Act.put, List.setIfInBounds_toArray, ls0, ls1])
      refine hK4137 _ _ ?_
      (try clear hK4137 K4137)
      refine wp_seq_k fun K4138 hK4138 => ?_
      by_cases c4139 : x4121 < (l0_0.length : Int)
      ·rw [if_pos c4139] at H
       (try rw [(decide_eq_true c4139)])
       (try simp only [Bool.not_true, Bool.not_false])
       refine wp_cond_true rfl ?_
       refine wp_skip ?_
       (try simp only [Act.put, List.setIfInBounds_toArray, ls0, ls1])
       refine hK4138 _ _ ?_
       (try clear hK4138 K4138)
       refine wp_seq_k fun K4140 hK4140 => ?_
       refine wp_block ?_
       refine wp_seq_k fun K4141 hK4141 => ?_
       refine wl_region ?_
       refine st (.int .i64 x4121) rfl rfl (xr_move (.int .i64 x4121) rfl rfl) ?_
       simp only [ls0, ls1]
       refine st (.int .i64 x4121) rfl rfl (xr_assign (.int .i64 x4121) rfl rfl) ?_
       simp only [ls0, ls1]
       refine wl_end ?_
       (try simp only [Act.put, List.setIfInBounds_toArray, ls0, ls1])
       refine hK4141 _ _ ?_
       (try clear hK4141 K4141)
       refine wp_seq_k fun K4142 hK4142 => ?_
       refine wl_region ?_
       refine st (.pointer (some ⟨g0, 0, none⟩)) rfl rfl (xr_move (.pointer (some ⟨g0, 0, none⟩)) rfl rfl) ?_
       simp only [ls0, ls1]
       refine st (.pointer (some ⟨g0, 0, none⟩)) rfl rfl (xr_nilCheck ⟨g0, 0, none⟩ rfl rfl) ?_
       simp only [ls0, ls1]
       refine st (.pointer (some ⟨g0, 0, none⟩)) rfl rfl (xr_fieldAddr (.pointer (some ⟨g0, 0, none⟩)) (.pointer (some ⟨g0, 0, none⟩)) rfl rfl (bx_field2 Try.underlying47 rfl rfl (by kernel_rfl))) ?_
       simp only [ls0, ls1]
       refine st (.slice A0_0 l0_0.length c0_0) rfl rfl (xr_load (.pointer (some ⟨g0, 0, none⟩)) (.slice A0_0 l0_0.length c0_0) rfl rfl (load_cell Try.underlying44 rfl (bx_cell (l := ([.slice A0_0 l0_0.length c0_0, v0_1] ++ (List.map (Value.int .u64) x3834 ++ (List.map (Value.int .u64) x4124)))) (HJ4126).2 0 rfl))) ?_
       simp only [ls0, ls1]
       refine st (.int .i64 (l0_0.length : Int)) rfl rfl (xr_builtin #[.slice A0_0 l0_0.length c0_0] (.int .i64 (l0_0.length : Int)) rfl (by simp only [List.map_toArray, List.map_cons, List.map_nil]; first | done | rfl) (by first | rfl | (go_simp; done) | (go_simp; rfl) | (go_simp; exact i64_w _) | (go_simp; exact i32_w _))) ?_
       simp only [ls0, ls1]
       refine st (.int .i64 0) rfl rfl (xr_move (.int .i64 0) rfl rfl) ?_
       simp only [ls0, ls1]
       refine wl_end ?_
       (try simp only [Act.put, List.setIfInBounds_toArray, ls0, ls1])
       refine hK4142 _ _ ?_
       (try clear hK4142 K4142)
       refine wp_block ?_
       (try simp only [Act.put, List.setIfInBounds_toArray, ls0, ls1])
       refine wp_looped (looped_ind (fun kq4199 a_ w4198 => ∃ (C4197 : Nat → Nat) (x4190 : Int) (x4193 : List Int) (g4196 : Nat → Value), a_ = ⟨#[.pointer (some ⟨g0, 0, none⟩), (g4196 1), (g4196 2), (g4196 3), .int .i64 x4121, (g4196 5), (g4196 6), (g4196 7), (g4196 8), (g4196 9), (g4196 10), (g4196 11), (g4196 12), (g4196 13), (g4196 14), (g4196 15), (g4196 16), (g4196 17), (g4196 18), (g4196 19), (g4196 20), (g4196 21), (g4196 22), (g4196 23), (g4196 24), (g4196 25), (g4196 26), (g4196 27), (g4196 28), (g4196 29), (g4196 30), (g4196 31), (g4196 32), (g4196 33), (g4196 34), (g4196 35), (g4196 36), (g4196 37), (g4196 38), (g4196 39), (g4196 40), (g4196 41), (g4196 42), (g4196 43), (g4196 44), (g4196 45), (g4196 46), (g4196 47), (g4196 48), (g4196 49), (g4196 50), (g4196 51), (g4196 52), (g4196 53), (g4196 54), .int .i64 (l0_0.length : Int), .int .i64 x4121, (g4196 57), (g4196 58), (g4196 59), (g4196 60), (g4196 61), (g4196 62), .int .i64 (l0_0.length : Int), .int .i64 x4190, (g4196 65), (g4196 66), (g4196 67), (g4196 68), (g4196 69), (g4196 70), (g4196 71), (g4196 72), (g4196 73), (g4196 74), (g4196 75), (g4196 76), (g4196 77), (g4196 78), (g4196 79), (g4196 80), (g4196 81), (g4196 82), (g4196 83), (g4196 84), (g4196 85), (g4196 86), (g4196 87), (g4196 88), (g4196 89), (g4196 90), (g4196 91), (g4196 92)], []⟩ ∧ Step c w C4197 w4198 [1] ∧ kq4199 ≤ k4136 ∧ (Ft C4197 [0] w4198 (fun w_ => Kd.string.C w_ A0_0 l0_0.length l0_0)) ∧ (Ft C4197 [0] w4198 (fun w_ => (Kd.mp Value.string (Value.int .i64)).K w_ m0_1 [v0_1])) ∧ (x4193.length = 64) ∧ (Bx C4197 1 w4198 g0 47 ([.slice A0_0 l0_0.length c0_0, v0_1] ++ (List.map (Value.int .u64) x3834 ++ (List.map (Value.int .u64) x4193)))) ∧ order_Order_close.l1 kq4199 l0_0 x3834 x4121 x4190 x4193 = some (r1, r2)) ?step k4136 _ _ ?init)
       case init =>
        exact ⟨_, 0, x4124, (fun q_ => List.getD [undef, (g4127 1), (g4127 2), (g4127 3), undef, (g4127 5), (g4127 6), (g4127 7), (g4127 8), (g4127 9), (g4127 10), (g4127 11), (g4127 12), (g4127 13), (g4127 14), (g4127 15), (g4127 16), (g4127 17), (g4127 18), (g4127 19), (g4127 20), (g4127 21), (g4127 22), (g4127 23), (g4127 24), (g4127 25), (g4127 26), (g4127 27), (g4127 28), (g4127 29), (g4127 30), (g4127 31), (g4127 32), (g4127 33), (g4127 34), (g4127 35), (g4127 36), (g4127 37), (g4127 38), (g4127 39), (g4127 40), (g4127 41), (g4127 42), (g4127 43), (g4127 44), (g4127 45), (g4127 46), (g4127 47), (g4127 48), (g4127 49), (g4127 50), (g4127 51), (g4127 52), (g4127 53), (g4127 54), undef, undef, .bool true, .int .i64 x4121, .pointer (some ⟨g0, 0, none⟩), .pointer (some ⟨g0, 0, none⟩), .pointer (some ⟨g0, 0, none⟩), .slice A0_0 l0_0.length c0_0, undef, undef, (g4127 65), (g4127 66), (g4127 67), (g4127 68), (g4127 69), (g4127 70), (g4127 71), (g4127 72), (g4127 73), (g4127 74), (g4127 75), (g4127 76), (g4127 77), (g4127 78), (g4127 79), (g4127 80), (g4127 81), (g4127 82), (g4127 83), (g4127 84), (g4127 85), (g4127 86), (g4127 87), (g4127 88), (g4127 89), (g4127 90), (g4127 91), (g4127 92)] q_ undef), rfl, HS4131, Nat.le_refl _, HJ4122, HJ4123, HL4125, HJ4126, H⟩
       case step =>
        intro kq4199 ih4202 a4203 w4198 hr4204
        obtain ⟨C4197, x4190, x4193, g4196, rfl, HS4200, hk4201, HJ4191, HJ4192, HL4194, HJ4195, H⟩ := hr4204
        refine looped_round ?_
        cases kq4199 with
        | zero => exact absurd H (by simp [order_Order_close.l1])
        | succ k4205 =>
         simp only [order_Order_close.l1] at H
         refine wp_seq_k fun K4206 hK4206 => ?_
         refine wl_region ?_
         refine st (.bool (decide (x4190 < (l0_0.length : Int)))) rfl rfl (xr_bin (.int .i64 x4190) (.int .i64 (l0_0.length : Int)) (.bool (decide (x4190 < (l0_0.length : Int)))) rfl rfl rfl (B.lss_i64 x4190 (l0_0.length : Int))) ?_
         simp only [ls0, ls1]
         refine wl_end ?_
         (try simp only [Act.put, List.setIfInBounds_toArray, ls0, ls1])
         refine hK4206 _ _ ?_
         (try clear hK4206 K4206)
         refine wp_seq_k fun K4207 hK4207 => ?_
         by_cases c4208 : x4190 < (l0_0.length : Int)
         ·rw [if_pos c4208] at H
          (try rw [(decide_eq_true c4208)])
          (try simp only [Bool.not_true, Bool.not_false])
          refine wp_cond_true rfl ?_
          refine wp_skip ?_
          (try simp only [Act.put, List.setIfInBounds_toArray, ls0, ls1])
          refine hK4207 _ _ ?_
          (try clear hK4207 K4207)
          refine wp_seq_k fun K4209 hK4209 => ?_
          refine wp_block ?_
          refine wp_seq_k fun K4210 hK4210 => ?_
          refine wl_region ?_
          refine st (.int .i64 x4190) rfl rfl (xr_move (.int .i64 x4190) rfl rfl) ?_
          simp only [ls0, ls1]
          refine st (.int .i64 x4190) rfl rfl (xr_assign (.int .i64 x4190) rfl rfl) ?_
          simp only [ls0, ls1]
          refine wl_end ?_
          (try simp only [Act.put, List.setIfInBounds_toArray, ls0, ls1])
          refine hK4210 _ _ ?_
          (try clear hK4210 K4210)
          refine wp_seq_k fun K4211 hK4211 => ?_
          refine wl_region ?_
          refine st (.pointer (some ⟨g0, 0, none⟩)) rfl rfl (xr_move (.pointer (some ⟨g0, 0, none⟩)) rfl rfl) ?_
          simp only [ls0, ls1]
          refine st (.int .i64 x4190) rfl rfl (xr_move (.int .i64 x4190) rfl rfl) ?_
          simp only [ls0, ls1]
          refine st (.pointer (some ⟨g0, 0, none⟩)) rfl rfl (xr_nilCheck ⟨g0, 0, none⟩ rfl rfl) ?_
          simp only [ls0, ls1]
          refine st (.pointer (some ⟨g0, 2, none⟩)) rfl rfl (xr_fieldAddr (.pointer (some ⟨g0, 0, none⟩)) (.pointer (some ⟨g0, 2, none⟩)) rfl rfl (bx_field2 Try.underlying47 rfl rfl (by kernel_rfl))) ?_
          simp only [ls0, ls1]
          by_cases c4212 : 0 ≤ x4190
          ·rw [if_pos c4212] at H
           by_cases c4213 : x4190 < 64
           ·rw [if_pos c4213] at H
            refine st (.pointer (some ⟨g0, 2 + ((x4190 : Int).toNat), none⟩)) rfl rfl (xr_indexAddr (.pointer (some ⟨g0, 2, none⟩)) (.int .i64 x4190) (.pointer (some ⟨g0, 2 + ((x4190 : Int).toNat), none⟩)) rfl rfl rfl (arr_index (sz := 1) Try.underlying45 (by kernel_rfl) (by first | assumption | decide | omega) (by first | assumption | decide | omega) (by omega))) ?_
            simp only [ls0, ls1]
            refine st (.int .u64 (List.getD x3834 ((x4190 : Int).toNat) 0)) rfl rfl (xr_load (.pointer (some ⟨g0, 2 + ((x4190 : Int).toNat), none⟩)) (.int .u64 (List.getD x3834 ((x4190 : Int).toNat) 0)) rfl rfl (arr_load (o := 2) (N := 64) (pre := [.slice A0_0 l0_0.length c0_0, v0_1]) (post := List.map (Value.int .u64) x4193) (enc := (Value.int .u64)) (l := x3834) (i := (x4190 : Int).toNat) 0 Try.underlying40 rfl (HJ4195).2 (by first | (simp only [List.append_assoc, List.cons_append, List.nil_append, List.append_nil]; done) | rfl) (by simp []) HL3835 (by omega) (by omega))) ?_
            simp only [ls0, ls1]
            refine st (.int .i64 x4121) rfl rfl (xr_move (.int .i64 x4121) rfl rfl) ?_
            simp only [ls0, ls1]
            refine st (.int .u64 (IntKind.u64.wrap (x4121))) rfl rfl (xr_conv (.int .i64 x4121) (.int .u64 (IntKind.u64.wrap (x4121))) rfl rfl (by first | rfl | (go_simp; done) | (go_simp; rfl) | (go_simp; exact i64_w _) | (go_simp; exact i32_w _))) ?_
            simp only [ls0, ls1]
            by_cases c4214 : 0 ≤ (IntKind.u64.wrap (x4121))
            ·rw [if_pos c4214] at H
             refine st (.int .u64 (shr .u64 (List.getD x3834 ((x4190 : Int).toNat) 0) (IntKind.u64.wrap (x4121)))) rfl rfl (xr_bin (.int .u64 (List.getD x3834 ((x4190 : Int).toNat) 0)) (.int .u64 (IntKind.u64.wrap (x4121))) (.int .u64 (shr .u64 (List.getD x3834 ((x4190 : Int).toNat) 0) (IntKind.u64.wrap (x4121)))) rfl rfl rfl (B.shr_u64_u64 (List.getD x3834 ((x4190 : Int).toNat) 0) (IntKind.u64.wrap (x4121)) (by assumption))) ?_
             simp only [ls0, ls1]
             refine st (.int .u64 (Go.bits .and .u64 (shr .u64 (List.getD x3834 ((x4190 : Int).toNat) 0) (IntKind.u64.wrap (x4121))) 1)) rfl rfl (xr_bin (.int .u64 (shr .u64 (List.getD x3834 ((x4190 : Int).toNat) 0) (IntKind.u64.wrap (x4121)))) (.int .u64 1) (.int .u64 (Go.bits .and .u64 (shr .u64 (List.getD x3834 ((x4190 : Int).toNat) 0) (IntKind.u64.wrap (x4121))) 1)) rfl rfl rfl (B.and_u64 (shr .u64 (List.getD x3834 ((x4190 : Int).toNat) 0) (IntKind.u64.wrap (x4121))) 1)) ?_
             simp only [ls0, ls1]
             refine st (.bool (decide ((Go.bits .and .u64 (shr .u64 (List.getD x3834 ((x4190 : Int).toNat) 0) (IntKind.u64.wrap (x4121))) 1) = 1))) rfl rfl (xr_bin (.int .u64 (Go.bits .and .u64 (shr .u64 (List.getD x3834 ((x4190 : Int).toNat) 0) (IntKind.u64.wrap (x4121))) 1)) (.int .u64 1) (.bool (decide ((Go.bits .and .u64 (shr .u64 (List.getD x3834 ((x4190 : Int).toNat) 0) (IntKind.u64.wrap (x4121))) 1) = 1))) rfl rfl rfl (B.eql_u64 (Go.bits .and .u64 (shr .u64 (List.getD x3834 ((x4190 : Int).toNat) 0) (IntKind.u64.wrap (x4121))) 1) 1)) ?_
             simp only [ls0, ls1]
             refine wl_end ?_
             (try simp only [Act.put, List.setIfInBounds_toArray, ls0, ls1])
             refine hK4211 _ _ ?_
             (try clear hK4211 K4211)
             by_cases c4215 : (Go.bits .and .u64 (shr .u64 (List.getD x3834 ((x4190 : Int).toNat) 0) (IntKind.u64.wrap (x4121))) 1) = 1
             ·rw [if_pos c4215] at H
              (try rw [(decide_eq_true c4215)])
              (try simp only [Bool.not_true, Bool.not_false])
              refine wp_cond_true rfl ?_
              (try simp only [Act.put, List.setIfInBounds_toArray, ls0, ls1])
              refine al_start #[false, false, false, false, false, false, false, false, false, false, false, false, false, false] rfl rfl rfl (fun w_ => w_.heap[g0]? = some (.cells (List.toArray ([.slice A0_0 l0_0.length c0_0, v0_1] ++ (List.map (Value.int .u64) x3834 ++ (List.map (Value.int .u64) x4193)))) 47 (0, 0))) (HJ4195.drew).2 [13] ?_
              replace HJ4195 := HJ4195.drew
              replace HJ4191 := HJ4191.drew
              replace HJ4192 := HJ4192.drew
              replace HS4200 := Step.ofDrew HS4200
              generalize w4198.drew = w4216 at *
              refine al_pure 0 78 (.pointer (some ⟨g0, 0, none⟩)) #[true, false, false, false, false, false, false, false, false, false, false, false, false, false] rfl rfl (by kernel_rfl) (fun _ _ _ h_ => h_) rfl (fun w_ => xr_move (.pointer (some ⟨g0, 0, none⟩)) rfl rfl) ?_
              simp only [ls0, ls1]
              refine al_pure 1 79 (.int .i64 x4121) #[true, true, false, false, false, false, false, false, false, false, false, false, false, false] rfl rfl (by kernel_rfl) (fun _ _ _ h_ => h_) rfl (fun w_ => xr_move (.int .i64 x4121) rfl rfl) ?_
              simp only [ls0, ls1]
              refine al_pure 2 80 (.pointer (some ⟨g0, 0, none⟩)) #[true, true, true, false, false, false, false, false, false, false, false, false, false, false] rfl rfl (by kernel_rfl) (fun _ _ _ h_ => h_) rfl (fun w_ => xr_nilCheck ⟨g0, 0, none⟩ rfl rfl) ?_
              simp only [ls0, ls1]
              refine al_pure 3 81 (.pointer (some ⟨g0, 66, none⟩)) #[true, true, true, true, false, false, false, false, false, false, false, false, false, false] rfl rfl (by kernel_rfl) (fun _ _ _ h_ => h_) rfl (fun w_ => xr_fieldAddr (.pointer (some ⟨g0, 0, none⟩)) (.pointer (some ⟨g0, 66, none⟩)) rfl rfl (bx_field2 Try.underlying47 rfl rfl (by kernel_rfl))) ?_
              simp only [ls0, ls1]
              by_cases c4217 : 0 ≤ x4121
              ·rw [if_pos c4217] at H
               by_cases c4218 : x4121 < 64
               ·rw [if_pos c4218] at H
                refine al_pure 4 82 (.pointer (some ⟨g0, 66 + ((x4121 : Int).toNat), none⟩)) #[true, true, true, true, true, false, false, false, false, false, false, false, false, false] rfl rfl (by kernel_rfl) (fun _ _ _ h_ => h_) rfl (fun w_ => xr_indexAddr (.pointer (some ⟨g0, 66, none⟩)) (.int .i64 x4121) (.pointer (some ⟨g0, 66 + ((x4121 : Int).toNat), none⟩)) rfl rfl rfl (arr_index (sz := 1) Try.underlying45 (by kernel_rfl) (by first | assumption | decide | omega) (by first | assumption | decide | omega) (by omega))) ?_
                simp only [ls0, ls1]
                refine al_pure 6 84 (.int .i64 x4190) #[true, true, true, true, true, false, true, false, false, false, false, false, false, false] rfl rfl (by kernel_rfl) (fun _ _ _ h_ => h_) rfl (fun w_ => xr_move (.int .i64 x4190) rfl rfl) ?_
                simp only [ls0, ls1]
                refine al_pure 7 85 (.int .u64 (IntKind.u64.wrap (x4190))) #[true, true, true, true, true, false, true, true, false, false, false, false, false, false] rfl rfl (by kernel_rfl) (fun _ _ _ h_ => h_) rfl (fun w_ => xr_conv (.int .i64 x4190) (.int .u64 (IntKind.u64.wrap (x4190))) rfl rfl (by first | rfl | (go_simp; done) | (go_simp; rfl) | (go_simp; exact i64_w _) | (go_simp; exact i32_w _))) ?_
                simp only [ls0, ls1]
                by_cases c4219 : 0 ≤ (IntKind.u64.wrap (x4190))
                ·rw [if_pos c4219] at H
                 refine al_pure 8 86 (.int .u64 (shl .u64 1 (IntKind.u64.wrap (x4190)))) #[true, true, true, true, true, false, true, true, true, false, false, false, false, false] rfl rfl (by kernel_rfl) (fun _ _ _ h_ => h_) rfl (fun w_ => xr_bin (.int .u64 1) (.int .u64 (IntKind.u64.wrap (x4190))) (.int .u64 (shl .u64 1 (IntKind.u64.wrap (x4190)))) rfl rfl rfl (B.shl_u64_u64 1 (IntKind.u64.wrap (x4190)) (by assumption))) ?_
                 simp only [ls0, ls1]
                 refine al_pure 10 88 (.pointer (some ⟨g0, 0, none⟩)) #[true, true, true, true, true, false, true, true, true, false, true, false, false, false] rfl rfl (by kernel_rfl) (fun _ _ _ h_ => h_) rfl (fun w_ => xr_nilCheck ⟨g0, 0, none⟩ rfl rfl) ?_
                 simp only [ls0, ls1]
                 refine al_pure 11 89 (.pointer (some ⟨g0, 66, none⟩)) #[true, true, true, true, true, false, true, true, true, false, true, true, false, false] rfl rfl (by kernel_rfl) (fun _ _ _ h_ => h_) rfl (fun w_ => xr_fieldAddr (.pointer (some ⟨g0, 0, none⟩)) (.pointer (some ⟨g0, 66, none⟩)) rfl rfl (bx_field2 Try.underlying47 rfl rfl (by kernel_rfl))) ?_
                 simp only [ls0, ls1]
                 refine al_take 5 83 (.int .u64 (List.getD x4193 ((x4121 : Int).toNat) 0)) #[true, true, true, true, true, true, true, true, true, false, true, true, false, false] rfl rfl (by kernel_rfl) (fun _ _ _ h_ => h_) rfl (fun w_ hS_ => xr_load (.pointer (some ⟨g0, 66 + ((x4121 : Int).toNat), none⟩)) (.int .u64 (List.getD x4193 ((x4121 : Int).toNat) 0)) rfl rfl (arr_load (o := 66) (N := 64) (pre := [.slice A0_0 l0_0.length c0_0, v0_1] ++ (List.map (Value.int .u64) x3834)) (post := []) (enc := (Value.int .u64)) (l := x4193) (i := (x4121 : Int).toNat) 0 Try.underlying40 rfl hS_ (by first | (simp only [List.append_assoc, List.cons_append, List.nil_append, List.append_nil]; done) | rfl) (by simp [HL3835]) HL4194 (by omega) (by omega))) (HJ4195).2 ?_
                 simp only [ls0, ls1]
                 refine al_pure 9 87 (.int .u64 (Go.bits .or .u64 (List.getD x4193 ((x4121 : Int).toNat) 0) (shl .u64 1 (IntKind.u64.wrap (x4190))))) #[true, true, true, true, true, true, true, true, true, true, true, true, false, false] rfl rfl (by kernel_rfl) (fun _ _ _ h_ => h_) rfl (fun w_ => xr_bin (.int .u64 (List.getD x4193 ((x4121 : Int).toNat) 0)) (.int .u64 (shl .u64 1 (IntKind.u64.wrap (x4190)))) (.int .u64 (Go.bits .or .u64 (List.getD x4193 ((x4121 : Int).toNat) 0) (shl .u64 1 (IntKind.u64.wrap (x4190))))) rfl rfl rfl (B.or_u64 (List.getD x4193 ((x4121 : Int).toNat) 0) (shl .u64 1 (IntKind.u64.wrap (x4190))))) ?_
                 simp only [ls0, ls1]
                 refine al_pure 12 90 (.pointer (some ⟨g0, 66 + ((x4121 : Int).toNat), none⟩)) #[true, true, true, true, true, true, true, true, true, true, true, true, true, false] rfl rfl (by kernel_rfl) (fun _ _ _ h_ => h_) rfl (fun w_ => xr_indexAddr (.pointer (some ⟨g0, 66, none⟩)) (.int .i64 x4121) (.pointer (some ⟨g0, 66 + ((x4121 : Int).toNat), none⟩)) rfl rfl rfl (arr_index (sz := 1) Try.underlying45 (by kernel_rfl) (by first | assumption | decide | omega) (by first | assumption | decide | omega) (by omega))) ?_
                 simp only [ls0, ls1]
                 obtain ⟨y4220, A4221, H⟩ := Option.bind_eq_some_iff.mp H
                 (try dsimp only at H)
                 refine al_last 13 #[true, true, true, true, true, true, true, true, true, true, true, true, true, true] rfl rfl (by kernel_rfl) rfl (fun K_ hK_ => ?_)
                 refine arr_store_step (C := C4197) (z := 1) (g := g0) (tb := 47) (of := 66) (N := 64) (pre := [.slice A0_0 l0_0.length c0_0, v0_1] ++ (List.map (Value.int .u64) x3834)) (post := []) (enc := (Value.int .u64)) (l0 := x4193) (i := (x4121 : Int).toNat) (Go.bits .or .u64 (List.getD x4193 ((x4121 : Int).toNat) 0) (shl .u64 1 (IntKind.u64.wrap (x4190)))) rfl rfl rfl rfl rfl rfl (by kernel_rfl) rfl HJ4195 (by first | (simp only [List.append_assoc, List.cons_append, List.nil_append, List.append_nil]; done) | rfl) (by simp [HL3835]) HL4194 (by omega) (by omega) (Option.some.inj A4221) (xs' := [.slice A0_0 l0_0.length c0_0, v0_1] ++ (List.map (Value.int .u64) x3834 ++ (List.map (Value.int .u64) y4220))) (by first | (simp only [List.append_assoc, List.cons_append, List.nil_append, List.append_nil]; done) | rfl) ?_
                 intro w4222 HX4223 HL4225 hs4224
                 replace HJ4191 := HJ4191.thru hs4224 rfl
                 replace HJ4192 := HJ4192.thru hs4224 rfl
                 replace HS4200 := HS4200.trans hs4224 hc rfl
                 refine hK_ _ _ ?_
                 clear hK_ K_
                 (try simp only [Act.put, List.setIfInBounds_toArray, ls0, ls1])
                 refine al_end (by kernel_rfl) ?_
                 (try simp only [Act.put, List.setIfInBounds_toArray, ls0, ls1])
                 refine hK4209 _ _ ?_
                 (try clear hK4209 K4209)
                 refine wl_region ?_
                 refine st (.int .i64 (wrap64 (x4190 + 1))) rfl rfl (xr_bin (.int .i64 x4190) (.int .i64 1) (.int .i64 (wrap64 (x4190 + 1))) rfl rfl rfl (B.add_i64 x4190 1)) ?_
                 simp only [ls0, ls1]
                 refine st (.int .i64 (wrap64 (x4190 + 1))) rfl rfl (xr_move (.int .i64 (wrap64 (x4190 + 1))) rfl rfl) ?_
                 simp only [ls0, ls1]
                 refine wl_end ?_
                 (try simp only [Act.put, List.setIfInBounds_toArray, ls0, ls1])
                 exact ih4202 k4205 (by omega) _ _ ⟨_, wrap64 (x4190 + 1), y4220, (fun q_ => List.getD [undef, (g4196 1), (g4196 2), (g4196 3), undef, .int .i64 x4190, (g4196 6), (g4196 7), (g4196 8), (g4196 9), (g4196 10), (g4196 11), (g4196 12), (g4196 13), (g4196 14), (g4196 15), (g4196 16), (g4196 17), (g4196 18), (g4196 19), (g4196 20), (g4196 21), (g4196 22), (g4196 23), (g4196 24), (g4196 25), (g4196 26), (g4196 27), (g4196 28), (g4196 29), (g4196 30), (g4196 31), (g4196 32), (g4196 33), (g4196 34), (g4196 35), (g4196 36), (g4196 37), (g4196 38), (g4196 39), (g4196 40), (g4196 41), (g4196 42), (g4196 43), (g4196 44), (g4196 45), (g4196 46), (g4196 47), (g4196 48), (g4196 49), (g4196 50), (g4196 51), (g4196 52), (g4196 53), (g4196 54), undef, undef, (g4196 57), (g4196 58), (g4196 59), (g4196 60), (g4196 61), (g4196 62), undef, undef, .bool true, .int .i64 x4190, .pointer (some ⟨g0, 0, none⟩), .int .i64 x4190, .pointer (some ⟨g0, 0, none⟩), .pointer (some ⟨g0, 2, none⟩), .pointer (some ⟨g0, 2 + ((x4190 : Int).toNat), none⟩), .int .u64 (List.getD x3834 ((x4190 : Int).toNat) 0), .int .i64 x4121, .int .u64 (IntKind.u64.wrap (x4121)), .int .u64 (shr .u64 (List.getD x3834 ((x4190 : Int).toNat) 0) (IntKind.u64.wrap (x4121))), .int .u64 (Go.bits .and .u64 (shr .u64 (List.getD x3834 ((x4190 : Int).toNat) 0) (IntKind.u64.wrap (x4121))) 1), .bool true, .pointer (some ⟨g0, 0, none⟩), .int .i64 x4121, .pointer (some ⟨g0, 0, none⟩), .pointer (some ⟨g0, 66, none⟩), .pointer (some ⟨g0, 66 + ((x4121 : Int).toNat), none⟩), .int .u64 (List.getD x4193 ((x4121 : Int).toNat) 0), .int .i64 x4190, .int .u64 (IntKind.u64.wrap (x4190)), .int .u64 (shl .u64 1 (IntKind.u64.wrap (x4190))), .int .u64 (Go.bits .or .u64 (List.getD x4193 ((x4121 : Int).toNat) 0) (shl .u64 1 (IntKind.u64.wrap (x4190)))), .pointer (some ⟨g0, 0, none⟩), .pointer (some ⟨g0, 66, none⟩), .pointer (some ⟨g0, 66 + ((x4121 : Int).toNat), none⟩), .int .i64 (wrap64 (x4190 + 1)), (g4196 92)] q_ undef), rfl, HS4200, (by omega), HJ4191, HJ4192, HL4225, HX4223, H⟩
                ·rw [if_neg c4219] at H
                 exact absurd H (by simp)
               ·rw [if_neg c4218] at H
                exact absurd H (by simp)
              ·rw [if_neg c4217] at H
               exact absurd H (by simp)
             ·rw [if_neg c4215] at H
              (try rw [(decide_eq_false c4215)])
              (try simp only [Bool.not_true, Bool.not_false])
              refine wp_cond_false rfl ?_
              refine wp_skip ?_
              (try simp only [Act.put, List.setIfInBounds_toArray, ls0, ls1])
              refine hK4209 _ _ ?_
              (try clear hK4209 K4209)
              refine wl_region ?_
              refine st (.int .i64 (wrap64 (x4190 + 1))) rfl rfl (xr_bin (.int .i64 x4190) (.int .i64 1) (.int .i64 (wrap64 (x4190 + 1))) rfl rfl rfl (B.add_i64 x4190 1)) ?_
              simp only [ls0, ls1]
              refine st (.int .i64 (wrap64 (x4190 + 1))) rfl rfl (xr_move (.int .i64 (wrap64 (x4190 + 1))) rfl rfl) ?_
              simp only [ls0, ls1]
              refine wl_end ?_
              (try simp only [Act.put, List.setIfInBounds_toArray, ls0, ls1])
              exact ih4202 k4205 (by omega) _ _ ⟨_, wrap64 (x4190 + 1), x4193, (fun q_ => List.getD [undef, (g4196 1), (g4196 2), (g4196 3), undef, .int .i64 x4190, (g4196 6), (g4196 7), (g4196 8), (g4196 9), (g4196 10), (g4196 11), (g4196 12), (g4196 13), (g4196 14), (g4196 15), (g4196 16), (g4196 17), (g4196 18), (g4196 19), (g4196 20), (g4196 21), (g4196 22), (g4196 23), (g4196 24), (g4196 25), (g4196 26), (g4196 27), (g4196 28), (g4196 29), (g4196 30), (g4196 31), (g4196 32), (g4196 33), (g4196 34), (g4196 35), (g4196 36), (g4196 37), (g4196 38), (g4196 39), (g4196 40), (g4196 41), (g4196 42), (g4196 43), (g4196 44), (g4196 45), (g4196 46), (g4196 47), (g4196 48), (g4196 49), (g4196 50), (g4196 51), (g4196 52), (g4196 53), (g4196 54), undef, undef, (g4196 57), (g4196 58), (g4196 59), (g4196 60), (g4196 61), (g4196 62), undef, undef, .bool true, .int .i64 x4190, .pointer (some ⟨g0, 0, none⟩), .int .i64 x4190, .pointer (some ⟨g0, 0, none⟩), .pointer (some ⟨g0, 2, none⟩), .pointer (some ⟨g0, 2 + ((x4190 : Int).toNat), none⟩), .int .u64 (List.getD x3834 ((x4190 : Int).toNat) 0), .int .i64 x4121, .int .u64 (IntKind.u64.wrap (x4121)), .int .u64 (shr .u64 (List.getD x3834 ((x4190 : Int).toNat) 0) (IntKind.u64.wrap (x4121))), .int .u64 (Go.bits .and .u64 (shr .u64 (List.getD x3834 ((x4190 : Int).toNat) 0) (IntKind.u64.wrap (x4121))) 1), .bool false, (g4196 78), (g4196 79), (g4196 80), (g4196 81), (g4196 82), (g4196 83), (g4196 84), (g4196 85), (g4196 86), (g4196 87), (g4196 88), (g4196 89), (g4196 90), .int .i64 (wrap64 (x4190 + 1)), (g4196 92)] q_ undef), rfl, HS4200, (by omega), HJ4191, HJ4192, HL4194, HJ4195, H⟩
            ·rw [if_neg c4214] at H
             exact absurd H (by simp)
           ·rw [if_neg c4213] at H
            exact absurd H (by simp)
          ·rw [if_neg c4212] at H
           exact absurd H (by simp)
         ·rw [if_neg c4208] at H
          (try rw [(decide_eq_false c4208)])
          (try simp only [Bool.not_true, Bool.not_false])
          refine wp_cond_false rfl ?_
          refine wp_exit ?_
          (try simp only [Act.put, List.setIfInBounds_toArray, ls0, ls1])
          refine hK4140 _ _ ?_
          (try clear hK4140 K4140)
          refine wl_region ?_
          refine st (.int .i64 (wrap64 (x4121 + 1))) rfl rfl (xr_bin (.int .i64 x4121) (.int .i64 1) (.int .i64 (wrap64 (x4121 + 1))) rfl rfl rfl (B.add_i64 x4121 1)) ?_
          simp only [ls0, ls1]
          refine st (.int .i64 (wrap64 (x4121 + 1))) rfl rfl (xr_move (.int .i64 (wrap64 (x4121 + 1))) rfl rfl) ?_
          simp only [ls0, ls1]
          refine wl_end ?_
          (try simp only [Act.put, List.setIfInBounds_toArray, ls0, ls1])
          exact ih4133 k4205 (by omega) _ _ ⟨_, wrap64 (x4121 + 1), x4193, (fun q_ => List.getD [undef, (g4196 1), (g4196 2), (g4196 3), .int .i64 x4121, (g4196 5), (g4196 6), (g4196 7), (g4196 8), (g4196 9), (g4196 10), (g4196 11), (g4196 12), (g4196 13), (g4196 14), (g4196 15), (g4196 16), (g4196 17), (g4196 18), (g4196 19), (g4196 20), (g4196 21), (g4196 22), (g4196 23), (g4196 24), (g4196 25), (g4196 26), (g4196 27), (g4196 28), (g4196 29), (g4196 30), (g4196 31), (g4196 32), (g4196 33), (g4196 34), (g4196 35), (g4196 36), (g4196 37), (g4196 38), (g4196 39), (g4196 40), (g4196 41), (g4196 42), (g4196 43), (g4196 44), (g4196 45), (g4196 46), (g4196 47), (g4196 48), (g4196 49), (g4196 50), (g4196 51), (g4196 52), (g4196 53), (g4196 54), undef, undef, (g4196 57), (g4196 58), (g4196 59), (g4196 60), (g4196 61), (g4196 62), .int .i64 (l0_0.length : Int), .int .i64 x4190, .bool false, (g4196 66), (g4196 67), (g4196 68), (g4196 69), (g4196 70), (g4196 71), (g4196 72), (g4196 73), (g4196 74), (g4196 75), (g4196 76), (g4196 77), (g4196 78), (g4196 79), (g4196 80), (g4196 81), (g4196 82), (g4196 83), (g4196 84), (g4196 85), (g4196 86), (g4196 87), (g4196 88), (g4196 89), (g4196 90), (g4196 91), .int .i64 (wrap64 (x4121 + 1))] q_ undef), rfl, HS4200, (by omega), HJ4191, HJ4192, HL4194, HJ4195, H⟩
      ·rw [if_neg c4139] at H
       (try rw [(decide_eq_false c4139)])
       (try simp only [Bool.not_true, Bool.not_false])
       refine wp_cond_false rfl ?_
       refine wp_exit ?_
       (try simp only [Exit.inBlock, Exit.then, Exit.noGoto, if_true, if_pos])
       (try simp only [Act.put, List.setIfInBounds_toArray, ls0, ls1])
       simp only [Option.some.injEq, Prod.mk.injEq] at H
       obtain ⟨rfl, rfl⟩ := H
       refine bodyPost_end (results_none rfl _ _ _) rfl ?_
       exact ⟨_, rfl, HS4131, HL3835, HL4125, HJ4126⟩

end Go.Proofs.Ytpfepkkpbampkaa.POrs
