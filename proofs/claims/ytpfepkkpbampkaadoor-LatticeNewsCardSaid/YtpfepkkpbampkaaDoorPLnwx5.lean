-- By cprint.py, a program of this work. Lean checks it.
import Derived.Test.YtpfepkkpbampkaaDoorPLnwx0
import Derived.Test.YtpfepkkpbampkaaDoorPLnwx4
namespace Go.Proofs.YtpfepkkpbampkaaDoor.PLnw
open Go.RowKit Go.Proofs.YtpfepkkpbampkaaDoorW.PrintWords Go.Proofs.YtpfepkkpbampkaaDoorW.PrintLast Go.Proofs.YtpfepkkpbampkaaDoorW.PrintMore
set_option linter.unusedVariables false
set_option linter.unusedSimpArgs false

/-! ### blazonref13_reached: function 54 -/
mutual
def blazonref13_reached.j0 : Nat → (List (S53)) → (List ByteArray) → Int → (List Bool) → Int → Bool → Option (List Bool)
  | 0, _, _, _, _, _, _ => none
  | k + 1, l0, l1, x1458, x1641, x1647, x1687 => if x1687 = true then (if 0 ≤ x1647 then (if x1647 < (l0.length : Int) then ((blazonref13_Find.f k l1 ((rd_T53 l0 x1647).f1)).bind fun t1697 => (if 0 ≤ t1697 then (if t1697 < (x1641.length : Int) then ((some (x1641.set (t1697 : Int).toNat true : List Bool)).bind fun y1707 => (blazonref13_reached.l0 k l0 l1 x1458 y1707 (wrap64 (x1647 + 1)))) else (none)) else (none))) else (none)) else (none)) else (blazonref13_reached.l0 k l0 l1 x1458 x1641 (wrap64 (x1647 + 1)))
def blazonref13_reached.l0 : Nat → (List (S53)) → (List ByteArray) → Int → (List Bool) → Int → Option (List Bool)
  | 0, _, _, _, _, _ => none
  | k + 1, l0, l1, x1458, x1641, x1647 => if x1647 < (l0.length : Int) then (if 0 ≤ x1647 then (if ((rd_T53 l0 x1647).f1) = (⟨#[]⟩ : ByteArray) then (blazonref13_reached.j0 k l0 l1 x1458 x1641 x1647 false) else ((blazonref13_Find.f k l1 ((rd_T53 l0 x1647).f0)).bind fun t1722 => (if 0 ≤ t1722 then (if t1722 < (x1641.length : Int) then (blazonref13_reached.j0 k l0 l1 x1458 x1641 x1647 (rdOf false x1641 t1722)) else (none)) else (none)))) else (none)) else (blazonref13_reached.l1 k l0 l1 x1641 (wrap64 (x1458 + 1)))
def blazonref13_reached.l1 : Nat → (List (S53)) → (List ByteArray) → (List Bool) → Int → Option (List Bool)
  | 0, _, _, _, _ => none
  | k + 1, l0, l1, x1452, x1458 => if x1458 < (l1.length : Int) then (blazonref13_reached.l0 k l0 l1 x1458 x1452 0) else (some x1452)
end
def blazonref13_reached.f (k : Nat) (l0 : List (S53)) (l1 : List ByteArray) (a2 : Int) : Option (List Bool) := if 0 ≤ (l1.length : Int) then (if ((l1.length : Int) : Int).toNat * 1 ≤ 281474976710656 then ((some (List.replicate ((l1.length : Int) : Int).toNat false : List Bool)).bind fun y871 => (if 0 ≤ a2 then (if a2 < (y871.length : Int) then ((some (y871.set (a2 : Int).toNat true : List Bool)).bind fun y885 => (blazonref13_reached.l1 k l0 l1 y885 0)) else (none)) else (none))) else (none)) else (none)

set_option maxHeartbeats 2000000 in
set_option maxRecDepth 100000 in
theorem blazonref13_reached.calls (k : Nat) (A0 : Option Addr) (c0 : Nat) (l0 : List (S53)) (A1 : Option Addr) (c1 : Nat) (l1 : List ByteArray) (a2 : Int) (r : List Bool) (c : Nat → Nat) (w : World) (hc : ∀ k, c k < 10) (HP0 : Ft c [0] w (fun w_ => k53.C w_ A0 l0.length l0)) (HCP0 : l0.length ≤ c0) (HP1 : Ft c [0] w (fun w_ => Kd.string.C w_ A1 l1.length l1)) (HCP1 : l1.length ≤ c1) (H : blazonref13_reached.f k l0 l1 a2 = some r) :
    Calls Tryd.prog 54 #[.slice A0 l0.length c0, .slice A1 l1.length c1, .int .i64 a2] w fun e w' => ∃ (c' : Nat → Nat) (A_r : Option Addr) (c_r : Nat), e = .returned (.slice A_r r.length c_r) ∧ Step c w c' w' [] ∧ Own c' 5 w' Kd.bool 4 (.slice A_r r.length c_r) r ∧ r.length ≤ c_r := by
 unfold blazonref13_reached.f at H
 have HS := Step.refl c w []
 go_enter Tryd.func54, Tryd.ntmps54
 refine wp_seq_k fun K867 hK867 => ?_
 refine wl_region ?_
 refine st (.slice none 0 0) rfl rfl (xr_assign _ rfl rfl) ?_
 refine wl_end ?_
 (try simp only [ls0, ls1])
 refine hK867 _ _ ?_
 (try clear hK867 K867)
 refine wp_seq_k fun K868 hK868 => ?_
 refine wl_region ?_
 refine mv_ rfl ?_
 refine st (.int .i64 (l1.length : Int)) rfl rfl (xr_builtin #[.slice A1 l1.length c1] (.int .i64 (l1.length : Int)) rfl (mp_ rfl) (by first | rfl | (go_simp; done) | (go_simp; rfl) | (go_simp; exact i64_w _) | (go_simp; exact i32_w _))) ?_
 obtain ⟨c869, H⟩ := if_some H
 obtain ⟨c870, H⟩ := if_some H
 obtain ⟨y871, A872, H⟩ := bnd H
 refine Own.make Kd.bool (C := c) (i := 11) rfl 4 rfl 74 _ _ rfl (l1.length : Int) rfl rfl Tryd.underlying74 (.bool false) 1 info4 rfl (by decide) (by decide) false (fun _ _ => rfl) (by first | decide | assumption | omega) (by first | decide | assumption | omega) (Option.some.inj A872) ?_
 intro A873 cp874 w875 C876 HO877 HC878 hs879
 replace HP0 := HP0.thru hs879 rfl
 replace HP1 := HP1.thru hs879 rfl
 replace HS := HS.trans hs879 hc rfl
 (try simp only [ls0, ls1])
 refine as_ rfl ?_
 refine wl_end ?_
 (try simp only [ls0, ls1])
 refine hK868 _ _ ?_
 (try clear hK868 K868)
 refine wp_seq_k fun K880 hK880 => ?_
 refine wl_region ?_
 refine mv_ rfl ?_
 refine mv_ rfl ?_
 obtain ⟨c881, H⟩ := if_some H
 obtain ⟨c882, H⟩ := if_some H
 obtain ⟨g883, hA884⟩ := HO877.form (pos_of (j := a2) (by first | assumption | decide) (by first | assumption | omega))
 refine st (.pointer (some ((⟨g883, 0, none⟩ : Addr).add ((a2 : Int).toNat * 1)))) rfl rfl (xr_indexAddr _ _ _ rfl rfl rfl (index_at Tryd.underlying74 info4 hA884 (by first | assumption | decide | omega) (by first | assumption | decide | omega))) ?_
 obtain ⟨y885, A886, H⟩ := bnd H
 refine Own.store1 Kd.bool (C := C876) (i := 11) rfl rfl 4 _ _ rfl 4 1 a2 y871 true (.bool true) [.bool true] hA884 rfl rfl rfl rfl (by kernel_rfl) (by simp [Value.oneCell']) rfl HO877 (by decide) (by first | assumption | decide | omega) (by first | assumption | decide | omega) (fk_bool _ _ true) (Option.some.inj A886) ?_
 intro w887 C888 HO889 HC891 hs890
 replace HP0 := HP0.thru hs890 rfl
 replace HP1 := HP1.thru hs890 rfl
 replace HS := HS.trans hs890 hc rfl
 (try simp only [ls0, ls1])
 (try rw [show y871.length = y885.length by rw [← Option.some.inj A886, List.length_set]])
 refine wl_end ?_
 (try simp only [ls0, ls1])
 refine hK880 _ _ ?_
 (try clear hK880 K880)
 refine wp_seq_k fun K892 hK892 => ?_
 refine wp_seq_k fun K893 hK893 => ?_
 refine wl_region ?_
 refine st (.int .i64 0) rfl rfl (xr_assign _ rfl rfl) ?_
 refine wl_end ?_
 (try simp only [ls0, ls1])
 refine hK893 _ _ ?_
 (try clear hK893 K893)
 refine wp_block ?_
 (try simp only [ls0, ls1])
 refine wp_looped (looped_fin (fun kq1461 a_ w1460 => ∃ (C1459 : Nat → Nat) (x1458 : Int) (A1453 : Option Addr) (n1454 cp1455 : Nat) (x1452 : List Bool) (g_ : Nat → Value), a_ = ⟨#[.slice A0 l0.length c0, .slice A1 l1.length c1, (g_ 2), (g_ 3), (g_ 4), (g_ 5), (g_ 6), .slice A1453 n1454 cp1455, .int .i64 x1458, (g_ 9), (g_ 10), (g_ 11), (g_ 12), (g_ 13), (g_ 14), (g_ 15), (g_ 16), (g_ 17), (g_ 18), (g_ 19), (g_ 20), (g_ 21), (g_ 22), (g_ 23), (g_ 24), (g_ 25), (g_ 26), (g_ 27), (g_ 28), (g_ 29), (g_ 30), (g_ 31), (g_ 32), (g_ 33), (g_ 34), (g_ 35), (g_ 36), (g_ 37), (g_ 38), (g_ 39), (g_ 40), (g_ 41), (g_ 42), (g_ 43), (g_ 44), (g_ 45), (g_ 46), (g_ 47), (g_ 48), (g_ 49), (g_ 50), (g_ 51), (g_ 52), (g_ 53), (g_ 54), (g_ 55)], []⟩ ∧ Step c w C1459 w1460 [] ∧ kq1461 ≤ k ∧ (Ft C1459 [0] w1460 (fun w_ => k53.C w_ A0 l0.length l0)) ∧ (Ft C1459 [0] w1460 (fun w_ => Kd.string.C w_ A1 l1.length l1)) ∧ (Own C1459 12 w1460 Kd.bool 4 (.slice A1453 n1454 cp1455) x1452) ∧ (n1454 ≤ cp1455) ∧ blazonref13_reached.l1 kq1461 l0 l1 x1452 x1458 = some r) ?step fun hL_ => ?init)
 case init =>
  replace HP0 := Ft.recol (a := 11) (b := 12) HP0 (.inl rfl)
  replace HP1 := Ft.recol (a := 11) (b := 12) HP1 (.inl rfl)
  replace HO889 := Own.recolor (b := 12) HO889 (by decide)
  replace HS := Step.recol (a := 11) (b := 12) HS hc (by decide)
  exact jmpL (fun a_ h_ => hL_ k a_ _ h_) (fun g_ => ⟨_, 0, A873, y885.length, cp874, y885, g_, rfl, HS, Nat.le_refl _, HP0, HP1, HO889, HC891, H⟩) rfl
 case step =>
  intro kq1461 ih1464 a1465 w1460 hr1466
  obtain ⟨C1459, x1458, A1453, n1454, cp1455, x1452, g_, rfl, HS1462, hk1463, HJ1450, HJ1451, HJ1457, HC1456, H⟩ := hr1466
  refine looped_round ?_
  obtain rfl : n1454 = x1452.length := HJ1457.at_.1
  cases kq1461 with
  | zero => exact absurd H (by simp [blazonref13_reached.l1])
  | succ k1467 =>
   simp only [blazonref13_reached.l1] at H
   refine wp_seq_k fun K1468 hK1468 => ?_
   refine wp_seq_k fun K1469 hK1469 => ?_
   refine wl_region ?_
   refine mv_ rfl ?_
   refine mv_ rfl ?_
   refine st (.int .i64 (l1.length : Int)) rfl rfl (xr_builtin #[.slice A1 l1.length c1] (.int .i64 (l1.length : Int)) rfl (mp_ rfl) (by first | rfl | (go_simp; done) | (go_simp; rfl) | (go_simp; exact i64_w _) | (go_simp; exact i32_w _))) ?_
   refine st (.bool (decide (x1458 < (l1.length : Int)))) rfl rfl (xr_bin _ _ _ rfl rfl rfl (B.lss_i64 _ _)) ?_
   simp only [ls0, ls1]
   refine wl_end ?_
   (try simp only [ls0, ls1])
   refine hK1469 _ _ ?_
   (try clear hK1469 K1469)
   by_cases c1470 : x1458 < (l1.length : Int)
   ·rw [if_pos c1470] at H
    (try rw [(decide_eq_true c1470)])
    refine wp_cond_true rfl ?_
    refine wp_skip ?_
    (try simp only [ls0, ls1])
    refine hK1468 _ _ ?_
    (try clear hK1468 K1468)
    refine wp_seq_k fun K1471 hK1471 => ?_
    refine wp_block ?_
    refine wp_seq_k fun K1472 hK1472 => ?_
    refine wl_region ?_
    refine st (.int .i64 0) rfl rfl (xr_assign _ rfl rfl) ?_
    refine wl_end ?_
    (try simp only [ls0, ls1])
    refine hK1472 _ _ ?_
    (try clear hK1472 K1472)
    refine wp_block ?_
    (try simp only [ls0, ls1])
    refine wp_looped (looped_fin (fun kq1650 a_ w1649 => ∃ (C1648 : Nat → Nat) (x1647 : Int) (A1642 : Option Addr) (n1643 cp1644 : Nat) (x1641 : List Bool) (g_ : Nat → Value), a_ = ⟨#[.slice A0 l0.length c0, .slice A1 l1.length c1, (g_ 2), (g_ 3), (g_ 4), (g_ 5), (g_ 6), .slice A1642 n1643 cp1644, .int .i64 x1458, .int .i64 x1647, (g_ 10), (g_ 11), (g_ 12), (g_ 13), (g_ 14), (g_ 15), (g_ 16), (g_ 17), (g_ 18), (g_ 19), (g_ 20), (g_ 21), (g_ 22), (g_ 23), (g_ 24), (g_ 25), (g_ 26), (g_ 27), (g_ 28), (g_ 29), (g_ 30), (g_ 31), (g_ 32), (g_ 33), (g_ 34), (g_ 35), (g_ 36), (g_ 37), (g_ 38), (g_ 39), (g_ 40), (g_ 41), (g_ 42), (g_ 43), (g_ 44), (g_ 45), (g_ 46), (g_ 47), (g_ 48), (g_ 49), (g_ 50), (g_ 51), (g_ 52), (g_ 53), (g_ 54), (g_ 55)], []⟩ ∧ Step c w C1648 w1649 [] ∧ kq1650 ≤ k1467 ∧ (Ft C1648 [0] w1649 (fun w_ => k53.C w_ A0 l0.length l0)) ∧ (Ft C1648 [0] w1649 (fun w_ => Kd.string.C w_ A1 l1.length l1)) ∧ (Own C1648 13 w1649 Kd.bool 4 (.slice A1642 n1643 cp1644) x1641) ∧ (n1643 ≤ cp1644) ∧ blazonref13_reached.l0 kq1650 l0 l1 x1458 x1641 x1647 = some r) ?step fun hL_ => ?init)
    case init =>
     replace HJ1450 := Ft.recol (a := 12) (b := 13) HJ1450 (.inl rfl)
     replace HJ1451 := Ft.recol (a := 12) (b := 13) HJ1451 (.inl rfl)
     replace HJ1457 := Own.recolor (b := 13) HJ1457 (by decide)
     replace HS1462 := Step.recol (a := 12) (b := 13) HS1462 hc (by decide)
     exact jmpL (fun a_ h_ => hL_ k1467 a_ _ h_) (fun g_ => ⟨_, 0, A1453, x1452.length, cp1455, x1452, g_, rfl, HS1462, Nat.le_refl _, HJ1450, HJ1451, HJ1457, HC1456, H⟩) rfl
    case step =>
     intro kq1650 ih1653 a1654 w1649 hr1655
     obtain ⟨C1648, x1647, A1642, n1643, cp1644, x1641, g_, rfl, HS1651, hk1652, HJ1639, HJ1640, HJ1646, HC1645, H⟩ := hr1655
     refine looped_round ?_
     obtain rfl : n1643 = x1641.length := HJ1646.at_.1
     cases kq1650 with
     | zero => exact absurd H (by simp [blazonref13_reached.l0])
     | succ k1656 =>
      simp only [blazonref13_reached.l0] at H
      refine wp_seq_k fun K1657 hK1657 => ?_
      refine wp_seq_k fun K1658 hK1658 => ?_
      refine wl_region ?_
      refine mv_ rfl ?_
      refine mv_ rfl ?_
      refine st (.int .i64 (l0.length : Int)) rfl rfl (xr_builtin #[.slice A0 l0.length c0] (.int .i64 (l0.length : Int)) rfl (mp_ rfl) (by first | rfl | (go_simp; done) | (go_simp; rfl) | (go_simp; exact i64_w _) | (go_simp; exact i32_w _))) ?_
      refine st (.bool (decide (x1647 < (l0.length : Int)))) rfl rfl (xr_bin _ _ _ rfl rfl rfl (B.lss_i64 _ _)) ?_
      simp only [ls0, ls1]
      refine wl_end ?_
      (try simp only [ls0, ls1])
      refine hK1658 _ _ ?_
      (try clear hK1658 K1658)
      by_cases c1659 : x1647 < (l0.length : Int)
      ·rw [if_pos c1659] at H
       (try rw [(decide_eq_true c1659)])
       refine wp_cond_true rfl ?_
       refine wp_skip ?_
       (try simp only [ls0, ls1])
       refine hK1657 _ _ ?_
       (try clear hK1657 K1657)
       refine wp_seq_k fun K1660 hK1660 => ?_
       refine wp_block ?_
       refine wp_seq_k fun K1661 hK1661 => ?_
       have hj1680 : ∀ (kq1688 : Nat) (C1681 : Nat → Nat) (w1682 : World) (x1687 : Bool) (g_ : Nat → Value), Step c w C1681 w1682 [] → kq1688 ≤ k1656 → (Ft C1681 [0] w1682 (fun w_ => k53.C w_ A0 l0.length l0)) → (Ft C1681 [0] w1682 (fun w_ => Kd.string.C w_ A1 l1.length l1)) → (Own C1681 13 w1682 Kd.bool 4 (.slice A1642 x1641.length cp1644) x1641) → blazonref13_reached.j0 kq1688 l0 l1 x1458 x1641 x1647 x1687 = some r → K1661 ⟨#[.slice A0 l0.length c0, .slice A1 l1.length c1, (g_ 2), (g_ 3), (g_ 4), (g_ 5), (g_ 6), .slice A1642 x1641.length cp1644, .int .i64 x1458, .int .i64 x1647, (g_ 10), (g_ 11), (g_ 12), (g_ 13), (g_ 14), (g_ 15), (g_ 16), (g_ 17), (g_ 18), (g_ 19), (g_ 20), (g_ 21), (g_ 22), (g_ 23), (g_ 24), (g_ 25), (g_ 26), (g_ 27), (g_ 28), (g_ 29), (g_ 30), (g_ 31), (g_ 32), (g_ 33), (g_ 34), (g_ 35), (g_ 36), (g_ 37), (g_ 38), (g_ 39), (g_ 40), (g_ 41), (g_ 42), (g_ 43), (g_ 44), .bool x1687, (g_ 46), (g_ 47), (g_ 48), (g_ 49), (g_ 50), (g_ 51), (g_ 52), (g_ 53), (g_ 54), (g_ 55)], []⟩ w1682 := by
        intro kq1688 C1681 w1682 x1687 g_ HS1683 hk1689 HJ1684 HJ1685 HJ1686 H
        cases kq1688 with
        | zero => exact absurd H (by simp [blazonref13_reached.j0])
        | succ k1690 =>
         simp only [blazonref13_reached.j0] at H
         refine hK1661 _ _ ?_
         (try clear hK1661)
         by_cases c1691 : x1687 = true
         ·rw [if_pos c1691] at H
          (try rw [c1691])
          refine wp_cond_true rfl ?_
          refine wl_region ?_
          refine mv_ rfl ?_
          simp only [ls0, ls1]
          refine mv_ rfl ?_
          refine mv_ rfl ?_
          refine mv_ rfl ?_
          obtain ⟨c1692, H⟩ := if_some H
          obtain ⟨c1693, H⟩ := if_some H
          obtain ⟨ad1694, hA1695⟩ := c_addr (Ft.now HJ1684) (pos_of (j := x1647) (by first | assumption | decide) (by first | assumption | omega))
          refine st (.pointer (some (ad1694.add ((x1647 : Int).toNat * 3)))) rfl rfl (xr_indexAddr _ _ _ rfl rfl rfl (index_at Tryd.underlying22 info53 hA1695 (by first | assumption | decide | omega) (by first | assumption | decide | omega))) ?_
          simp only [ls0, ls1]
          refine st (.pointer (some ((ad1694.add ((x1647 : Int).toNat * 3)).add 1))) rfl rfl (xr_fieldAddr _ _ rfl rfl (field_at2 Tryd.underlying53 rfl rfl (by kernel_rfl))) ?_
          refine st (.string ((rd_T53 l0 x1647).f1)) rfl rfl (xr_load (.pointer (some ((ad1694.add ((x1647 : Int).toNat * 3)).add 1))) (.string ((rd_T53 l0 x1647).f1)) rfl rfl (by obtain ⟨ad_, cs_, e_, _, hK_, hc_⟩ := Kd.C_get (Ft.now HJ1684) z53 x1647 (by first | assumption | decide | omega) (by first | assumption | decide | omega); rw [hA1695] at e_; injection e_ with e_; subst e_; obtain rfl := k53_open hK_; exact load_cell Tryd.underlying9 rfl (by first | (rw [add_add]; exact hc_ 1 _ rfl) | (have h_ := hc_ 1 _ rfl; rw [Nat.add_zero] at h_; exact h_)))) ?_
          obtain ⟨t1697, A1698, H⟩ := bnd H
          refine st_call #[.slice A1 l1.length c1, .string ((rd_T53 l0 x1647).f1)] rfl rfl Tryd.func55 (by kernel_rfl) rfl rfl (mp_ rfl) ?_
          refine (blazonref13_Find.calls k1690 A1 c1 l1 ((rd_T53 l0 x1647).f1) t1697  (fun z_ => pal [(0, 0)] (C1681 z_)) w1682 (fun _ => pal_lt rfl _) (Ft.arg HJ1685 rfl) HCP1 A1698).mono ?_
          rintro _ w1700 ⟨C1701, rfl, hs1702⟩
          refine ⟨_, rfl, ?_⟩
          replace hs1702 := Step.lift (U := [(0, 0)]) hs1702 [] rfl rfl
          generalize up C1681 C1701 w1682.heap.size [(0, 0)] = C1701_ at hs1702
          replace HJ1684 := HJ1684.thru hs1702 rfl
          replace HJ1685 := HJ1685.thru hs1702 rfl
          replace HJ1686 := HJ1686.thru hs1702 rfl
          replace HS1683 := HS1683.trans hs1702 hc rfl
          (try simp only [ls0, ls1])
          obtain ⟨c1703, H⟩ := if_some H
          obtain ⟨c1704, H⟩ := if_some H
          obtain ⟨g1705, hA1706⟩ := HJ1686.form (pos_of (j := t1697) (by first | assumption | decide) (by first | assumption | omega))
          refine st (.pointer (some ((⟨g1705, 0, none⟩ : Addr).add ((t1697 : Int).toNat * 1)))) rfl rfl (xr_indexAddr _ _ _ rfl rfl rfl (index_at Tryd.underlying74 info4 hA1706 (by first | assumption | decide | omega) (by first | assumption | decide | omega))) ?_
          obtain ⟨y1707, A1708, H⟩ := bnd H
          refine Own.store1 Kd.bool (C := C1701_) (i := 13) rfl rfl 4 _ _ rfl 4 1 t1697 x1641 true (.bool true) [.bool true] hA1706 rfl rfl rfl rfl (by kernel_rfl) (by simp [Value.oneCell']) rfl HJ1686 (by decide) (by first | assumption | decide | omega) (by first | assumption | decide | omega) (fk_bool _ _ true) (Option.some.inj A1708) ?_
          intro w1709 C1710 HO1711 HC1713 hs1712
          replace HJ1684 := HJ1684.thru hs1712 rfl
          replace HJ1685 := HJ1685.thru hs1712 rfl
          replace HS1683 := HS1683.trans hs1712 hc rfl
          (try simp only [ls0, ls1])
          (try rw [show x1641.length = y1707.length by rw [← Option.some.inj A1708, List.length_set]])
          refine wl_end ?_
          (try simp only [ls0, ls1])
          refine hK1660 _ _ ?_
          (try clear hK1660 K1660)
          refine wl_region ?_
          refine mv_ rfl ?_
          refine st (.int .i64 (wrap64 (x1647 + 1))) rfl rfl (xr_bin _ _ _ rfl rfl rfl (B.add_i64 _ _)) ?_
          refine as_ rfl ?_
          refine wl_end ?_
          (try simp only [ls0, ls1])
          exact jmpL (fun a_ h_ => ih1653 k1690 (by omega) a_ _ h_) (fun g_ => ⟨_, wrap64 (x1647 + 1), A1642, y1707.length, cp1644, y1707, g_, rfl, HS1683, (by omega), HJ1684, HJ1685, HO1711, HC1713, H⟩) rfl
         rw [if_neg c1691] at H
         (try rw [(Bool.eq_false_iff.mpr c1691)])
         refine wp_cond_false rfl ?_
         refine wp_skip ?_
         (try simp only [ls0, ls1])
         refine hK1660 _ _ ?_
         (try clear hK1660 K1660)
         refine wl_region ?_
         refine mv_ rfl ?_
         refine st (.int .i64 (wrap64 (x1647 + 1))) rfl rfl (xr_bin _ _ _ rfl rfl rfl (B.add_i64 _ _)) ?_
         refine as_ rfl ?_
         refine wl_end ?_
         (try simp only [ls0, ls1])
         exact jmpL (fun a_ h_ => ih1653 k1690 (by omega) a_ _ h_) (fun g_ => ⟨_, wrap64 (x1647 + 1), A1642, x1641.length, cp1644, x1641, g_, rfl, HS1683, (by omega), HJ1684, HJ1685, HJ1686, HC1645, H⟩) rfl
       refine wl_region ?_
       refine mv_ rfl ?_
       refine mv_ rfl ?_
       obtain ⟨c1714, H⟩ := if_some H
       obtain ⟨ad1715, hA1716⟩ := c_addr (Ft.now HJ1639) (pos_of (j := x1647) (by first | assumption | decide) (by first | assumption | omega))
       refine st (.pointer (some (ad1715.add ((x1647 : Int).toNat * 3)))) rfl rfl (xr_indexAddr _ _ _ rfl rfl rfl (index_at Tryd.underlying22 info53 hA1716 (by first | assumption | decide | omega) (by first | assumption | decide | omega))) ?_
       refine st (.pointer (some ((ad1715.add ((x1647 : Int).toNat * 3)).add 1))) rfl rfl (xr_fieldAddr _ _ rfl rfl (field_at2 Tryd.underlying53 rfl rfl (by kernel_rfl))) ?_
       simp only [ls0, ls1]
       refine st (.string ((rd_T53 l0 x1647).f1)) rfl rfl (xr_load (.pointer (some ((ad1715.add ((x1647 : Int).toNat * 3)).add 1))) (.string ((rd_T53 l0 x1647).f1)) rfl rfl (by obtain ⟨ad_, cs_, e_, _, hK_, hc_⟩ := Kd.C_get (Ft.now HJ1639) z53 x1647 (by first | assumption | decide | omega) (by first | assumption | decide | omega); rw [hA1716] at e_; injection e_ with e_; subst e_; obtain rfl := k53_open hK_; exact load_cell Tryd.underlying9 rfl (by first | (rw [add_add]; exact hc_ 1 _ rfl) | (have h_ := hc_ 1 _ rfl; rw [Nat.add_zero] at h_; exact h_)))) ?_
       refine st (.bool (!decide (((rd_T53 l0 x1647).f1) = (⟨#[]⟩ : ByteArray)))) rfl rfl (xr_bin _ _ _ rfl rfl rfl (B.neq_str _ _)) ?_
       refine mv_ rfl ?_
       by_cases c1718 : ((rd_T53 l0 x1647).f1) = (⟨#[]⟩ : ByteArray)
       ·rw [if_pos c1718] at H
        (try rw [(decide_eq_true c1718)])
        (try simp only [Bool.not_true, Bool.not_false])
        refine sk_guard (guard_off 6 true 34 rfl rfl false (by decide) rfl) rfl ?_
        simp only [ls0, ls1]
        refine sk_guard (guard_off 6 true 34 rfl rfl false (by decide) rfl) rfl ?_
        refine sk_guard (guard_off 6 true 34 rfl rfl false (by decide) rfl) rfl ?_
        refine sk_guard (guard_off 6 true 34 rfl rfl false (by decide) rfl) rfl ?_
        refine sk_guard (guard_off 6 true 34 rfl rfl false (by decide) rfl) rfl ?_
        simp only [ls0, ls1]
        refine sk_guard (guard_off 6 true 34 rfl rfl false (by decide) rfl) rfl ?_
        refine sk_guard (guard_off 6 true 34 rfl rfl false (by decide) rfl) rfl ?_
        refine sk_guard (guard_off 6 true 34 rfl rfl false (by decide) rfl) rfl ?_
        refine sk_guard (guard_off 6 true 34 rfl rfl false (by decide) rfl) rfl ?_
        simp only [ls0, ls1]
        refine sk_guard (guard_off 6 true 34 rfl rfl false (by decide) rfl) rfl ?_
        refine st (.bool false) rfl rfl (xr_pick false _ rfl rfl rfl) ?_
        refine wl_end ?_
        (try simp only [ls0, ls1])
        exact jmp (fun g_ => hj1680 _ _ _ (false) g_ HS1651 (by omega) HJ1639 HJ1640 HJ1646 H) rfl
       rw [if_neg c1718] at H
       (try rw [(decide_eq_false c1718)])
       (try simp only [Bool.not_true, Bool.not_false])
       refine on_guard (guard_on 6 true 34 rfl rfl rfl) ?_
       refine mv_ rfl ?_
       refine on_guard (guard_on 6 true 34 rfl rfl rfl) ?_
       refine mv_ rfl ?_
       refine on_guard (guard_on 6 true 34 rfl rfl rfl) ?_
       refine mv_ rfl ?_
       refine on_guard (guard_on 6 true 34 rfl rfl rfl) ?_
       refine mv_ rfl ?_
       simp only [ls0, ls1]
       refine on_guard (guard_on 6 true 34 rfl rfl rfl) ?_
       obtain ⟨ad1719, hA1720⟩ := c_addr (Ft.now HJ1639) (pos_of (j := x1647) (by first | assumption | decide) (by first | assumption | omega))
       refine st (.pointer (some (ad1719.add ((x1647 : Int).toNat * 3)))) rfl rfl (xr_indexAddr _ _ _ rfl rfl rfl (index_at Tryd.underlying22 info53 hA1720 (by first | assumption | decide | omega) (by first | assumption | decide | omega))) ?_
       refine on_guard (guard_on 6 true 34 rfl rfl rfl) ?_
       refine st (.pointer (some ((ad1719.add ((x1647 : Int).toNat * 3)).add 0))) rfl rfl (xr_fieldAddr _ _ rfl rfl (field_at2 Tryd.underlying53 rfl rfl (by kernel_rfl))) ?_
       refine on_guard (guard_on 6 true 34 rfl rfl rfl) ?_
       refine st (.string ((rd_T53 l0 x1647).f0)) rfl rfl (xr_load (.pointer (some ((ad1719.add ((x1647 : Int).toNat * 3)).add 0))) (.string ((rd_T53 l0 x1647).f0)) rfl rfl (by obtain ⟨ad_, cs_, e_, _, hK_, hc_⟩ := Kd.C_get (Ft.now HJ1639) z53 x1647 (by first | assumption | decide | omega) (by first | assumption | decide | omega); rw [hA1720] at e_; injection e_ with e_; subst e_; obtain rfl := k53_open hK_; exact load_cell Tryd.underlying9 rfl (by first | (rw [add_add]; exact hc_ 0 _ rfl) | (have h_ := hc_ 0 _ rfl; rw [Nat.add_zero] at h_; exact h_)))) ?_
       refine on_guard (guard_on 6 true 34 rfl rfl rfl) ?_
       obtain ⟨t1722, A1723, H⟩ := bnd H
       refine st_call #[.slice A1 l1.length c1, .string ((rd_T53 l0 x1647).f0)] rfl rfl Tryd.func55 (by kernel_rfl) rfl rfl (mp_ rfl) ?_
       refine (blazonref13_Find.calls k1656 A1 c1 l1 ((rd_T53 l0 x1647).f0) t1722  (fun z_ => pal [(0, 0)] (C1648 z_)) w1649 (fun _ => pal_lt rfl _) (Ft.arg HJ1640 rfl) HCP1 A1723).mono ?_
       rintro _ w1725 ⟨C1726, rfl, hs1727⟩
       refine ⟨_, rfl, ?_⟩
       replace hs1727 := Step.lift (U := [(0, 0)]) hs1727 [] rfl rfl
       generalize up C1648 C1726 w1649.heap.size [(0, 0)] = C1726_ at hs1727
       replace HJ1639 := HJ1639.thru hs1727 rfl
       replace HJ1640 := HJ1640.thru hs1727 rfl
       replace HJ1646 := HJ1646.thru hs1727 rfl
       replace HS1651 := HS1651.trans hs1727 hc rfl
       (try simp only [ls0, ls1])
       refine on_guard (guard_on 6 true 34 rfl rfl rfl) ?_
       obtain ⟨c1728, H⟩ := if_some H
       obtain ⟨c1729, H⟩ := if_some H
       obtain ⟨g1730, hA1731⟩ := HJ1646.form (pos_of (j := t1722) (by first | assumption | decide) (by first | assumption | omega))
       refine st (.pointer (some ((⟨g1730, 0, none⟩ : Addr).add ((t1722 : Int).toNat * 1)))) rfl rfl (xr_indexAddr _ _ _ rfl rfl rfl (index_at Tryd.underlying74 info4 hA1731 (by first | assumption | decide | omega) (by first | assumption | decide | omega))) ?_
       refine on_guard (guard_on 6 true 34 rfl rfl rfl) ?_
       refine st (.bool (rdOf false x1641 t1722)) rfl rfl (xr_load _ _ rfl rfl (load_bool Tryd.underlying4 rfl hA1731 (Ft.now (HJ1646.ft)) (by first | assumption | decide | omega) (by first | assumption | decide | omega))) ?_
       refine st (.bool (rdOf false x1641 t1722)) rfl rfl (xr_pick true _ rfl rfl rfl) ?_
       refine wl_end ?_
       (try simp only [ls0, ls1])
       exact jmp (fun g_ => hj1680 _ _ _ (rdOf false x1641 t1722) g_ HS1651 (by omega) HJ1639 HJ1640 HJ1646 H) rfl
      rw [if_neg c1659] at H
      (try rw [(decide_eq_false c1659)])
      refine wp_cond_false rfl ?_
      refine wp_exit ?_
      (try simp only [ls0, ls1])
      refine hK1471 _ _ ?_
      (try clear hK1471 K1471)
      refine wl_region ?_
      refine mv_ rfl ?_
      refine st (.int .i64 (wrap64 (x1458 + 1))) rfl rfl (xr_bin _ _ _ rfl rfl rfl (B.add_i64 _ _)) ?_
      refine as_ rfl ?_
      refine wl_end ?_
      (try simp only [ls0, ls1])
      replace HJ1639 := Ft.recol (a := 13) (b := 12) HJ1639 (.inl rfl)
      replace HJ1640 := Ft.recol (a := 13) (b := 12) HJ1640 (.inl rfl)
      replace HJ1646 := Own.recolor (b := 12) HJ1646 (by decide)
      replace HS1651 := Step.recol (a := 13) (b := 12) HS1651 hc (by decide)
      exact jmpL (fun a_ h_ => ih1464 k1656 (by omega) a_ _ h_) (fun g_ => ⟨_, wrap64 (x1458 + 1), A1642, x1641.length, cp1644, x1641, g_, rfl, HS1651, (by omega), HJ1639, HJ1640, HJ1646, HC1645, H⟩) rfl
   rw [if_neg c1470] at H
   (try rw [(decide_eq_false c1470)])
   refine wp_cond_false rfl ?_
   refine wp_exit ?_
   (try simp only [ls0, ls1])
   refine hK892 _ _ ?_
   (try clear hK892 K892)
   refine wp_seq_k fun K1732 hK1732 => ?_
   refine wl_region ?_
   refine mv_ rfl ?_
   refine as_ rfl ?_
   refine wl_end ?_
   (try simp only [ls0, ls1])
   refine hK1732 _ _ ?_
   (try clear hK1732 K1732)
   refine wp_ret ?_
   (try simp only [Exit.inBlock, Exit.then, Exit.noGoto])
   (try simp only [ls0, ls1])
   replace HJ1450 := Ft.recol (a := 12) (b := 5) HJ1450 (.inl rfl)
   replace HJ1451 := Ft.recol (a := 12) (b := 5) HJ1451 (.inl rfl)
   replace HJ1457 := Own.recolor (b := 5) HJ1457 (by decide)
   replace HS1462 := Step.recol (a := 12) (b := 5) HS1462 hc (by decide)
   obtain rfl := Option.some.inj H
   refine bodyPost_ret (results_tmp rfl _ _ _) rfl ?_
   exact ⟨_, A1453, cp1455, rfl, HS1462, HJ1457, HC1456⟩

/-! ### blazonref13_New: function 16 -/
mutual
def blazonref13_New.j0 : Nat → (List (S53)) → Int → Bool → Option (List ByteArray × (List (List Bool)) × Int × Int)
  | 0, _, _, _ => none
  | k + 1, l0, x2391, x2501 => if x2501 = true then (some (([] : List ByteArray), ([] : List (List Bool)), x2391, 1)) else (if 0 ≤ (wrap64 (x2391 + 1)) then (if (wrap64 (x2391 + 1)) ≤ (l0.length : Int) then ((some (l0.take (wrap64 (x2391 + 1) : Int).toNat : List (S53))).bind fun y2514 => ((blazonref13_names.f k y2514).bind fun t2522 => (if (t2522.length : Int) > 64 then (some (([] : List ByteArray), ([] : List (List Bool)), x2391, 8)) else (blazonref13_New.l2 k l0 (wrap64 (x2391 + 1)))))) else (none)) else (none))
def blazonref13_New.l0 : Nat → (List (S53)) → (List ByteArray) → (List (List Bool)) → Int → Option (List ByteArray × (List (List Bool)) × Int × Int)
  | 0, _, _, _, _ => none
  | k + 1, l0, x2800, x2808, x3032 => if x3032 < (l0.length : Int) then (if 0 ≤ x3032 then (if ((rd_T53 l0 x3032).f1) = (⟨#[]⟩ : ByteArray) then (blazonref13_New.l0 k l0 x2800 x2808 (wrap64 (x3032 + 1))) else ((blazonref13_Find.f k x2800 ((rd_T53 l0 x3032).f1)).bind fun t3100 => (if 0 ≤ t3100 then (if t3100 < (x2808.length : Int) then ((blazonref13_Find.f k x2800 ((rd_T53 l0 x3032).f0)).bind fun t3112 => (if 0 ≤ t3112 then (if t3112 < ((rd_L20 x2808 t3100).length : Int) then (if rdOf false (rd_L20 x2808 t3100) t3112 = true then (some (([] : List ByteArray), ([] : List (List Bool)), x3032, 16)) else (blazonref13_New.l0 k l0 x2800 x2808 (wrap64 (x3032 + 1)))) else (none)) else (none))) else (none)) else (none)))) else (none)) else (some (x2800, x2808, 0, 0))
def blazonref13_New.l1 : Nat → (List (S53)) → (List ByteArray) → Int → (List (List Bool)) → Option (List ByteArray × (List (List Bool)) × Int × Int)
  | 0, _, _, _, _ => none
  | k + 1, l0, x2800, x2806, x2808 => if x2806 < (x2800.length : Int) then ((blazonref13_reached.f k l0 x2800 x2806).bind fun t2830 => (if x2808.length < 5864062014805 then ((some (x2808 ++ [t2830] : List (List Bool))).bind fun y2842 => (blazonref13_New.l1 k l0 x2800 (wrap64 (x2806 + 1)) y2842)) else (none))) else (blazonref13_New.l0 k l0 x2800 x2808 0)
def blazonref13_New.l2 : Nat → (List (S53)) → Int → Option (List ByteArray × (List (List Bool)) × Int × Int)
  | 0, _, _ => none
  | k + 1, l0, x2391 => if x2391 < (l0.length : Int) then (if 0 ≤ x2391 then ((blazonref06_Ident.f k ((rd_T53 l0 x2391).f0)).bind fun t2541 => (if t2541 = true then (if ((rd_T53 l0 x2391).f1) = (⟨#[]⟩ : ByteArray) then (blazonref13_New.j0 k l0 x2391 false) else ((blazonref06_Ident.f k ((rd_T53 l0 x2391).f1)).bind fun t2555 => (blazonref13_New.j0 k l0 x2391 (!t2555)))) else (blazonref13_New.j0 k l0 x2391 true))) else (none)) else ((blazonref13_names.f k l0).bind fun t2562 => (blazonref13_New.l1 k l0 t2562 0 ([] : List (List Bool))))
end
def blazonref13_New.f (k : Nat) (l0 : List (S53)) : Option (List ByteArray × (List (List Bool)) × Int × Int) := blazonref13_New.l2 k l0 0

set_option maxHeartbeats 2000000 in
set_option maxRecDepth 100000 in
theorem blazonref13_New.calls (k : Nat) (A0 : Option Addr) (c0 : Nat) (l0 : List (S53)) (r1 : List ByteArray) (r2 : List (List Bool)) (r3 : Int) (r4 : Int) (c : Nat → Nat) (w : World) (hc : ∀ k, c k < 10) (HP0 : Ft c [0] w (fun w_ => k53.C w_ A0 l0.length l0)) (HCP0 : l0.length ≤ c0) (H : blazonref13_New.f k l0 = some (r1, r2, r3, r4)) :
    Calls Tryd.prog 16 #[.slice A0 l0.length c0] w fun e w' => ∃ (c' : Nat → Nat) (A_r1 : Option Addr) (c_r1 : Nat) (A_r2 : Option Addr) (c_r2 : Nat), e = .returned (.tuple #[.agg #[.slice A_r1 r1.length c_r1, .slice A_r2 r2.length c_r2], .int .i64 r3, .int .i64 r4]) ∧ Step c w c' w' [] ∧ Ft c' [0] w' (fun w_ => Kd.string.C w_ A_r1 r1.length r1) ∧ r1.length ≤ c_r1 ∧ Own c' 6 w' (Kd.slice 4 Kd.bool) 74 (.slice A_r2 r2.length c_r2) r2 ∧ r2.length ≤ c_r2 := by
 unfold blazonref13_New.f at H
 have HS := Step.refl c w []
 go_enter Tryd.func16, Tryd.ntmps16
 refine wp_seq_k fun K1566 hK1566 => ?_
 refine wl_region ?_
 refine bx_new (C := c) 33 ([.slice none 0 0, .slice none 0 0]) 11 rfl rfl (by first | (go_simp; done) | (go_simp; rfl)) ?_
 intro g1567 w1568 C1569 HX1570 hs1571
 replace HP0 := HP0.thru hs1571 rfl
 replace HS := HS.trans hs1571 hc rfl
 (try simp only [ls0, ls1])
 refine st (.int .i64 0) rfl rfl (xr_assign _ rfl rfl) ?_
 refine st (.int .i64 0) rfl rfl (xr_assign _ rfl rfl) ?_
 refine wl_end ?_
 (try simp only [ls0, ls1])
 refine hK1566 _ _ ?_
 (try clear hK1566 K1566)
 refine wp_seq_k fun K1572 hK1572 => ?_
 refine wp_seq_k fun K2067 hK2067 => ?_
 refine wl_region ?_
 refine st (.int .i64 0) rfl rfl (xr_assign _ rfl rfl) ?_
 refine wl_end ?_
 (try simp only [ls0, ls1])
 refine hK2067 _ _ ?_
 (try clear hK2067 K2067)
 refine wp_block ?_
 (try simp only [ls0, ls1])
 refine wp_looped (looped_fin (fun kq2395 a_ w2394 => ∃ (C2393 : Nat → Nat) (x2391 : Int) (g_ : Nat → Value), a_ = ⟨#[.slice A0 l0.length c0, (g_ 1), .pointer (some ⟨g1567, 0, none⟩), (g_ 3), (g_ 4), .int .i64 x2391, (g_ 6), (g_ 7), (g_ 8), (g_ 9), (g_ 10), (g_ 11), (g_ 12), (g_ 13), (g_ 14), (g_ 15), (g_ 16), (g_ 17), (g_ 18), (g_ 19), (g_ 20), (g_ 21), (g_ 22), (g_ 23), (g_ 24), (g_ 25), (g_ 26), (g_ 27), (g_ 28), (g_ 29), (g_ 30), (g_ 31), (g_ 32), (g_ 33), (g_ 34), (g_ 35), (g_ 36), (g_ 37), (g_ 38), (g_ 39), (g_ 40), (g_ 41), (g_ 42), (g_ 43), (g_ 44), (g_ 45), (g_ 46), (g_ 47), (g_ 48), (g_ 49), (g_ 50), (g_ 51), (g_ 52), (g_ 53), (g_ 54), (g_ 55), (g_ 56), (g_ 57), (g_ 58), (g_ 59), (g_ 60), (g_ 61), (g_ 62), (g_ 63), (g_ 64), (g_ 65), (g_ 66), (g_ 67), (g_ 68), (g_ 69), (g_ 70), (g_ 71), (g_ 72), (g_ 73), (g_ 74), (g_ 75), (g_ 76), (g_ 77), (g_ 78), (g_ 79), (g_ 80), (g_ 81), (g_ 82), (g_ 83), (g_ 84), (g_ 85), (g_ 86), (g_ 87), (g_ 88), (g_ 89), (g_ 90), (g_ 91), (g_ 92), (g_ 93), (g_ 94), (g_ 95), (g_ 96), (g_ 97), (g_ 98), (g_ 99), (g_ 100), (g_ 101), (g_ 102), (g_ 103), (g_ 104), (g_ 105), (g_ 106)], []⟩ ∧ Step c w C2393 w2394 [] ∧ kq2395 ≤ k ∧ (Ft C2393 [0] w2394 (fun w_ => k53.C w_ A0 l0.length l0)) ∧ (Bx C2393 11 w2394 g1567 33 ([.slice none 0 0, .slice none 0 0])) ∧ blazonref13_New.l2 kq2395 l0 x2391 = some (r1, r2, r3, r4)) ?step fun hL_ => ?init)
 case init =>
  exact jmpL (fun a_ h_ => hL_ k a_ _ h_) (fun g_ => ⟨_, 0, g_, rfl, HS, Nat.le_refl _, HP0, HX1570, H⟩) rfl
 case step =>
  intro kq2395 ih2398 a2399 w2394 hr2400
  obtain ⟨C2393, x2391, g_, rfl, HS2396, hk2397, HJ2390, HJ2392, H⟩ := hr2400
  refine looped_round ?_
  cases kq2395 with
  | zero => exact absurd H (by simp [blazonref13_New.l2])
  | succ k2401 =>
   simp only [blazonref13_New.l2] at H
   refine wp_seq_k fun K2402 hK2402 => ?_
   refine wp_seq_k fun K2403 hK2403 => ?_
   refine wl_region ?_
   refine mv_ rfl ?_
   refine mv_ rfl ?_
   refine st (.int .i64 (l0.length : Int)) rfl rfl (xr_builtin #[.slice A0 l0.length c0] (.int .i64 (l0.length : Int)) rfl (mp_ rfl) (by first | rfl | (go_simp; done) | (go_simp; rfl) | (go_simp; exact i64_w _) | (go_simp; exact i32_w _))) ?_
   refine st (.bool (decide (x2391 < (l0.length : Int)))) rfl rfl (xr_bin _ _ _ rfl rfl rfl (B.lss_i64 _ _)) ?_
   simp only [ls0, ls1]
   refine wl_end ?_
   (try simp only [ls0, ls1])
   refine hK2403 _ _ ?_
   (try clear hK2403 K2403)
   by_cases c2404 : x2391 < (l0.length : Int)
   ·rw [if_pos c2404] at H
    (try rw [(decide_eq_true c2404)])
    refine wp_cond_true rfl ?_
    refine wp_skip ?_
    (try simp only [ls0, ls1])
    refine hK2402 _ _ ?_
    (try clear hK2402 K2402)
    refine wp_seq_k fun K2405 hK2405 => ?_
    refine wp_block ?_
    refine wp_seq_k fun K2406 hK2406 => ?_
    refine wp_seq_k fun K2471 hK2471 => ?_
    have hj2496 : ∀ (kq2503 : Nat) (C2497 : Nat → Nat) (w2498 : World) (x2501 : Bool) (g_ : Nat → Value), Step c w C2497 w2498 [] → kq2503 ≤ k2401 → (Ft C2497 [0] w2498 (fun w_ => k53.C w_ A0 l0.length l0)) → (Bx C2497 11 w2498 g1567 33 ([.slice none 0 0, .slice none 0 0])) → blazonref13_New.j0 kq2503 l0 x2391 x2501 = some (r1, r2, r3, r4) → K2471 ⟨#[.slice A0 l0.length c0, (g_ 1), .pointer (some ⟨g1567, 0, none⟩), (g_ 3), (g_ 4), .int .i64 x2391, (g_ 6), (g_ 7), (g_ 8), (g_ 9), (g_ 10), (g_ 11), (g_ 12), (g_ 13), (g_ 14), (g_ 15), (g_ 16), (g_ 17), (g_ 18), (g_ 19), (g_ 20), (g_ 21), (g_ 22), (g_ 23), (g_ 24), (g_ 25), (g_ 26), (g_ 27), (g_ 28), (g_ 29), (g_ 30), (g_ 31), (g_ 32), (g_ 33), (g_ 34), (g_ 35), (g_ 36), (g_ 37), (g_ 38), .bool x2501, (g_ 40), (g_ 41), (g_ 42), (g_ 43), (g_ 44), (g_ 45), (g_ 46), (g_ 47), (g_ 48), (g_ 49), (g_ 50), (g_ 51), (g_ 52), (g_ 53), (g_ 54), (g_ 55), (g_ 56), (g_ 57), (g_ 58), (g_ 59), (g_ 60), (g_ 61), (g_ 62), (g_ 63), (g_ 64), (g_ 65), (g_ 66), (g_ 67), (g_ 68), (g_ 69), (g_ 70), (g_ 71), (g_ 72), (g_ 73), (g_ 74), (g_ 75), (g_ 76), (g_ 77), (g_ 78), (g_ 79), (g_ 80), (g_ 81), (g_ 82), (g_ 83), (g_ 84), (g_ 85), (g_ 86), (g_ 87), (g_ 88), (g_ 89), (g_ 90), (g_ 91), (g_ 92), (g_ 93), (g_ 94), (g_ 95), (g_ 96), (g_ 97), (g_ 98), (g_ 99), (g_ 100), (g_ 101), (g_ 102), (g_ 103), (g_ 104), (g_ 105), (g_ 106)], []⟩ w2498 := by
     intro kq2503 C2497 w2498 x2501 g_ HS2499 hk2504 HJ2500 HJ2502 H
     cases kq2503 with
     | zero => exact absurd H (by simp [blazonref13_New.j0])
     | succ k2505 =>
      simp only [blazonref13_New.j0] at H
      refine hK2471 _ _ ?_
      (try clear hK2471)
      by_cases c2506 : x2501 = true
      ·rw [if_pos c2506] at H
       (try rw [c2506])
       refine wp_cond_true rfl ?_
       refine wp_seq_k fun K2507 hK2507 => ?_
       refine wl_region ?_
       refine st (.agg #[.slice none 0 0, .slice none 0 0]) rfl rfl (xr_build #[] (.agg #[.slice none 0 0, .slice none 0 0]) rfl (mp_ rfl) (by first | rfl | (go_simp; done) | (go_simp; rfl) | (go_simp; exact i64_w _) | (go_simp; exact i32_w _))) ?_
       simp only [ls0, ls1]
       refine mv_ rfl ?_
       refine bx_store (C := C2497) (z := 11) (g := g1567) (j := 0) (tb := 33) (u := .agg #[.slice none 0 0, .slice none 0 0]) (seg := [.slice none 0 0, .slice none 0 0]) (xs := [.slice none 0 0, .slice none 0 0]) rfl rfl rfl rfl rfl rfl (by first | kernel_rfl | rfl) (by simp [Value.oneCell']) HJ2502 (by simp only [List.length_cons, List.length_nil]; omega) rfl ?_
       intro w2508 HX2509 hs2510
       replace HS2499 := HS2499.trans hs2510 hc rfl
       (try simp only [ls0, ls1])
       refine as_ rfl ?_
       refine st (.int .i64 1) rfl rfl (xr_assign _ rfl rfl) ?_
       refine wl_end ?_
       (try simp only [ls0, ls1])
       refine hK2507 _ _ ?_
       (try clear hK2507 K2507)
       refine wp_ret ?_
       (try simp only [Exit.inBlock, Exit.then, Exit.noGoto])
       (try simp only [ls0, ls1])
       simp only [Option.some.injEq, Prod.mk.injEq] at H
       obtain ⟨rfl, rfl, rfl, rfl⟩ := H
       refine bodyPost_ret (res_ctt rfl rfl (load_of (load_agg (cs := [.slice none 0 0, .slice none 0 0]) Tryd.underlying33 rfl (by kernel_rfl) (bx_cells (HX2509).2 0 rfl)))) rfl ?_
       exact ⟨_, none, 0, none, 0, rfl, HS2499, (Kd.F_nil _ _ _), (Nat.le_refl 0), (Own.nil _ _ _ _ _), (Nat.le_refl 0)⟩
      rw [if_neg c2506] at H
      (try rw [(Bool.eq_false_iff.mpr c2506)])
      refine wp_cond_false rfl ?_
      refine wp_skip ?_
      (try simp only [ls0, ls1])
      refine hK2406 _ _ ?_
      (try clear hK2406 K2406)
      refine wp_seq_k fun K2511 hK2511 => ?_
      refine wl_region ?_
      refine mv_ rfl ?_
      refine mv_ rfl ?_
      refine st (.int .i64 (wrap64 (x2391 + 1))) rfl rfl (xr_bin _ _ _ rfl rfl rfl (B.add_i64 _ _)) ?_
      obtain ⟨c2512, H⟩ := if_some H
      obtain ⟨c2513, H⟩ := if_some H
      obtain ⟨y2514, A2515, H⟩ := bnd H
      obtain ⟨iz2521, hiz2521, _, hzz2521, _⟩ := info_parts info53
      obtain ⟨hr2520, HR2518, HC2519⟩ := cutTo (t := 22) k53 53 .i64 Tryd.underlying22 hiz2521 HJ2500 HCP0 (by first | assumption | omega | decide) (by first | assumption | omega | decide) (Option.some.inj A2515)
      refine st (.slice A0 y2514.length c0) rfl rfl (xr_slice (.slice A0 l0.length c0) none (some (.int .i64 (wrap64 (x2391 + 1)))) none (.slice A0 y2514.length c0) rfl rfl rfl rfl rfl (hr2520 _)) ?_
      simp only [ls0, ls1]
      clear hr2520 hiz2521 hzz2521
      obtain ⟨t2522, A2523, H⟩ := bnd H
      refine st_call #[.slice A0 y2514.length c0] rfl rfl Tryd.func53 (by kernel_rfl) rfl rfl (mp_ rfl) ?_
      refine (blazonref13_names.calls k2505 A0 c0 y2514 t2522  (fun z_ => pal [(0, 0)] (C2497 z_)) w2498 (fun _ => pal_lt rfl _) (Ft.arg HR2518 rfl) HC2519 A2523).mono ?_
      rintro _ w2525 ⟨C2526, A2528, cp2529, rfl, hs2527, HO2530, HC2531⟩
      refine ⟨_, rfl, ?_⟩
      replace HO2530 := Own.res (U := [(0, 0), (5, 12)]) (j := 12) HO2530 hs2527 (by rfl) (by decide) rfl rfl
      replace hs2527 := Step.lift (U := [(0, 0), (5, 12)]) hs2527 [] rfl rfl
      generalize up C2497 C2526 w2498.heap.size [(0, 0), (5, 12)] = C2526_ at HO2530 hs2527
      replace HJ2500 := HJ2500.thru hs2527 rfl
      replace HJ2502 := HJ2502.thru hs2527 rfl
      replace HS2499 := HS2499.trans hs2527 hc rfl
      (try simp only [ls0, ls1])
      refine st (.int .i64 (t2522.length : Int)) rfl rfl (xr_builtin #[.slice A2528 t2522.length cp2529] (.int .i64 (t2522.length : Int)) rfl (mp_ rfl) (by first | rfl | (go_simp; done) | (go_simp; rfl) | (go_simp; exact i64_w _) | (go_simp; exact i32_w _))) ?_
      refine st (.bool (decide ((t2522.length : Int) > 64))) rfl rfl (xr_bin _ _ _ rfl rfl rfl (B.gtr_i64 _ _)) ?_
      refine wl_end ?_
      (try simp only [ls0, ls1])
      refine hK2511 _ _ ?_
      (try clear hK2511 K2511)
      by_cases c2532 : (t2522.length : Int) > 64
      ·rw [if_pos c2532] at H
       (try rw [(decide_eq_true c2532)])
       refine wp_cond_true rfl ?_
       refine wp_seq_k fun K2533 hK2533 => ?_
       refine wl_region ?_
       refine st (.agg #[.slice none 0 0, .slice none 0 0]) rfl rfl (xr_build #[] (.agg #[.slice none 0 0, .slice none 0 0]) rfl (mp_ rfl) (by first | rfl | (go_simp; done) | (go_simp; rfl) | (go_simp; exact i64_w _) | (go_simp; exact i32_w _))) ?_
       refine mv_ rfl ?_
       refine bx_store (C := C2526_) (z := 11) (g := g1567) (j := 0) (tb := 33) (u := .agg #[.slice none 0 0, .slice none 0 0]) (seg := [.slice none 0 0, .slice none 0 0]) (xs := [.slice none 0 0, .slice none 0 0]) rfl rfl rfl rfl rfl rfl (by first | kernel_rfl | rfl) (by simp [Value.oneCell']) HJ2502 (by simp only [List.length_cons, List.length_nil]; omega) rfl ?_
       intro w2534 HX2535 hs2536
       replace HS2499 := HS2499.trans hs2536 hc rfl
       (try simp only [ls0, ls1])
       refine as_ rfl ?_
       refine st (.int .i64 8) rfl rfl (xr_assign _ rfl rfl) ?_
       refine wl_end ?_
       (try simp only [ls0, ls1])
       refine hK2533 _ _ ?_
       (try clear hK2533 K2533)
       refine wp_ret ?_
       (try simp only [Exit.inBlock, Exit.then, Exit.noGoto])
       (try simp only [ls0, ls1])
       simp only [Option.some.injEq, Prod.mk.injEq] at H
       obtain ⟨rfl, rfl, rfl, rfl⟩ := H
       refine bodyPost_ret (res_ctt rfl rfl (load_of (load_agg (cs := [.slice none 0 0, .slice none 0 0]) Tryd.underlying33 rfl (by kernel_rfl) (bx_cells (HX2535).2 0 rfl)))) rfl ?_
       exact ⟨_, none, 0, none, 0, rfl, HS2499, (Kd.F_nil _ _ _), (Nat.le_refl 0), (Own.nil _ _ _ _ _), (Nat.le_refl 0)⟩
      rw [if_neg c2532] at H
      (try rw [(decide_eq_false c2532)])
      refine wp_cond_false rfl ?_
      refine wp_skip ?_
      (try simp only [ls0, ls1])
      refine hK2405 _ _ ?_
      (try clear hK2405 K2405)
      refine wl_region ?_
      refine mv_ rfl ?_
      refine st (.int .i64 (wrap64 (x2391 + 1))) rfl rfl (xr_bin _ _ _ rfl rfl rfl (B.add_i64 _ _)) ?_
      refine as_ rfl ?_
      refine wl_end ?_
      (try simp only [ls0, ls1])
      exact jmpL (fun a_ h_ => ih2398 k2505 (by omega) a_ _ h_) (fun g_ => ⟨_, wrap64 (x2391 + 1), g_, rfl, HS2499, (by omega), HJ2500, HJ2502, H⟩) rfl
    refine wl_region ?_
    refine mv_ rfl ?_
    refine mv_ rfl ?_
    obtain ⟨c2537, H⟩ := if_some H
    obtain ⟨ad2538, hA2539⟩ := c_addr (Ft.now HJ2390) (pos_of (j := x2391) (by first | assumption | decide) (by first | assumption | omega))
    refine st (.pointer (some (ad2538.add ((x2391 : Int).toNat * 3)))) rfl rfl (xr_indexAddr _ _ _ rfl rfl rfl (index_at Tryd.underlying22 info53 hA2539 (by first | assumption | decide | omega) (by first | assumption | decide | omega))) ?_
    refine st (.pointer (some ((ad2538.add ((x2391 : Int).toNat * 3)).add 0))) rfl rfl (xr_fieldAddr _ _ rfl rfl (field_at2 Tryd.underlying53 rfl rfl (by kernel_rfl))) ?_
    simp only [ls0, ls1]
    refine st (.string ((rd_T53 l0 x2391).f0)) rfl rfl (xr_load (.pointer (some ((ad2538.add ((x2391 : Int).toNat * 3)).add 0))) (.string ((rd_T53 l0 x2391).f0)) rfl rfl (by obtain ⟨ad_, cs_, e_, _, hK_, hc_⟩ := Kd.C_get (Ft.now HJ2390) z53 x2391 (by first | assumption | decide | omega) (by first | assumption | decide | omega); rw [hA2539] at e_; injection e_ with e_; subst e_; obtain rfl := k53_open hK_; exact load_cell Tryd.underlying9 rfl (by first | (rw [add_add]; exact hc_ 0 _ rfl) | (have h_ := hc_ 0 _ rfl; rw [Nat.add_zero] at h_; exact h_)))) ?_
    obtain ⟨t2541, A2542, H⟩ := bnd H
    refine st_call #[.string ((rd_T53 l0 x2391).f0)] rfl rfl Tryd.func52 (by kernel_rfl) rfl rfl (mp_ rfl) ?_
    refine (blazonref06_Ident.calls k2401 ((rd_T53 l0 x2391).f0) t2541  (fun z_ => pal [(0, 0)] (C2393 z_)) w2394 (fun _ => pal_lt rfl _) A2542).mono ?_
    rintro _ w2544 ⟨C2545, rfl, hs2546⟩
    refine ⟨_, rfl, ?_⟩
    replace hs2546 := Step.lift (U := [(0, 0)]) hs2546 [] rfl rfl
    generalize up C2393 C2545 w2394.heap.size [(0, 0)] = C2545_ at hs2546
    replace HJ2390 := HJ2390.thru hs2546 rfl
    replace HJ2392 := HJ2392.thru hs2546 rfl
    replace HS2396 := HS2396.trans hs2546 hc rfl
    (try simp only [ls0, ls1])
    refine st (.bool (!t2541)) rfl rfl (xr_un (.bool t2541) _ rfl rfl (by first | rfl | (go_simp; done) | (go_simp; rfl) | (go_simp; exact i64_w _) | (go_simp; exact i32_w _))) ?_
    refine mv_ rfl ?_
    by_cases c2547 : t2541 = true
    ·rw [if_pos c2547] at H
     (try rw [c2547])
     (try simp only [Bool.not_true, Bool.not_false])
     refine on_guard (guard_on 7 false 23 rfl rfl rfl) ?_
     refine mv_ rfl ?_
     refine on_guard (guard_on 7 false 23 rfl rfl rfl) ?_
     refine mv_ rfl ?_
     simp only [ls0, ls1]
     refine on_guard (guard_on 7 false 23 rfl rfl rfl) ?_
     obtain ⟨ad2548, hA2549⟩ := c_addr (Ft.now HJ2390) (pos_of (j := x2391) (by first | assumption | decide) (by first | assumption | omega))
     refine st (.pointer (some (ad2548.add ((x2391 : Int).toNat * 3)))) rfl rfl (xr_indexAddr _ _ _ rfl rfl rfl (index_at Tryd.underlying22 info53 hA2549 (by first | assumption | decide | omega) (by first | assumption | decide | omega))) ?_
     refine on_guard (guard_on 7 false 23 rfl rfl rfl) ?_
     refine st (.pointer (some ((ad2548.add ((x2391 : Int).toNat * 3)).add 1))) rfl rfl (xr_fieldAddr _ _ rfl rfl (field_at2 Tryd.underlying53 rfl rfl (by kernel_rfl))) ?_
     refine on_guard (guard_on 7 false 23 rfl rfl rfl) ?_
     refine st (.string ((rd_T53 l0 x2391).f1)) rfl rfl (xr_load (.pointer (some ((ad2548.add ((x2391 : Int).toNat * 3)).add 1))) (.string ((rd_T53 l0 x2391).f1)) rfl rfl (by obtain ⟨ad_, cs_, e_, _, hK_, hc_⟩ := Kd.C_get (Ft.now HJ2390) z53 x2391 (by first | assumption | decide | omega) (by first | assumption | decide | omega); rw [hA2549] at e_; injection e_ with e_; subst e_; obtain rfl := k53_open hK_; exact load_cell Tryd.underlying9 rfl (by first | (rw [add_add]; exact hc_ 1 _ rfl) | (have h_ := hc_ 1 _ rfl; rw [Nat.add_zero] at h_; exact h_)))) ?_
     refine on_guard (guard_on 7 false 23 rfl rfl rfl) ?_
     refine st (.bool (!decide (((rd_T53 l0 x2391).f1) = (⟨#[]⟩ : ByteArray)))) rfl rfl (xr_bin _ _ _ rfl rfl rfl (B.neq_str _ _)) ?_
     simp only [ls0, ls1]
     refine on_guard (guard_on 7 false 23 rfl rfl rfl) ?_
     refine mv_ rfl ?_
     by_cases c2551 : ((rd_T53 l0 x2391).f1) = (⟨#[]⟩ : ByteArray)
     ·rw [if_pos c2551] at H
      (try rw [(decide_eq_true c2551)])
      (try simp only [Bool.not_true, Bool.not_false])
      refine sk_guard (guard_off 14 true 30 rfl rfl false (by decide) rfl) rfl ?_
      refine sk_guard (guard_off 14 true 30 rfl rfl false (by decide) rfl) rfl ?_
      refine sk_guard (guard_off 14 true 30 rfl rfl false (by decide) rfl) rfl ?_
      simp only [ls0, ls1]
      refine sk_guard (guard_off 14 true 30 rfl rfl false (by decide) rfl) rfl ?_
      refine sk_guard (guard_off 14 true 30 rfl rfl false (by decide) rfl) rfl ?_
      refine sk_guard (guard_off 14 true 30 rfl rfl false (by decide) rfl) rfl ?_
      refine sk_guard (guard_off 14 true 30 rfl rfl false (by decide) rfl) rfl ?_
      simp only [ls0, ls1]
      refine on_guard (guard_on 7 false 23 rfl rfl rfl) ?_
      refine st (.bool false) rfl rfl (xr_pick false _ rfl rfl rfl) ?_
      refine st (.bool false) rfl rfl (xr_pick false _ rfl rfl rfl) ?_
      refine wl_end ?_
      (try simp only [ls0, ls1])
      exact jmp (fun g_ => hj2496 _ _ _ (false) g_ HS2396 (by omega) HJ2390 HJ2392 H) rfl
     rw [if_neg c2551] at H
     (try rw [(decide_eq_false c2551)])
     (try simp only [Bool.not_true, Bool.not_false])
     refine on_guard (guard_on 14 true 30 rfl rfl rfl) ?_
     refine mv_ rfl ?_
     refine on_guard (guard_on 14 true 30 rfl rfl rfl) ?_
     refine mv_ rfl ?_
     refine on_guard (guard_on 14 true 30 rfl rfl rfl) ?_
     obtain ⟨ad2552, hA2553⟩ := c_addr (Ft.now HJ2390) (pos_of (j := x2391) (by first | assumption | decide) (by first | assumption | omega))
     refine st (.pointer (some (ad2552.add ((x2391 : Int).toNat * 3)))) rfl rfl (xr_indexAddr _ _ _ rfl rfl rfl (index_at Tryd.underlying22 info53 hA2553 (by first | assumption | decide | omega) (by first | assumption | decide | omega))) ?_
     refine on_guard (guard_on 14 true 30 rfl rfl rfl) ?_
     refine st (.pointer (some ((ad2552.add ((x2391 : Int).toNat * 3)).add 1))) rfl rfl (xr_fieldAddr _ _ rfl rfl (field_at2 Tryd.underlying53 rfl rfl (by kernel_rfl))) ?_
     simp only [ls0, ls1]
     refine on_guard (guard_on 14 true 30 rfl rfl rfl) ?_
     refine st (.string ((rd_T53 l0 x2391).f1)) rfl rfl (xr_load (.pointer (some ((ad2552.add ((x2391 : Int).toNat * 3)).add 1))) (.string ((rd_T53 l0 x2391).f1)) rfl rfl (by obtain ⟨ad_, cs_, e_, _, hK_, hc_⟩ := Kd.C_get (Ft.now HJ2390) z53 x2391 (by first | assumption | decide | omega) (by first | assumption | decide | omega); rw [hA2553] at e_; injection e_ with e_; subst e_; obtain rfl := k53_open hK_; exact load_cell Tryd.underlying9 rfl (by first | (rw [add_add]; exact hc_ 1 _ rfl) | (have h_ := hc_ 1 _ rfl; rw [Nat.add_zero] at h_; exact h_)))) ?_
     refine on_guard (guard_on 14 true 30 rfl rfl rfl) ?_
     obtain ⟨t2555, A2556, H⟩ := bnd H
     refine st_call #[.string ((rd_T53 l0 x2391).f1)] rfl rfl Tryd.func52 (by kernel_rfl) rfl rfl (mp_ rfl) ?_
     refine (blazonref06_Ident.calls k2401 ((rd_T53 l0 x2391).f1) t2555  (fun z_ => pal [(0, 0)] (C2545_ z_)) w2544 (fun _ => pal_lt rfl _) A2556).mono ?_
     rintro _ w2558 ⟨C2559, rfl, hs2560⟩
     refine ⟨_, rfl, ?_⟩
     replace hs2560 := Step.lift (U := [(0, 0)]) hs2560 [] rfl rfl
     generalize up C2545_ C2559 w2544.heap.size [(0, 0)] = C2559_ at hs2560
     replace HJ2390 := HJ2390.thru hs2560 rfl
     replace HJ2392 := HJ2392.thru hs2560 rfl
     replace HS2396 := HS2396.trans hs2560 hc rfl
     (try simp only [ls0, ls1])
     refine on_guard (guard_on 14 true 30 rfl rfl rfl) ?_
     refine st (.bool (!t2555)) rfl rfl (xr_un (.bool t2555) _ rfl rfl (by first | rfl | (go_simp; done) | (go_simp; rfl) | (go_simp; exact i64_w _) | (go_simp; exact i32_w _))) ?_
     refine on_guard (guard_on 7 false 23 rfl rfl rfl) ?_
     refine st (.bool (!t2555)) rfl rfl (xr_pick true _ rfl rfl rfl) ?_
     refine st (.bool (!t2555)) rfl rfl (xr_pick false _ rfl rfl rfl) ?_
     refine wl_end ?_
     (try simp only [ls0, ls1])
     exact jmp (fun g_ => hj2496 _ _ _ (!t2555) g_ HS2396 (by omega) HJ2390 HJ2392 H) rfl
    rw [if_neg c2547] at H
    (try rw [(Bool.eq_false_iff.mpr c2547)])
    (try simp only [Bool.not_true, Bool.not_false])
    refine sk_guard (guard_off 7 false 23 rfl rfl true (by decide) rfl) rfl ?_
    refine sk_guard (guard_off 7 false 23 rfl rfl true (by decide) rfl) rfl ?_
    refine sk_guard (guard_off 7 false 23 rfl rfl true (by decide) rfl) rfl ?_
    refine sk_guard (guard_off 7 false 23 rfl rfl true (by decide) rfl) rfl ?_
    simp only [ls0, ls1]
    refine sk_guard (guard_off 7 false 23 rfl rfl true (by decide) rfl) rfl ?_
    refine sk_guard (guard_off 7 false 23 rfl rfl true (by decide) rfl) rfl ?_
    refine sk_guard (guard_off 7 false 23 rfl rfl true (by decide) rfl) rfl ?_
    refine sk_guard (guard_und 14 true 30 rfl rfl rfl) rfl ?_
    simp only [ls0, ls1]
    refine sk_guard (guard_und 14 true 30 rfl rfl rfl) rfl ?_
    refine sk_guard (guard_und 14 true 30 rfl rfl rfl) rfl ?_
    refine sk_guard (guard_und 14 true 30 rfl rfl rfl) rfl ?_
    refine sk_guard (guard_und 14 true 30 rfl rfl rfl) rfl ?_
    simp only [ls0, ls1]
    refine sk_guard (guard_und 14 true 30 rfl rfl rfl) rfl ?_
    refine sk_guard (guard_und 14 true 30 rfl rfl rfl) rfl ?_
    refine sk_guard (guard_off 7 false 23 rfl rfl true (by decide) rfl) rfl ?_
    refine st (.bool true) rfl rfl (xr_pick true _ rfl rfl rfl) ?_
    simp only [ls0, ls1]
    refine wl_end ?_
    (try simp only [ls0, ls1])
    exact jmp (fun g_ => hj2496 _ _ _ (true) g_ HS2396 (by omega) HJ2390 HJ2392 H) rfl
   rw [if_neg c2404] at H
   (try rw [(decide_eq_false c2404)])
   refine wp_cond_false rfl ?_
   refine wp_exit ?_
   (try simp only [ls0, ls1])
   refine hK1572 _ _ ?_
   (try clear hK1572 K1572)
   refine wp_seq_k fun K2561 hK2561 => ?_
   refine wl_region ?_
   refine mv_ rfl ?_
   obtain ⟨t2562, A2563, H⟩ := bnd H
   refine st_call #[.slice A0 l0.length c0] rfl rfl Tryd.func53 (by kernel_rfl) rfl rfl (mp_ rfl) ?_
   refine (blazonref13_names.calls k2401 A0 c0 l0 t2562  (fun z_ => pal [(0, 0)] (C2393 z_)) w2394 (fun _ => pal_lt rfl _) (Ft.arg HJ2390 rfl) HCP0 A2563).mono ?_
   rintro _ w2565 ⟨C2566, A2568, cp2569, rfl, hs2567, HO2570, HC2571⟩
   refine ⟨_, rfl, ?_⟩
   replace HO2570 := Own.res (U := [(0, 0), (5, 12)]) (j := 12) HO2570 hs2567 (by rfl) (by decide) rfl rfl
   replace hs2567 := Step.lift (U := [(0, 0), (5, 12)]) hs2567 [] rfl rfl
   generalize up C2393 C2566 w2394.heap.size [(0, 0), (5, 12)] = C2566_ at HO2570 hs2567
   replace HJ2390 := HJ2390.thru hs2567 rfl
   replace HJ2392 := HJ2392.thru hs2567 rfl
   replace HS2396 := HS2396.trans hs2567 hc rfl
   (try simp only [ls0, ls1])
   refine as_ rfl ?_
   refine wl_end ?_
   (try simp only [ls0, ls1])
   refine hK2561 _ _ ?_
   (try clear hK2561 K2561)
   refine wp_seq_k fun K2572 hK2572 => ?_
   refine wl_region ?_
   refine mv_ rfl ?_
   refine st (.agg #[.slice A2568 t2562.length cp2569, .slice none 0 0]) rfl rfl (xr_build #[(0, .slice A2568 t2562.length cp2569)] (.agg #[.slice A2568 t2562.length cp2569, .slice none 0 0]) rfl (mp_ rfl) (by first | rfl | (go_simp; done) | (go_simp; rfl) | (go_simp; exact i64_w _) | (go_simp; exact i32_w _))) ?_
   refine bx_new (C := C2566_) 33 ([.slice none 0 0, .slice none 0 0]) 13 rfl rfl (by first | (go_simp; done) | (go_simp; rfl)) ?_
   intro g2573 w2574 C2575 HX2576 hs2577
   replace HJ2390 := HJ2390.thru hs2577 rfl
   replace HJ2392 := HJ2392.thru hs2577 rfl
   replace HO2570 := HO2570.thru hs2577 rfl
   replace HS2396 := HS2396.trans hs2577 hc rfl
   (try simp only [ls0, ls1])
   refine bx_store (C := C2575) (z := 13) (g := g2573) (j := 0) (tb := 33) (u := .agg #[.slice A2568 t2562.length cp2569, .slice none 0 0]) (seg := [.slice A2568 t2562.length cp2569, .slice none 0 0]) (xs := [.slice none 0 0, .slice none 0 0]) rfl rfl rfl rfl rfl rfl (by first | kernel_rfl | rfl) (by simp [Value.oneCell']) HX2576 (by simp only [List.length_cons, List.length_nil]; omega) rfl ?_
   intro w2578 HX2579 hs2580
   replace HJ2390 := HJ2390.thru hs2580 rfl
   replace HJ2392 := HJ2392.thru hs2580 rfl
   replace HO2570 := HO2570.thru hs2580 rfl
   replace HS2396 := HS2396.trans hs2580 hc rfl
   (try simp only [ls0, ls1])
   refine wl_end ?_
   (try simp only [ls0, ls1])
   refine hK2572 _ _ ?_
   (try clear hK2572 K2572)
   refine wp_seq_k fun K2581 hK2581 => ?_
   refine wp_seq_k fun K2718 hK2718 => ?_
   refine wl_region ?_
   refine st (.int .i64 0) rfl rfl (xr_assign _ rfl rfl) ?_
   refine wl_end ?_
   (try simp only [ls0, ls1])
   refine hK2718 _ _ ?_
   (try clear hK2718 K2718)
   refine wp_block ?_
   (try simp only [ls0, ls1])
   refine wp_looped (looped_fin (fun kq2817 a_ w2816 => ∃ (C2815 : Nat → Nat) (x2806 : Int) (A2801 : Option Addr) (n2802 cp2803 : Nat) (x2800 : List ByteArray) (A2809 : Option Addr) (n2810 cp2811 : Nat) (x2808 : List (List Bool)) (g_ : Nat → Value), a_ = ⟨#[.slice A0 l0.length c0, (g_ 1), .pointer (some ⟨g1567, 0, none⟩), (g_ 3), (g_ 4), (g_ 5), .slice A2801 n2802 cp2803, .pointer (some ⟨g2573, 0, none⟩), .int .i64 x2806, (g_ 9), (g_ 10), (g_ 11), (g_ 12), (g_ 13), (g_ 14), (g_ 15), (g_ 16), (g_ 17), (g_ 18), (g_ 19), (g_ 20), (g_ 21), (g_ 22), (g_ 23), (g_ 24), (g_ 25), (g_ 26), (g_ 27), (g_ 28), (g_ 29), (g_ 30), (g_ 31), (g_ 32), (g_ 33), (g_ 34), (g_ 35), (g_ 36), (g_ 37), (g_ 38), (g_ 39), (g_ 40), (g_ 41), (g_ 42), (g_ 43), (g_ 44), (g_ 45), (g_ 46), (g_ 47), (g_ 48), (g_ 49), (g_ 50), (g_ 51), (g_ 52), (g_ 53), (g_ 54), (g_ 55), (g_ 56), (g_ 57), (g_ 58), (g_ 59), (g_ 60), (g_ 61), (g_ 62), (g_ 63), (g_ 64), (g_ 65), (g_ 66), (g_ 67), (g_ 68), (g_ 69), (g_ 70), (g_ 71), (g_ 72), (g_ 73), (g_ 74), (g_ 75), (g_ 76), (g_ 77), (g_ 78), (g_ 79), (g_ 80), (g_ 81), (g_ 82), (g_ 83), (g_ 84), (g_ 85), (g_ 86), (g_ 87), (g_ 88), (g_ 89), (g_ 90), (g_ 91), (g_ 92), (g_ 93), (g_ 94), (g_ 95), (g_ 96), (g_ 97), (g_ 98), (g_ 99), (g_ 100), (g_ 101), (g_ 102), (g_ 103), (g_ 104), (g_ 105), (g_ 106)], []⟩ ∧ Step c w C2815 w2816 [] ∧ kq2817 ≤ k2401 ∧ (Ft C2815 [0] w2816 (fun w_ => k53.C w_ A0 l0.length l0)) ∧ (Ft C2815 [0] w2816 (fun w_ => Kd.string.C w_ A2801 n2802 x2800)) ∧ (n2802 ≤ cp2803) ∧ (Bx C2815 11 w2816 g1567 33 ([.slice none 0 0, .slice none 0 0])) ∧ (Own C2815 14 w2816 (Kd.slice 4 Kd.bool) 74 (.slice A2809 n2810 cp2811) x2808) ∧ (n2810 ≤ cp2811) ∧ (Bx C2815 13 w2816 g2573 33 ([.slice A2801 n2802 cp2803, .slice A2809 n2810 cp2811])) ∧ blazonref13_New.l1 kq2817 l0 x2800 x2806 x2808 = some (r1, r2, r3, r4)) ?step fun hL_ => ?init)
   case init =>
    replace HJ2390 := Ft.recol (a := 12) (b := 0) HJ2390 (.inl rfl)
    replace HJ2392 := Bx.recol (a := 12) (b := 0) HJ2392 (by decide)
    have HR2820 := Ft.recolor (a := 12) (b := 0) (HO2570.ft) [0] rfl
    replace HX2579 := Bx.recol (a := 12) (b := 0) HX2579 (by decide)
    replace HS2396 := Step.recol (a := 12) (b := 0) HS2396 hc (by decide)
    exact jmpL (fun a_ h_ => hL_ k2401 a_ _ h_) (fun g_ => ⟨_, 0, A2568, t2562.length, cp2569, t2562, none, 0, 0, ([] : List (List Bool)), g_, rfl, HS2396, Nat.le_refl _, HJ2390, HR2820, HC2571, HJ2392, (Own.nil _ _ _ _ _), (Nat.le_refl 0), HX2579, H⟩) rfl
   case step =>
    intro kq2817 ih2821 a2822 w2816 hr2823
    obtain ⟨C2815, x2806, A2801, n2802, cp2803, x2800, A2809, n2810, cp2811, x2808, g_, rfl, HS2818, hk2819, HJ2799, HJ2805, HC2804, HJ2807, HJ2813, HC2812, HJ2814, H⟩ := hr2823
    refine looped_round ?_
    obtain rfl : n2802 = x2800.length := (Ft.now HJ2805).1.symm
    obtain rfl : n2810 = x2808.length := HJ2813.at_.1
    cases kq2817 with
    | zero => exact absurd H (by simp [blazonref13_New.l1])
    | succ k2824 =>
     simp only [blazonref13_New.l1] at H
     refine wp_seq_k fun K2825 hK2825 => ?_
     refine wp_seq_k fun K2826 hK2826 => ?_
     refine wl_region ?_
     refine mv_ rfl ?_
     refine mv_ rfl ?_
     refine st (.int .i64 (x2800.length : Int)) rfl rfl (xr_builtin #[.slice A2801 x2800.length cp2803] (.int .i64 (x2800.length : Int)) rfl (mp_ rfl) (by first | rfl | (go_simp; done) | (go_simp; rfl) | (go_simp; exact i64_w _) | (go_simp; exact i32_w _))) ?_
     refine st (.bool (decide (x2806 < (x2800.length : Int)))) rfl rfl (xr_bin _ _ _ rfl rfl rfl (B.lss_i64 _ _)) ?_
     simp only [ls0, ls1]
     refine wl_end ?_
     (try simp only [ls0, ls1])
     refine hK2826 _ _ ?_
     (try clear hK2826 K2826)
     by_cases c2827 : x2806 < (x2800.length : Int)
     ·rw [if_pos c2827] at H
      (try rw [(decide_eq_true c2827)])
      refine wp_cond_true rfl ?_
      refine wp_skip ?_
      (try simp only [ls0, ls1])
      refine hK2825 _ _ ?_
      (try clear hK2825 K2825)
      refine wp_seq_k fun K2828 hK2828 => ?_
      refine wp_block ?_
      (try simp only [ls0, ls1])
      refine al_start (lb 10 0) rfl rfl rfl (fun w_ => w_.heap[g2573]? = some (.cells (List.toArray ([.slice A2801 x2800.length cp2803, .slice A2809 x2808.length cp2811])) 33 (0, 0))) (HJ2814.drew).2 [9] ?_
      replace HJ2799 := HJ2799.drew
      replace HJ2805 := HJ2805.drew
      replace HJ2807 := HJ2807.drew
      replace HJ2814 := HJ2814.drew
      replace HJ2813 := HJ2813.drew
      replace HS2818 := Step.ofDrew HS2818
      generalize w2816.drew = w2829 at *
      refine al_pure 0 61 (.pointer (some ⟨g2573, 1, none⟩)) (lb 10 1) rfl rfl (by kernel_rfl) (fun _ _ _ => id) rfl (fun w_ => xr_fieldAddr _ _ rfl rfl (bx_field2 Tryd.underlying33 rfl rfl (by kernel_rfl))) ?_
      refine al_mv 2 (lb 10 5) rfl rfl (by kernel_rfl) (fun _ _ _ => id) rfl ?_
      refine al_mv 3 (lb 10 13) rfl rfl (by kernel_rfl) (fun _ _ _ => id) rfl ?_
      refine al_mv 4 (lb 10 29) rfl rfl (by kernel_rfl) (fun _ _ _ => id) rfl ?_
      simp only [ls0, ls1]
      refine al_take 1 62 (.slice A2809 x2808.length cp2811) (lb 10 31) rfl rfl (by kernel_rfl) (fun _ _ _ => id) rfl (fun w_ hS_ => xr_load _ _ rfl rfl (load_cell Tryd.underlying31 rfl (bx_cell hS_ 1 rfl))) (HJ2814).2 ?_
      obtain ⟨t2830, A2831, H⟩ := bnd H
      refine al_one 5 (lb 10 63) rfl rfl (by kernel_rfl) rfl (fun K_ hK_ => ?_)
      refine goes_ Tryd.func54 (by kernel_rfl) rfl #[.slice A0 l0.length c0, .slice A2801 x2800.length cp2803, .int .i64 x2806] rfl rfl rfl (mpe_ rfl) ?_
      refine (blazonref13_reached.calls k2824 A0 c0 l0 A2801 cp2803 x2800 x2806 t2830  (fun z_ => pal [(0, 0)] (C2815 z_)) w2829 (fun _ => pal_lt rfl _) (Ft.arg HJ2799 rfl) HCP0 (Ft.arg HJ2805 rfl) HC2804 A2831).mono ?_
      rintro _ w2833 ⟨C2834, A2836, cp2837, rfl, hs2835, HO2838, HC2839⟩
      refine ⟨_, rfl, ?_⟩
      replace HO2838 := Own.res (U := [(0, 0), (5, 15)]) (j := 15) HO2838 hs2835 (by rfl) (by decide) rfl rfl
      replace hs2835 := Step.lift (U := [(0, 0), (5, 15)]) hs2835 [] rfl rfl
      generalize up C2815 C2834 w2829.heap.size [(0, 0), (5, 15)] = C2834_ at HO2838 hs2835
      replace HJ2799 := HJ2799.thru hs2835 rfl
      replace HJ2805 := HJ2805.thru hs2835 rfl
      replace HJ2807 := HJ2807.thru hs2835 rfl
      replace HJ2814 := HJ2814.thru hs2835 rfl
      replace HJ2813 := HJ2813.thru hs2835 rfl
      replace HS2818 := HS2818.trans hs2835 hc rfl
      refine hK_ _ _ (HJ2814).2 ?_
      clear hK_ K_
      (try simp only [Act.put, List.setIfInBounds_toArray, ls0, ls1])
      replace HJ2799 := Ft.recol (a := 15) (b := 0) HJ2799 (.inl rfl)
      replace HJ2805 := Ft.recol (a := 15) (b := 0) HJ2805 (.inl rfl)
      replace HJ2807 := Bx.recol (a := 15) (b := 0) HJ2807 (by decide)
      replace HJ2814 := Bx.recol (a := 15) (b := 0) HJ2814 (by decide)
      replace HJ2813 := Own.recol (a := 15) (b := 0) HJ2813 (by decide) (by decide)
      have HR2840 := Ft.recolor (a := 15) (b := 0) (HO2838.ft) [0] rfl
      replace HS2818 := Step.recol (a := 15) (b := 0) HS2818 hc (by decide)
      refine al_one 6 (lb 10 127) rfl rfl (by kernel_rfl) rfl (fun K_ hK_ => ?_)
      refine value_ (w1 := w2833.alloc (.cells #[.slice A2836 t2830.length cp2837] 74)) (v := .slice (some ⟨w2833.heap.size, 0, none⟩) 1 1) rfl rfl (by first | (go_simp; done) | (go_simp; rfl)) ?_
      refine hK_ _ _ (HJ2814.alloc _).2 ?_
      clear hK_ K_
      (try simp only [Act.put, List.setIfInBounds_toArray, ls0, ls1])
      obtain ⟨c2841, H⟩ := if_some H
      obtain ⟨y2842, A2843, H⟩ := bnd H
      refine al_one 7 (lb 10 255) rfl rfl (by kernel_rfl) rfl (fun K_ hK_ => ?_)
      refine Own.append_step (Kd.slice 4 Kd.bool) (C := (recol C2834_ 15 0)) (i := 14) rfl (.tmp 62) (.tmp 67) 31 74 (.slice none 0 0) 24 rfl Tryd.underlying31 info74 rfl (by decide) (by decide) (.slice A2809 x2808.length cp2811) x2808 t2830 [.slice A2836 t2830.length cp2837] rfl rfl (fk_slice 4 Kd.bool HC2839 HR2840) HJ2813 (by decide) (by omega) (Option.some.inj A2843) ?_
      intro A2844 cp2845 w2846 C2847 HO2848 HC2849 hs2850
      replace HJ2799 := HJ2799.thru hs2850 rfl
      replace HJ2805 := HJ2805.thru hs2850 rfl
      replace HJ2807 := HJ2807.thru hs2850 rfl
      replace HJ2814 := HJ2814.thru hs2850 rfl
      replace HS2818 := HS2818.trans hs2850 hc rfl
      refine hK_ _ _ (HJ2814).2 ?_
      clear hK_ K_
      (try simp only [Act.put, List.setIfInBounds_toArray, ls0, ls1])
      refine al_pure 8 69 (.pointer (some ⟨g2573, 1, none⟩)) (lb 10 511) rfl rfl (by kernel_rfl) (fun _ _ _ => id) rfl (fun w_ => xr_fieldAddr _ _ rfl rfl (bx_field2 Tryd.underlying33 rfl rfl (by kernel_rfl))) ?_
      refine al_last 9 (lb 10 1023) rfl rfl (by kernel_rfl) rfl (fun K_ hK_ => ?_)
      refine bx_store_step (C := C2847) (z := 13) (g := g2573) (j := 1) (tb := 33) (u := .slice A2844 y2842.length cp2845) (seg := [.slice A2844 y2842.length cp2845]) (xs := [.slice A2801 x2800.length cp2803, .slice A2809 x2808.length cp2811]) rfl rfl rfl rfl rfl rfl (by first | kernel_rfl | rfl) (by simp [Value.oneCell']) HJ2814 (by simp only [List.length_cons, List.length_nil]; omega) rfl ?_
      intro w2851 HX2852 hs2853
      replace HJ2799 := HJ2799.thru hs2853 rfl
      replace HJ2805 := HJ2805.thru hs2853 rfl
      replace HJ2807 := HJ2807.thru hs2853 rfl
      replace HO2848 := HO2848.thru hs2853 rfl
      replace HS2818 := HS2818.trans hs2853 hc rfl
      refine hK_ _ _ ?_
      clear hK_ K_
      (try simp only [Act.put, List.setIfInBounds_toArray, ls0, ls1])
      refine al_end (by kernel_rfl) ?_
      (try simp only [ls0, ls1])
      refine hK2828 _ _ ?_
      (try clear hK2828 K2828)
      refine wl_region ?_
      refine mv_ rfl ?_
      refine st (.int .i64 (wrap64 (x2806 + 1))) rfl rfl (xr_bin _ _ _ rfl rfl rfl (B.add_i64 _ _)) ?_
      refine as_ rfl ?_
      refine wl_end ?_
      (try simp only [ls0, ls1])
      exact jmpL (fun a_ h_ => ih2821 k2824 (by omega) a_ _ h_) (fun g_ => ⟨_, wrap64 (x2806 + 1), A2801, x2800.length, cp2803, x2800, A2844, y2842.length, cp2845, y2842, g_, rfl, HS2818, (by omega), HJ2799, HJ2805, HC2804, HJ2807, HO2848, HC2849, HX2852, H⟩) rfl
     rw [if_neg c2827] at H
     (try rw [(decide_eq_false c2827)])
     refine wp_cond_false rfl ?_
     refine wp_exit ?_
     (try simp only [ls0, ls1])
     refine hK2581 _ _ ?_
     (try clear hK2581 K2581)
     refine wp_seq_k fun K2854 hK2854 => ?_
     refine wp_seq_k fun K2855 hK2855 => ?_
     refine wl_region ?_
     refine st (.int .i64 0) rfl rfl (xr_assign _ rfl rfl) ?_
     refine wl_end ?_
     (try simp only [ls0, ls1])
     refine hK2855 _ _ ?_
     (try clear hK2855 K2855)
     refine wp_block ?_
     (try simp only [ls0, ls1])
     refine wp_looped (looped_fin (fun kq3038 a_ w3037 => ∃ (C3036 : Nat → Nat) (x3032 : Int) (g_ : Nat → Value), a_ = ⟨#[.slice A0 l0.length c0, (g_ 1), .pointer (some ⟨g1567, 0, none⟩), (g_ 3), (g_ 4), (g_ 5), .slice A2801 x2800.length cp2803, .pointer (some ⟨g2573, 0, none⟩), (g_ 8), .int .i64 x3032, (g_ 10), (g_ 11), (g_ 12), (g_ 13), (g_ 14), (g_ 15), (g_ 16), (g_ 17), (g_ 18), (g_ 19), (g_ 20), (g_ 21), (g_ 22), (g_ 23), (g_ 24), (g_ 25), (g_ 26), (g_ 27), (g_ 28), (g_ 29), (g_ 30), (g_ 31), (g_ 32), (g_ 33), (g_ 34), (g_ 35), (g_ 36), (g_ 37), (g_ 38), (g_ 39), (g_ 40), (g_ 41), (g_ 42), (g_ 43), (g_ 44), (g_ 45), (g_ 46), (g_ 47), (g_ 48), (g_ 49), (g_ 50), (g_ 51), (g_ 52), (g_ 53), (g_ 54), (g_ 55), (g_ 56), (g_ 57), (g_ 58), (g_ 59), (g_ 60), (g_ 61), (g_ 62), (g_ 63), (g_ 64), (g_ 65), (g_ 66), (g_ 67), (g_ 68), (g_ 69), (g_ 70), (g_ 71), (g_ 72), (g_ 73), (g_ 74), (g_ 75), (g_ 76), (g_ 77), (g_ 78), (g_ 79), (g_ 80), (g_ 81), (g_ 82), (g_ 83), (g_ 84), (g_ 85), (g_ 86), (g_ 87), (g_ 88), (g_ 89), (g_ 90), (g_ 91), (g_ 92), (g_ 93), (g_ 94), (g_ 95), (g_ 96), (g_ 97), (g_ 98), (g_ 99), (g_ 100), (g_ 101), (g_ 102), (g_ 103), (g_ 104), (g_ 105), (g_ 106)], []⟩ ∧ Step c w C3036 w3037 [] ∧ kq3038 ≤ k2824 ∧ (Ft C3036 [0] w3037 (fun w_ => k53.C w_ A0 l0.length l0)) ∧ (Ft C3036 [0] w3037 (fun w_ => Kd.string.C w_ A2801 x2800.length x2800)) ∧ (Bx C3036 11 w3037 g1567 33 ([.slice none 0 0, .slice none 0 0])) ∧ (Own C3036 14 w3037 (Kd.slice 4 Kd.bool) 74 (.slice A2809 x2808.length cp2811) x2808) ∧ (Bx C3036 13 w3037 g2573 33 ([.slice A2801 x2800.length cp2803, .slice A2809 x2808.length cp2811])) ∧ blazonref13_New.l0 kq3038 l0 x2800 x2808 x3032 = some (r1, r2, r3, r4)) ?step fun hL_ => ?init)
     case init =>
      exact jmpL (fun a_ h_ => hL_ k2824 a_ _ h_) (fun g_ => ⟨_, 0, g_, rfl, HS2818, Nat.le_refl _, HJ2799, HJ2805, HJ2807, HJ2813, HJ2814, H⟩) rfl
     case step =>
      intro kq3038 ih3041 a3042 w3037 hr3043
      obtain ⟨C3036, x3032, g_, rfl, HS3039, hk3040, HJ3030, HJ3031, HJ3033, HJ3034, HJ3035, H⟩ := hr3043
      refine looped_round ?_
      cases kq3038 with
      | zero => exact absurd H (by simp [blazonref13_New.l0])
      | succ k3044 =>
       simp only [blazonref13_New.l0] at H
       refine wp_seq_k fun K3045 hK3045 => ?_
       refine wp_seq_k fun K3046 hK3046 => ?_
       refine wl_region ?_
       refine mv_ rfl ?_
       refine mv_ rfl ?_
       refine st (.int .i64 (l0.length : Int)) rfl rfl (xr_builtin #[.slice A0 l0.length c0] (.int .i64 (l0.length : Int)) rfl (mp_ rfl) (by first | rfl | (go_simp; done) | (go_simp; rfl) | (go_simp; exact i64_w _) | (go_simp; exact i32_w _))) ?_
       refine st (.bool (decide (x3032 < (l0.length : Int)))) rfl rfl (xr_bin _ _ _ rfl rfl rfl (B.lss_i64 _ _)) ?_
       simp only [ls0, ls1]
       refine wl_end ?_
       (try simp only [ls0, ls1])
       refine hK3046 _ _ ?_
       (try clear hK3046 K3046)
       by_cases c3047 : x3032 < (l0.length : Int)
       ·rw [if_pos c3047] at H
        (try rw [(decide_eq_true c3047)])
        refine wp_cond_true rfl ?_
        refine wp_skip ?_
        (try simp only [ls0, ls1])
        refine hK3045 _ _ ?_
        (try clear hK3045 K3045)
        refine wp_seq_k fun K3048 hK3048 => ?_
        refine wp_block ?_
        refine wp_seq_k fun K3049 hK3049 => ?_
        have HQ3086 := Ft.same C3036 [14, 0] w3037
        (try simp only [ls0, ls1])
        refine al_start (lb 28 0) rfl rfl rfl (fun w_ => k53.C w_ A0 l0.length l0 ∧ Kd.string.C w_ A2801 x2800.length x2800 ∧ (Kd.slice 4 Kd.bool).C w_ A2809 x2808.length x2808 ∧ w_.heap[g2573]? = some (.cells (List.toArray ([.slice A2801 x2800.length cp2803, .slice A2809 x2808.length cp2811])) 33 (0, 0)) ∧ (∀ k_, C3036 k_ ∈ [14, 0] → k_ < (w3037).drew.heap.size → w_.heap[k_]? = (w3037).drew.heap[k_]?)) ⟨(Ft.now (HJ3030).drew), (Ft.now (HJ3031).drew), (Ft.now ((HJ3034.ft)).drew), (HJ3035.drew).2, (Ft.now (HQ3086.drew))⟩ [] ?_
        replace HJ3030 := HJ3030.drew
        replace HJ3031 := HJ3031.drew
        replace HJ3033 := HJ3033.drew
        replace HJ3035 := HJ3035.drew
        replace HJ3034 := HJ3034.drew
        replace HQ3086 := HQ3086.drew
        replace HS3039 := Step.ofDrew HS3039
        replace HQ3086 := Ft.same C3036 [14, 0] (w3037.drew)
        generalize w3037.drew = w3087 at *
        have HZ3088 := (HJ3034.ft)
        refine al_mv 0 (lb 28 1) rfl rfl (by kernel_rfl) (fun _ _ _ => id) rfl ?_
        refine al_mv 1 (lb 28 3) rfl rfl (by kernel_rfl) (fun _ _ _ => id) rfl ?_
        obtain ⟨c3089, H⟩ := if_some H
        obtain ⟨ad3090, hA3091⟩ := c_addr (Ft.now HJ3030) (pos_of (j := x3032) (by first | assumption | decide) (by first | assumption | omega))
        refine al_pure 2 78 (.pointer (some (ad3090.add ((x3032 : Int).toNat * 3)))) (lb 28 7) rfl rfl (by kernel_rfl) (fun _ _ _ => id) rfl (fun w_ => xr_indexAddr _ _ _ rfl rfl rfl (index_at Tryd.underlying22 info53 hA3091 (by first | assumption | decide | omega) (by first | assumption | decide | omega))) ?_
        refine al_pure 3 79 (.pointer (some ((ad3090.add ((x3032 : Int).toNat * 3)).add 1))) (lb 28 15) rfl rfl (by kernel_rfl) (fun _ _ _ => id) rfl (fun w_ => xr_fieldAddr _ _ rfl rfl (field_at2 Tryd.underlying53 rfl rfl (by kernel_rfl))) ?_
        simp only [ls0, ls1]
        refine al_take 4 80 (.string ((rd_T53 l0 x3032).f1)) (lb 28 31) rfl rfl (by kernel_rfl) (fun _ _ _ => id) rfl (fun w_ hS_ => xr_load (.pointer (some ((ad3090.add ((x3032 : Int).toNat * 3)).add 1))) (.string ((rd_T53 l0 x3032).f1)) rfl rfl (by obtain ⟨ad_, cs_, e_, _, hK_, hc_⟩ := Kd.C_get hS_.1 z53 x3032 (by first | assumption | decide | omega) (by first | assumption | decide | omega); rw [hA3091] at e_; injection e_ with e_; subst e_; obtain rfl := k53_open hK_; exact load_cell Tryd.underlying9 rfl (by first | (rw [add_add]; exact hc_ 1 _ rfl) | (have h_ := hc_ 1 _ rfl; rw [Nat.add_zero] at h_; exact h_)))) ⟨(Ft.now HJ3030), (Ft.now HJ3031), (Ft.now (HJ3034.ft)), (HJ3035).2, (Ft.now (HQ3086))⟩ ?_
        refine al_pure 5 81 (.bool (!decide (((rd_T53 l0 x3032).f1) = (⟨#[]⟩ : ByteArray)))) (lb 28 63) rfl rfl (by kernel_rfl) (fun _ _ _ => id) rfl (fun w_ => xr_bin _ _ _ rfl rfl rfl (B.neq_str _ _)) ?_
        refine al_mv 6 (lb 28 127) rfl rfl (by kernel_rfl) (fun _ _ _ => id) rfl ?_
        by_cases c3093 : ((rd_T53 l0 x3032).f1) = (⟨#[]⟩ : ByteArray)
        ·rw [if_pos c3093] at H
         (try rw [(decide_eq_true c3093)])
         (try simp only [Bool.not_true, Bool.not_false])
         refine al_off 7 83 (lb 28 255) rfl rfl (by kernel_rfl) (fun _ _ _ => id) (guard_off 6 true 82 rfl rfl false (by decide) rfl) ?_
         simp only [ls0, ls1]
         refine al_off 8 84 (lb 28 511) rfl rfl (by kernel_rfl) (fun _ _ _ => id) (guard_off 6 true 82 rfl rfl false (by decide) rfl) ?_
         refine al_off 9 85 (lb 28 1023) rfl rfl (by kernel_rfl) (fun _ _ _ => id) (guard_off 6 true 82 rfl rfl false (by decide) rfl) ?_
         refine al_off 10 86 (lb 28 2047) rfl rfl (by kernel_rfl) (fun _ _ _ => id) (guard_off 6 true 82 rfl rfl false (by decide) rfl) ?_
         refine al_off 11 87 (lb 28 4095) rfl rfl (by kernel_rfl) (fun _ _ _ => id) (guard_off 6 true 82 rfl rfl false (by decide) rfl) ?_
         simp only [ls0, ls1]
         refine al_off 12 88 (lb 28 8191) rfl rfl (by kernel_rfl) (fun _ _ _ => id) (guard_off 6 true 82 rfl rfl false (by decide) rfl) ?_
         refine al_off 13 89 (lb 28 16383) rfl rfl (by kernel_rfl) (fun _ _ _ => id) (guard_off 6 true 82 rfl rfl false (by decide) rfl) ?_
         refine al_off 14 90 (lb 28 32767) rfl rfl (by kernel_rfl) (fun _ _ _ => id) (guard_off 6 true 82 rfl rfl false (by decide) rfl) ?_
         refine al_off 15 91 (lb 28 65535) rfl rfl (by kernel_rfl) (fun _ _ _ => id) (guard_off 6 true 82 rfl rfl false (by decide) rfl) ?_
         simp only [ls0, ls1]
         refine al_off 16 92 (lb 28 131071) rfl rfl (by kernel_rfl) (fun _ _ _ => id) (guard_off 6 true 82 rfl rfl false (by decide) rfl) ?_
         refine al_off 17 93 (lb 28 262143) rfl rfl (by kernel_rfl) (fun _ _ _ => id) (guard_off 6 true 82 rfl rfl false (by decide) rfl) ?_
         refine al_off 18 94 (lb 28 524287) rfl rfl (by kernel_rfl) (fun _ _ _ => id) (guard_off 6 true 82 rfl rfl false (by decide) rfl) ?_
         refine al_off 19 95 (lb 28 1048575) rfl rfl (by kernel_rfl) (fun _ _ _ => id) (guard_off 6 true 82 rfl rfl false (by decide) rfl) ?_
         simp only [ls0, ls1]
         refine al_off 20 96 (lb 28 2097151) rfl rfl (by kernel_rfl) (fun _ _ _ => id) (guard_off 6 true 82 rfl rfl false (by decide) rfl) ?_
         refine al_off 21 97 (lb 28 4194303) rfl rfl (by kernel_rfl) (fun _ _ _ => id) (guard_off 6 true 82 rfl rfl false (by decide) rfl) ?_
         refine al_off 22 98 (lb 28 8388607) rfl rfl (by kernel_rfl) (fun _ _ _ => id) (guard_off 6 true 82 rfl rfl false (by decide) rfl) ?_
         refine al_off 23 99 (lb 28 16777215) rfl rfl (by kernel_rfl) (fun _ _ _ => id) (guard_off 6 true 82 rfl rfl false (by decide) rfl) ?_
         simp only [ls0, ls1]
         refine al_off 24 100 (lb 28 33554431) rfl rfl (by kernel_rfl) (fun _ _ _ => id) (guard_off 6 true 82 rfl rfl false (by decide) rfl) ?_
         refine al_off 25 101 (lb 28 67108863) rfl rfl (by kernel_rfl) (fun _ _ _ => id) (guard_off 6 true 82 rfl rfl false (by decide) rfl) ?_
         refine al_off 26 102 (lb 28 134217727) rfl rfl (by kernel_rfl) (fun _ _ _ => id) (guard_off 6 true 82 rfl rfl false (by decide) rfl) ?_
         refine al_pure 27 103 (.bool false) (lb 28 268435455) rfl rfl (by kernel_rfl) (fun _ _ _ => id) rfl (fun w_ => xr_pick false _ rfl rfl rfl) ?_
         simp only [ls0, ls1]
         refine al_end (by kernel_rfl) ?_
         (try simp only [ls0, ls1])
         refine hK3049 _ _ ?_
         (try clear hK3049 K3049)
         refine wp_cond_false rfl ?_
         refine wp_skip ?_
         (try simp only [ls0, ls1])
         refine hK3048 _ _ ?_
         (try clear hK3048 K3048)
         refine wl_region ?_
         refine mv_ rfl ?_
         refine st (.int .i64 (wrap64 (x3032 + 1))) rfl rfl (xr_bin _ _ _ rfl rfl rfl (B.add_i64 _ _)) ?_
         refine as_ rfl ?_
         refine wl_end ?_
         (try simp only [ls0, ls1])
         exact jmpL (fun a_ h_ => ih3041 k3044 (by omega) a_ _ h_) (fun g_ => ⟨_, wrap64 (x3032 + 1), g_, rfl, HS3039, (by omega), HJ3030, HJ3031, HJ3033, HJ3034, HJ3035, H⟩) rfl
        rw [if_neg c3093] at H
        (try rw [(decide_eq_false c3093)])
        (try simp only [Bool.not_true, Bool.not_false])
        refine al_pure 7 83 (.pointer (some ⟨g2573, 1, none⟩)) (lb 28 255) rfl rfl (by kernel_rfl) (fun _ _ _ => id) (guard_on 6 true 82 rfl rfl rfl) (fun w_ => xr_fieldAddr _ _ rfl rfl (bx_field2 Tryd.underlying33 rfl rfl (by kernel_rfl))) ?_
        refine al_mv 9 (lb 28 767) rfl rfl (by kernel_rfl) (fun _ _ _ => id) (guard_on 6 true 82 rfl rfl rfl) ?_
        refine al_mv 10 (lb 28 1791) rfl rfl (by kernel_rfl) (fun _ _ _ => id) (guard_on 6 true 82 rfl rfl rfl) ?_
        refine al_mv 11 (lb 28 3839) rfl rfl (by kernel_rfl) (fun _ _ _ => id) (guard_on 6 true 82 rfl rfl rfl) ?_
        simp only [ls0, ls1]
        obtain ⟨ad3094, hA3095⟩ := c_addr (Ft.now HJ3030) (pos_of (j := x3032) (by first | assumption | decide) (by first | assumption | omega))
        refine al_pure 12 88 (.pointer (some (ad3094.add ((x3032 : Int).toNat * 3)))) (lb 28 7935) rfl rfl (by kernel_rfl) (fun _ _ _ => id) (guard_on 6 true 82 rfl rfl rfl) (fun w_ => xr_indexAddr _ _ _ rfl rfl rfl (index_at Tryd.underlying22 info53 hA3095 (by first | assumption | decide | omega) (by first | assumption | decide | omega))) ?_
        refine al_pure 13 89 (.pointer (some ((ad3094.add ((x3032 : Int).toNat * 3)).add 1))) (lb 28 16127) rfl rfl (by kernel_rfl) (fun _ _ _ => id) (guard_on 6 true 82 rfl rfl rfl) (fun w_ => xr_fieldAddr _ _ rfl rfl (field_at2 Tryd.underlying53 rfl rfl (by kernel_rfl))) ?_
        refine al_mv 18 (lb 28 278271) rfl rfl (by kernel_rfl) (fun _ _ _ => id) (guard_on 6 true 82 rfl rfl rfl) ?_
        refine al_mv 19 (lb 28 802559) rfl rfl (by kernel_rfl) (fun _ _ _ => id) (guard_on 6 true 82 rfl rfl rfl) ?_
        simp only [ls0, ls1]
        refine al_mv 20 (lb 28 1851135) rfl rfl (by kernel_rfl) (fun _ _ _ => id) (guard_on 6 true 82 rfl rfl rfl) ?_
        obtain ⟨ad3096, hA3097⟩ := c_addr (Ft.now HJ3030) (pos_of (j := x3032) (by first | assumption | decide) (by first | assumption | omega))
        refine al_pure 21 97 (.pointer (some (ad3096.add ((x3032 : Int).toNat * 3)))) (lb 28 3948287) rfl rfl (by kernel_rfl) (fun _ _ _ => id) (guard_on 6 true 82 rfl rfl rfl) (fun w_ => xr_indexAddr _ _ _ rfl rfl rfl (index_at Tryd.underlying22 info53 hA3097 (by first | assumption | decide | omega) (by first | assumption | decide | omega))) ?_
        refine al_pure 22 98 (.pointer (some ((ad3096.add ((x3032 : Int).toNat * 3)).add 0))) (lb 28 8142591) rfl rfl (by kernel_rfl) (fun _ _ _ => id) (guard_on 6 true 82 rfl rfl rfl) (fun w_ => xr_fieldAddr _ _ rfl rfl (field_at2 Tryd.underlying53 rfl rfl (by kernel_rfl))) ?_
        refine al_take 8 84 (.slice A2809 x2808.length cp2811) (lb 28 8142847) rfl rfl (by kernel_rfl) (fun _ _ _ => id) (guard_on 6 true 82 rfl rfl rfl) (fun w_ hS_ => xr_load _ _ rfl rfl (load_cell Tryd.underlying31 rfl (bx_cell hS_.2.2.2.1 1 rfl))) ⟨(Ft.now HJ3030), (Ft.now HJ3031), (Ft.now (HJ3034.ft)), (HJ3035).2, (Ft.now (HQ3086))⟩ ?_
        simp only [ls0, ls1]
        refine al_take 14 90 (.string ((rd_T53 l0 x3032).f1)) (lb 28 8159231) rfl rfl (by kernel_rfl) (fun _ _ _ => id) (guard_on 6 true 82 rfl rfl rfl) (fun w_ hS_ => xr_load (.pointer (some ((ad3094.add ((x3032 : Int).toNat * 3)).add 1))) (.string ((rd_T53 l0 x3032).f1)) rfl rfl (by obtain ⟨ad_, cs_, e_, _, hK_, hc_⟩ := Kd.C_get hS_.1 z53 x3032 (by first | assumption | decide | omega) (by first | assumption | decide | omega); rw [hA3095] at e_; injection e_ with e_; subst e_; obtain rfl := k53_open hK_; exact load_cell Tryd.underlying9 rfl (by first | (rw [add_add]; exact hc_ 1 _ rfl) | (have h_ := hc_ 1 _ rfl; rw [Nat.add_zero] at h_; exact h_)))) ⟨(Ft.now HJ3030), (Ft.now HJ3031), (Ft.now (HJ3034.ft)), (HJ3035).2, (Ft.now (HQ3086))⟩ ?_
        refine al_take 23 99 (.string ((rd_T53 l0 x3032).f0)) (lb 28 16547839) rfl rfl (by kernel_rfl) (fun _ _ _ => id) (guard_on 6 true 82 rfl rfl rfl) (fun w_ hS_ => xr_load (.pointer (some ((ad3096.add ((x3032 : Int).toNat * 3)).add 0))) (.string ((rd_T53 l0 x3032).f0)) rfl rfl (by obtain ⟨ad_, cs_, e_, _, hK_, hc_⟩ := Kd.C_get hS_.1 z53 x3032 (by first | assumption | decide | omega) (by first | assumption | decide | omega); rw [hA3097] at e_; injection e_ with e_; subst e_; obtain rfl := k53_open hK_; exact load_cell Tryd.underlying9 rfl (by first | (rw [add_add]; exact hc_ 0 _ rfl) | (have h_ := hc_ 0 _ rfl; rw [Nat.add_zero] at h_; exact h_)))) ⟨(Ft.now HJ3030), (Ft.now HJ3031), (Ft.now (HJ3034.ft)), (HJ3035).2, (Ft.now (HQ3086))⟩ ?_
        obtain ⟨t3100, A3101, H⟩ := bnd H
        refine al_one 15 (lb 28 16580607) rfl rfl (by kernel_rfl) rfl (fun K_ hK_ => ?_)
        refine goes_ Tryd.func55 (by kernel_rfl) rfl #[.slice A2801 x2800.length cp2803, .string ((rd_T53 l0 x3032).f1)] (guard_on 6 true 82 rfl rfl rfl) rfl rfl (mpe_ rfl) ?_
        refine (blazonref13_Find.calls k3044 A2801 cp2803 x2800 ((rd_T53 l0 x3032).f1) t3100  (fun z_ => pal [(0, 0)] (C3036 z_)) w3087 (fun _ => pal_lt rfl _) (Ft.arg HJ3031 rfl) HC2804 A3101).mono ?_
        rintro _ w3103 ⟨C3104, rfl, hs3105⟩
        refine ⟨_, rfl, ?_⟩
        replace hs3105 := Step.lift (U := [(0, 0)]) hs3105 [] rfl rfl
        generalize up C3036 C3104 w3087.heap.size [(0, 0)] = C3104_ at hs3105
        replace HJ3030 := HJ3030.thru hs3105 rfl
        replace HJ3031 := HJ3031.thru hs3105 rfl
        replace HJ3033 := HJ3033.thru hs3105 rfl
        replace HJ3035 := HJ3035.thru hs3105 rfl
        replace HJ3034 := HJ3034.thru hs3105 rfl
        replace HQ3086 := HQ3086.thru hs3105 rfl
        replace HS3039 := HS3039.trans hs3105 hc rfl
        refine hK_ _ _ ⟨(Ft.now HJ3030), (Ft.now HJ3031), (Ft.now (HJ3034.ft)), (HJ3035).2, (Ft.now (HQ3086))⟩ ?_
        clear hK_ K_
        (try simp only [Act.put, List.setIfInBounds_toArray, ls0, ls1])
        obtain ⟨c3106, H⟩ := if_some H
        obtain ⟨c3107, H⟩ := if_some H
        obtain ⟨g3108, hA3109⟩ := HJ3034.form (pos_of (j := t3100) (by first | assumption | decide) (by first | assumption | omega))
        refine al_pure 16 92 (.pointer (some ((⟨g3108, 0, none⟩ : Addr).add ((t3100 : Int).toNat * 1)))) (lb 28 16646143) rfl rfl (by kernel_rfl) (fun _ _ _ => id) (guard_on 6 true 82 rfl rfl rfl) (fun w_ => xr_indexAddr _ _ _ rfl rfl rfl (index_at Tryd.underlying31 info74 hA3109 (by first | assumption | decide | omega) (by first | assumption | decide | omega))) ?_
        obtain ⟨csq3111, _, hKq3111, hcq3111, hinq3111, hNq3111⟩ := Ft.elem2 HZ3088 (HJ3034.ft) (Ft.now HQ3086) hA3109 [] t3100 (by first | assumption | decide | omega) (by first | assumption | decide | omega) (by decide)
        obtain ⟨Aq3111_0, cpq3111_0, rfl, HCq3111_0, HRq3111_0⟩ := slice_openF hKq3111
        replace HRq3111_0 : Ft C3104_ [14, 0] w3103 (fun w_ => Kd.bool.C w_ Aq3111_0 (rd_L20 x2808 t3100).length (rd_L20 x2808 t3100)) := HRq3111_0
        have HNq3111 : Ft C3036 [14, 0] w3087 (fun w_ => Kd.bool.C w_ Aq3111_0 (rd_L20 x2808 t3100).length (rd_L20 x2808 t3100)) := slice_at hNq3111
        refine al_take 17 93 (.slice Aq3111_0 (rd_L20 x2808 t3100).length cpq3111_0) (lb 28 16777215) rfl rfl (by kernel_rfl) (fun _ _ _ => id) (guard_on 6 true 82 rfl rfl rfl) (fun w_ hS_ => xr_load (.pointer (some ((⟨g3108, 0, none⟩ : Addr).add ((t3100 : Int).toNat * 1)))) (.slice Aq3111_0 (rd_L20 x2808 t3100).length cpq3111_0) rfl rfl (load_cell Tryd.underlying74 rfl (by have h_ := (same_cell hS_.2.2.2.2 hinq3111 (add2_block _ _ _) (hcq3111 0 _ rfl)); rw [add_zero_] at h_; exact h_))) ⟨(Ft.now HJ3030), (Ft.now HJ3031), (Ft.now (HJ3034.ft)), (HJ3035).2, (Ft.now (HQ3086))⟩ ?_
        obtain ⟨t3112, A3113, H⟩ := bnd H
        refine al_one 24 (lb 28 33554431) rfl rfl (by kernel_rfl) rfl (fun K_ hK_ => ?_)
        refine goes_ Tryd.func55 (by kernel_rfl) rfl #[.slice A2801 x2800.length cp2803, .string ((rd_T53 l0 x3032).f0)] (guard_on 6 true 82 rfl rfl rfl) rfl rfl (mpe_ rfl) ?_
        refine (blazonref13_Find.calls k3044 A2801 cp2803 x2800 ((rd_T53 l0 x3032).f0) t3112  (fun z_ => pal [(0, 0)] (C3104_ z_)) w3103 (fun _ => pal_lt rfl _) (Ft.arg HJ3031 rfl) HC2804 A3113).mono ?_
        rintro _ w3115 ⟨C3116, rfl, hs3117⟩
        refine ⟨_, rfl, ?_⟩
        replace hs3117 := Step.lift (U := [(0, 0)]) hs3117 [] rfl rfl
        generalize up C3104_ C3116 w3103.heap.size [(0, 0)] = C3116_ at hs3117
        replace HJ3030 := HJ3030.thru hs3117 rfl
        replace HJ3031 := HJ3031.thru hs3117 rfl
        replace HJ3033 := HJ3033.thru hs3117 rfl
        replace HJ3035 := HJ3035.thru hs3117 rfl
        replace HJ3034 := HJ3034.thru hs3117 rfl
        replace HQ3086 := HQ3086.thru hs3117 rfl
        replace HRq3111_0 := HRq3111_0.thru hs3117 rfl
        replace HS3039 := HS3039.trans hs3117 hc rfl
        refine hK_ _ _ ⟨(Ft.now HJ3030), (Ft.now HJ3031), (Ft.now (HJ3034.ft)), (HJ3035).2, (Ft.now (HQ3086))⟩ ?_
        clear hK_ K_
        (try simp only [Act.put, List.setIfInBounds_toArray, ls0, ls1])
        obtain ⟨c3118, H⟩ := if_some H
        obtain ⟨c3119, H⟩ := if_some H
        obtain ⟨ad3120, hA3121⟩ := c_addr (Ft.now HRq3111_0) (pos_of (j := t3112) (by first | assumption | decide) (by first | assumption | omega))
        refine al_pure 25 101 (.pointer (some (ad3120.add ((t3112 : Int).toNat * 1)))) (lb 28 67108863) rfl rfl (by kernel_rfl) (fun _ _ _ => id) (guard_on 6 true 82 rfl rfl rfl) (fun w_ => xr_indexAddr _ _ _ rfl rfl rfl (index_at Tryd.underlying74 info4 hA3121 (by first | assumption | decide | omega) (by first | assumption | decide | omega))) ?_
        refine al_take 26 102 (.bool (rdOf false (rd_L20 x2808 t3100) t3112)) (lb 28 134217727) rfl rfl (by kernel_rfl) (fun _ _ _ => id) (guard_on 6 true 82 rfl rfl rfl) (fun w_ hS_ => xr_load _ _ rfl rfl (load_bool Tryd.underlying4 rfl hA3121 (HNq3111 _ (hS_.2.2.2.2)) (by first | assumption | decide | omega) (by first | assumption | decide | omega))) ⟨(Ft.now HJ3030), (Ft.now HJ3031), (Ft.now (HJ3034.ft)), (HJ3035).2, (Ft.now (HQ3086))⟩ ?_
        refine al_pure 27 103 (.bool (rdOf false (rd_L20 x2808 t3100) t3112)) (lb 28 268435455) rfl rfl (by kernel_rfl) (fun _ _ _ => id) rfl (fun w_ => xr_pick true _ rfl rfl rfl) ?_
        refine al_end (by kernel_rfl) ?_
        (try simp only [ls0, ls1])
        refine hK3049 _ _ ?_
        (try clear hK3049 K3049)
        by_cases c3122 : rdOf false (rd_L20 x2808 t3100) t3112 = true
        ·rw [if_pos c3122] at H
         (try rw [c3122])
         refine wp_cond_true rfl ?_
         refine wp_seq_k fun K3123 hK3123 => ?_
         refine wl_region ?_
         refine st (.agg #[.slice none 0 0, .slice none 0 0]) rfl rfl (xr_build #[] (.agg #[.slice none 0 0, .slice none 0 0]) rfl (mp_ rfl) (by first | rfl | (go_simp; done) | (go_simp; rfl) | (go_simp; exact i64_w _) | (go_simp; exact i32_w _))) ?_
         refine mv_ rfl ?_
         refine bx_store (C := C3116_) (z := 11) (g := g1567) (j := 0) (tb := 33) (u := .agg #[.slice none 0 0, .slice none 0 0]) (seg := [.slice none 0 0, .slice none 0 0]) (xs := [.slice none 0 0, .slice none 0 0]) rfl rfl rfl rfl rfl rfl (by first | kernel_rfl | rfl) (by simp [Value.oneCell']) HJ3033 (by simp only [List.length_cons, List.length_nil]; omega) rfl ?_
         intro w3124 HX3125 hs3126
         replace HJ3031 := HJ3031.thru hs3126 rfl
         replace HJ3035 := HJ3035.thru hs3126 rfl
         replace HJ3034 := HJ3034.thru hs3126 rfl
         replace HQ3086 := HQ3086.thru hs3126 rfl
         replace HS3039 := HS3039.trans hs3126 hc rfl
         (try simp only [ls0, ls1])
         refine as_ rfl ?_
         refine st (.int .i64 16) rfl rfl (xr_assign _ rfl rfl) ?_
         refine wl_end ?_
         (try simp only [ls0, ls1])
         refine hK3123 _ _ ?_
         (try clear hK3123 K3123)
         refine wp_ret ?_
         (try simp only [Exit.inBlock, Exit.then, Exit.noGoto])
         (try simp only [ls0, ls1])
         simp only [Option.some.injEq, Prod.mk.injEq] at H
         obtain ⟨rfl, rfl, rfl, rfl⟩ := H
         refine bodyPost_ret (res_ctt rfl rfl (load_of (load_agg (cs := [.slice none 0 0, .slice none 0 0]) Tryd.underlying33 rfl (by kernel_rfl) (bx_cells (HX3125).2 0 rfl)))) rfl ?_
         exact ⟨_, none, 0, none, 0, rfl, HS3039, (Kd.F_nil _ _ _), (Nat.le_refl 0), (Own.nil _ _ _ _ _), (Nat.le_refl 0)⟩
        rw [if_neg c3122] at H
        (try rw [(Bool.eq_false_iff.mpr c3122)])
        refine wp_cond_false rfl ?_
        refine wp_skip ?_
        (try simp only [ls0, ls1])
        refine hK3048 _ _ ?_
        (try clear hK3048 K3048)
        refine wl_region ?_
        refine mv_ rfl ?_
        refine st (.int .i64 (wrap64 (x3032 + 1))) rfl rfl (xr_bin _ _ _ rfl rfl rfl (B.add_i64 _ _)) ?_
        refine as_ rfl ?_
        refine wl_end ?_
        (try simp only [ls0, ls1])
        exact jmpL (fun a_ h_ => ih3041 k3044 (by omega) a_ _ h_) (fun g_ => ⟨_, wrap64 (x3032 + 1), g_, rfl, HS3039, (by omega), HJ3030, HJ3031, HJ3033, HJ3034, HJ3035, H⟩) rfl
       rw [if_neg c3047] at H
       (try rw [(decide_eq_false c3047)])
       refine wp_cond_false rfl ?_
       refine wp_exit ?_
       (try simp only [ls0, ls1])
       refine hK2854 _ _ ?_
       (try clear hK2854 K2854)
       refine wp_seq_k fun K3127 hK3127 => ?_
       refine wl_region ?_
       refine st (.agg #[.slice A2801 x2800.length cp2803, .slice A2809 x2808.length cp2811]) rfl rfl (xr_load _ _ rfl rfl (load_agg (cs := [.slice A2801 x2800.length cp2803, .slice A2809 x2808.length cp2811]) Tryd.underlying33 rfl (by kernel_rfl) (bx_cells (HJ3035).2 0 rfl))) ?_
       refine bx_store (C := C3036) (z := 11) (g := g1567) (j := 0) (tb := 33) (u := .agg #[.slice A2801 x2800.length cp2803, .slice A2809 x2808.length cp2811]) (seg := [.slice A2801 x2800.length cp2803, .slice A2809 x2808.length cp2811]) (xs := [.slice none 0 0, .slice none 0 0]) rfl rfl rfl rfl rfl rfl (by first | kernel_rfl | rfl) (by simp [Value.oneCell']) HJ3033 (by simp only [List.length_cons, List.length_nil]; omega) rfl ?_
       intro w3128 HX3129 hs3130
       replace HJ3031 := HJ3031.thru hs3130 rfl
       replace HJ3034 := HJ3034.thru hs3130 rfl
       replace HJ3035 := HJ3035.thru hs3130 rfl
       replace HS3039 := HS3039.trans hs3130 hc rfl
       (try simp only [ls0, ls1])
       refine st (.int .i64 0) rfl rfl (xr_assign _ rfl rfl) ?_
       refine st (.int .i64 0) rfl rfl (xr_assign _ rfl rfl) ?_
       refine wl_end ?_
       (try simp only [ls0, ls1])
       refine hK3127 _ _ ?_
       (try clear hK3127 K3127)
       refine wp_ret ?_
       (try simp only [Exit.inBlock, Exit.then, Exit.noGoto])
       (try simp only [ls0, ls1])
       replace HJ3031 := Ft.recol (a := 14) (b := 6) HJ3031 (.inl rfl)
       replace HX3129 := Bx.recol (a := 14) (b := 6) HX3129 (by decide)
       replace HJ3034 := Own.recolor (b := 6) HJ3034 (by decide)
       replace HJ3035 := Bx.recol (a := 14) (b := 6) HJ3035 (by decide)
       replace HS3039 := Step.recol (a := 14) (b := 6) HS3039 hc (by decide)
       simp only [Option.some.injEq, Prod.mk.injEq] at H
       obtain ⟨rfl, rfl, rfl, rfl⟩ := H
       refine bodyPost_ret (res_ctt rfl rfl (load_of (load_agg (cs := [.slice A2801 x2800.length cp2803, .slice A2809 x2808.length cp2811]) Tryd.underlying33 rfl (by kernel_rfl) (bx_cells (HX3129).2 0 rfl)))) rfl ?_
       exact ⟨_, A2801, cp2803, A2809, cp2811, rfl, HS3039, HJ3031, HC2804, HJ3034, HC2812⟩

end Go.Proofs.YtpfepkkpbampkaaDoor.PLnw
