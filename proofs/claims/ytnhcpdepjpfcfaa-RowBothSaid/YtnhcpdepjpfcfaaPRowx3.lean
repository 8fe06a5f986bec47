-- By cprint.py, a program of this work. Lean checks it.
import Derived.Test.YtnhcpdepjpfcfaaPRowx0
import Derived.Test.YtnhcpdepjpfcfaaPRowx2
namespace Go.Proofs.Ytnhcpdepjpfcfaa.PRow
open Go.RowKit Go.Proofs.YtnhcpdepjpfcfaaW.PrintWords Go.Proofs.YtnhcpdepjpfcfaaW.PrintLast Go.Proofs.YtnhcpdepjpfcfaaW.PrintMore
set_option linter.unusedVariables false
set_option linter.unusedSimpArgs false

/-! ### blazonlaw16_awake: function 13 -/
def blazonlaw16_awake.f (k : Nat)  : Option (Bool) := (some ([(⟨(⟨#[110, 101, 116]⟩ : ByteArray), 0⟩ : S25), (⟨(⟨#[108, 111, 103]⟩ : ByteArray), 0⟩ : S25)] : List (S25))).bind fun y1770 => ((row_New.f k y1770).bind fun bt1780 => ((some ([(⟨(⟨#[108, 111, 103]⟩ : ByteArray), 0⟩ : S25)] : List (S25))).bind fun y1791 => ((row_Table_Set.f k bt1780.1 y1791).bind fun bt1800 => ((row_Table_Names.f k bt1780.1 3).bind fun t1809 => (if bt1780.2.2 = 0 then (if bt1800.2.2 = 0 then (if bt1800.1 = 2 then (if (t1809.length : Int) = 2 then (if 0 < (t1809.length : Int) then (if (rdOf ByteArray.empty t1809 0) = (⟨#[110, 101, 116]⟩ : ByteArray) then (if 1 < (t1809.length : Int) then (some (decide ((rdOf ByteArray.empty t1809 1) = (⟨#[108, 111, 103]⟩ : ByteArray)))) else (none)) else (some false)) else (none)) else (some false)) else (some false)) else (some false)) else (some false))))))

set_option maxHeartbeats 2000000 in
set_option maxRecDepth 100000 in
theorem blazonlaw16_awake.calls (k : Nat)  (r : Bool) (c : Nat → Nat) (w : World) (hc : ∀ k, c k < 10)  (H : blazonlaw16_awake.f k = some r) :
    Calls Try.prog 13 #[] w fun e w' => ∃ (c' : Nat → Nat) , e = .returned (.bool r) ∧ Step c w c' w' [] := by
  unfold blazonlaw16_awake.f at H
  have HS := Step.refl c w []
  go_enter Try.func13, Try.ntmps13
  refine wp_seq_k fun K1768 hK1768 => ?_
  refine wl_region ?_
  refine st (.bool false) rfl rfl (xr_assign (.bool false) rfl rfl) ?_
  simp only [ls0, ls1]
  refine wl_end ?_
  (try simp only [Act.put, List.setIfInBounds_toArray, ls0, ls1])
  refine hK1768 _ _ ?_
  (try clear hK1768 K1768)
  refine wp_seq_k fun K1769 hK1769 => ?_
  refine wl_region ?_
  refine st (.agg #[.string (⟨#[110, 101, 116]⟩ : ByteArray), .int .i64 0]) rfl rfl (xr_build #[(0, .string (⟨#[110, 101, 116]⟩ : ByteArray))] (.agg #[.string (⟨#[110, 101, 116]⟩ : ByteArray), .int .i64 0]) rfl (by simp only [List.map_toArray, List.map_cons, List.map_nil]; first | done | rfl) (by first | rfl | (go_simp; done) | (go_simp; rfl) | (go_simp; exact i64_w _) | (go_simp; exact i32_w _))) ?_
  simp only [ls0, ls1]
  refine st (.agg #[.string (⟨#[108, 111, 103]⟩ : ByteArray), .int .i64 0]) rfl rfl (xr_build #[(0, .string (⟨#[108, 111, 103]⟩ : ByteArray))] (.agg #[.string (⟨#[108, 111, 103]⟩ : ByteArray), .int .i64 0]) rfl (by simp only [List.map_toArray, List.map_cons, List.map_nil]; first | done | rfl) (by first | rfl | (go_simp; done) | (go_simp; rfl) | (go_simp; exact i64_w _) | (go_simp; exact i32_w _))) ?_
  simp only [ls0, ls1]
  obtain ⟨y1770, A1771, H⟩ := Option.bind_eq_some_iff.mp H
  (try dsimp only at H)
  refine Own.lit k25 (C := c) (i := 11) rfl 25 rfl (xs := [(⟨(⟨#[110, 101, 116]⟩ : ByteArray), 0⟩ : S25), (⟨(⟨#[108, 111, 103]⟩ : ByteArray), 0⟩ : S25)]) (inner := [.string (⟨#[110, 101, 116]⟩ : ByteArray), .int .i64 0, .string (⟨#[108, 111, 103]⟩ : ByteArray), .int .i64 0]) (by first | (go_simp; done) | (go_simp; rfl)) (reps_cons (k25_mkF _ _ (⟨(⟨#[110, 101, 116]⟩ : ByteArray), 0⟩ : S25)) rfl (reps_cons (k25_mkF _ _ (⟨(⟨#[108, 111, 103]⟩ : ByteArray), 0⟩ : S25)) rfl (Reps.none _ _))) (by simp only [List.length_cons, List.length_nil]; omega) (Option.some.inj A1771) ?_
  intro A1772 cp1773 w1774 C1775 HO1776 HC1777 hs1778
  replace HS := HS.trans hs1778 hc rfl
  (try simp only [Act.put, List.setIfInBounds_toArray, ls0, ls1])
  have HR1779 := Ft.recolor (a := 11) (b := 0) (HO1776.ft) [0] rfl
  replace HS := Step.recol (a := 11) (b := 0) HS hc (by decide)
  obtain ⟨⟨t1780, t1781, t1782⟩, A1783, H⟩ := Option.bind_eq_some_iff.mp H
  (try dsimp only at H)
  refine st_call #[.slice A1772 y1770.length cp1773] rfl rfl Try.func12 (by kernel_rfl) rfl rfl (by simp only [List.map_toArray, List.map_cons, List.map_nil]; first | done | rfl) ?_
  refine (row_New.calls k A1772 cp1773 y1770 t1780 t1781 t1782  (fun z_ => pal [(0, 0)] ((recol C1775 11 0) z_)) w1774 (fun _ => pal_lt rfl _) (Ft.arg HR1779 rfl) HC1777 A1783).mono ?_
  rintro _ w1785 ⟨C1786, v1788, rfl, hs1787, HB1789⟩
  refine ⟨_, rfl, ?_⟩
  replace HB1789 := Ft.res (U := [(0, 0)]) HB1789 hs1787 [0] rfl rfl rfl
  replace hs1787 := Step.lift (U := [(0, 0)]) hs1787 [] rfl rfl
  generalize up (recol C1775 11 0) C1786 w1774.heap.size [(0, 0)] = C1786_ at HB1789 hs1787
  replace HS := HS.trans hs1787 hc rfl
  (try simp only [Act.put, List.setIfInBounds_toArray, ls0, ls1])
  refine st (.tuple #[v1788, .int .i64 t1781, .int .i64 t1782]) rfl rfl (xr_move (.tuple #[v1788, .int .i64 t1781, .int .i64 t1782]) rfl rfl) ?_
  simp only [ls0, ls1]
  refine st (v1788) rfl rfl (xr_extract (.tuple #[v1788, .int .i64 t1781, .int .i64 t1782]) (v1788) rfl rfl rfl) ?_
  simp only [ls0, ls1]
  refine st (.int .i64 t1781) rfl rfl (xr_extract (.tuple #[v1788, .int .i64 t1781, .int .i64 t1782]) (.int .i64 t1781) rfl rfl rfl) ?_
  simp only [ls0, ls1]
  refine st (.int .i64 t1782) rfl rfl (xr_extract (.tuple #[v1788, .int .i64 t1781, .int .i64 t1782]) (.int .i64 t1782) rfl rfl rfl) ?_
  simp only [ls0, ls1]
  refine st (v1788) rfl rfl (xr_assign (v1788) rfl rfl) ?_
  simp only [ls0, ls1]
  refine st (.int .i64 t1781) rfl rfl (xr_assign (.int .i64 t1781) rfl rfl) ?_
  simp only [ls0, ls1]
  refine st (.int .i64 t1782) rfl rfl (xr_assign (.int .i64 t1782) rfl rfl) ?_
  simp only [ls0, ls1]
  refine wl_end ?_
  (try simp only [Act.put, List.setIfInBounds_toArray, ls0, ls1])
  refine hK1769 _ _ ?_
  (try clear hK1769 K1769)
  refine wp_seq_k fun K1790 hK1790 => ?_
  refine wl_region ?_
  refine st (v1788) rfl rfl (xr_move (v1788) rfl rfl) ?_
  simp only [ls0, ls1]
  refine st (.agg #[.string (⟨#[108, 111, 103]⟩ : ByteArray), .int .i64 0]) rfl rfl (xr_build #[(0, .string (⟨#[108, 111, 103]⟩ : ByteArray))] (.agg #[.string (⟨#[108, 111, 103]⟩ : ByteArray), .int .i64 0]) rfl (by simp only [List.map_toArray, List.map_cons, List.map_nil]; first | done | rfl) (by first | rfl | (go_simp; done) | (go_simp; rfl) | (go_simp; exact i64_w _) | (go_simp; exact i32_w _))) ?_
  simp only [ls0, ls1]
  obtain ⟨y1791, A1792, H⟩ := Option.bind_eq_some_iff.mp H
  (try dsimp only at H)
  refine Own.lit k25 (C := C1786_) (i := 12) rfl 25 rfl (xs := [(⟨(⟨#[108, 111, 103]⟩ : ByteArray), 0⟩ : S25)]) (inner := [.string (⟨#[108, 111, 103]⟩ : ByteArray), .int .i64 0]) (by first | (go_simp; done) | (go_simp; rfl)) (reps_cons (k25_mkF _ _ (⟨(⟨#[108, 111, 103]⟩ : ByteArray), 0⟩ : S25)) rfl (Reps.none _ _)) (by simp only [List.length_cons, List.length_nil]; omega) (Option.some.inj A1792) ?_
  intro A1793 cp1794 w1795 C1796 HO1797 HC1798 hs1799
  replace HB1789 := HB1789.thru hs1799 rfl
  replace HS := HS.trans hs1799 hc rfl
  (try simp only [Act.put, List.setIfInBounds_toArray, ls0, ls1])
  obtain ⟨⟨t1800, t1801, t1802⟩, A1803, H⟩ := Option.bind_eq_some_iff.mp H
  (try dsimp only at H)
  refine st_call #[v1788, .slice A1793 y1791.length cp1794] rfl rfl Try.func16 (by kernel_rfl) rfl rfl (by simp only [List.map_toArray, List.map_cons, List.map_nil]; first | done | rfl) ?_
  refine (row_Table_Set.calls k v1788 t1780 A1793 cp1794 y1791 t1800 t1801 t1802  (fun z_ => pal [(0, 0), (12, 0)] (C1796 z_)) w1795 (fun _ => pal_lt rfl _) (Ft.arg HB1789 rfl) (Ft.arg (HO1797.ft) rfl) HC1798 A1803).mono ?_
  rintro _ w1805 ⟨C1806, rfl, hs1807⟩
  refine ⟨_, rfl, ?_⟩
  replace hs1807 := Step.lift (U := [(0, 0)]) hs1807 [] rfl rfl
  generalize up C1796 C1806 w1795.heap.size [(0, 0)] = C1806_ at hs1807
  replace HB1789 := HB1789.thru hs1807 rfl
  replace HS := HS.trans hs1807 hc rfl
  (try simp only [Act.put, List.setIfInBounds_toArray, ls0, ls1])
  refine st (.tuple #[.int .u64 t1800, .int .i64 t1801, .int .i64 t1802]) rfl rfl (xr_move (.tuple #[.int .u64 t1800, .int .i64 t1801, .int .i64 t1802]) rfl rfl) ?_
  simp only [ls0, ls1]
  refine st (.int .u64 t1800) rfl rfl (xr_extract (.tuple #[.int .u64 t1800, .int .i64 t1801, .int .i64 t1802]) (.int .u64 t1800) rfl rfl rfl) ?_
  simp only [ls0, ls1]
  refine st (.int .i64 t1801) rfl rfl (xr_extract (.tuple #[.int .u64 t1800, .int .i64 t1801, .int .i64 t1802]) (.int .i64 t1801) rfl rfl rfl) ?_
  simp only [ls0, ls1]
  refine st (.int .i64 t1802) rfl rfl (xr_extract (.tuple #[.int .u64 t1800, .int .i64 t1801, .int .i64 t1802]) (.int .i64 t1802) rfl rfl rfl) ?_
  simp only [ls0, ls1]
  refine st (.int .u64 t1800) rfl rfl (xr_assign (.int .u64 t1800) rfl rfl) ?_
  simp only [ls0, ls1]
  refine st (.int .i64 t1801) rfl rfl (xr_assign (.int .i64 t1801) rfl rfl) ?_
  simp only [ls0, ls1]
  refine st (.int .i64 t1802) rfl rfl (xr_assign (.int .i64 t1802) rfl rfl) ?_
  simp only [ls0, ls1]
  refine wl_end ?_
  (try simp only [Act.put, List.setIfInBounds_toArray, ls0, ls1])
  refine hK1790 _ _ ?_
  (try clear hK1790 K1790)
  refine wp_seq_k fun K1808 hK1808 => ?_
  refine wl_region ?_
  refine st (v1788) rfl rfl (xr_move (v1788) rfl rfl) ?_
  simp only [ls0, ls1]
  obtain ⟨t1809, A1810, H⟩ := Option.bind_eq_some_iff.mp H
  (try dsimp only at H)
  refine st_call #[v1788, .int .u64 3] rfl rfl Try.func17 (by kernel_rfl) rfl rfl (by simp only [List.map_toArray, List.map_cons, List.map_nil]; first | done | rfl) ?_
  refine (row_Table_Names.calls k v1788 t1780 3 t1809  (fun z_ => pal [(0, 0)] (C1806_ z_)) w1805 (fun _ => pal_lt rfl _) (Ft.arg HB1789 rfl) A1810).mono ?_
  rintro _ w1812 ⟨C1813, A1815, cp1816, rfl, hs1814, HO1817, HC1818⟩
  refine ⟨_, rfl, ?_⟩
  replace HO1817 := Own.res (U := [(0, 0), (5, 13)]) (j := 13) HO1817 hs1814 (by rfl) (by decide) rfl rfl
  replace hs1814 := Step.lift (U := [(0, 0), (5, 13)]) hs1814 [] rfl rfl
  generalize up C1806_ C1813 w1805.heap.size [(0, 0), (5, 13)] = C1813_ at HO1817 hs1814
  replace HS := HS.trans hs1814 hc rfl
  (try simp only [Act.put, List.setIfInBounds_toArray, ls0, ls1])
  refine st (.slice A1815 t1809.length cp1816) rfl rfl (xr_assign (.slice A1815 t1809.length cp1816) rfl rfl) ?_
  simp only [ls0, ls1]
  refine wl_end ?_
  (try simp only [Act.put, List.setIfInBounds_toArray, ls0, ls1])
  refine hK1808 _ _ ?_
  (try clear hK1808 K1808)
  refine wp_seq_k fun K1819 hK1819 => ?_
  refine wl_region ?_
  refine st (.int .i64 t1782) rfl rfl (xr_move (.int .i64 t1782) rfl rfl) ?_
  simp only [ls0, ls1]
  refine st (.bool (decide (t1782 = 0))) rfl rfl (xr_bin (.int .i64 t1782) (.int .i64 0) (.bool (decide (t1782 = 0))) rfl rfl rfl (B.eql_i64 t1782 0)) ?_
  simp only [ls0, ls1]
  refine st (.bool (decide (t1782 = 0))) rfl rfl (xr_move (.bool (decide (t1782 = 0))) rfl rfl) ?_
  simp only [ls0, ls1]
  by_cases c1820 : t1782 = 0
  · rw [if_pos c1820] at H
    (try rw [(decide_eq_true c1820)])
    (try simp only [Bool.not_true, Bool.not_false])
    refine on_guard (guard_on 2 true 28 rfl rfl rfl) ?_
    refine st (.int .i64 t1802) rfl rfl (xr_move (.int .i64 t1802) rfl rfl) ?_
    simp only [ls0, ls1]
    refine on_guard (guard_on 2 true 28 rfl rfl rfl) ?_
    refine st (.bool (decide (t1802 = 0))) rfl rfl (xr_bin (.int .i64 t1802) (.int .i64 0) (.bool (decide (t1802 = 0))) rfl rfl rfl (B.eql_i64 t1802 0)) ?_
    simp only [ls0, ls1]
    refine st (.bool (decide (t1802 = 0))) rfl rfl (xr_pick true (.bool (decide (t1802 = 0))) rfl rfl rfl) ?_
    simp only [ls0, ls1]
    refine st (.bool (decide (t1802 = 0))) rfl rfl (xr_move (.bool (decide (t1802 = 0))) rfl rfl) ?_
    simp only [ls0, ls1]
    by_cases c1821 : t1802 = 0
    · rw [if_pos c1821] at H
      (try rw [(decide_eq_true c1821)])
      (try simp only [Bool.not_true, Bool.not_false])
      refine on_guard (guard_on 6 true 32 rfl rfl rfl) ?_
      refine st (.int .u64 t1800) rfl rfl (xr_move (.int .u64 t1800) rfl rfl) ?_
      simp only [ls0, ls1]
      refine on_guard (guard_on 6 true 32 rfl rfl rfl) ?_
      refine st (.bool (decide (t1800 = 2))) rfl rfl (xr_bin (.int .u64 t1800) (.int .u64 2) (.bool (decide (t1800 = 2))) rfl rfl rfl (B.eql_u64 t1800 2)) ?_
      simp only [ls0, ls1]
      refine st (.bool (decide (t1800 = 2))) rfl rfl (xr_pick true (.bool (decide (t1800 = 2))) rfl rfl rfl) ?_
      simp only [ls0, ls1]
      refine st (.bool (decide (t1800 = 2))) rfl rfl (xr_move (.bool (decide (t1800 = 2))) rfl rfl) ?_
      simp only [ls0, ls1]
      by_cases c1822 : t1800 = 2
      · rw [if_pos c1822] at H
        (try rw [(decide_eq_true c1822)])
        (try simp only [Bool.not_true, Bool.not_false])
        refine on_guard (guard_on 10 true 36 rfl rfl rfl) ?_
        refine st (.slice A1815 t1809.length cp1816) rfl rfl (xr_move (.slice A1815 t1809.length cp1816) rfl rfl) ?_
        simp only [ls0, ls1]
        refine on_guard (guard_on 10 true 36 rfl rfl rfl) ?_
        refine st (.int .i64 (t1809.length : Int)) rfl rfl (xr_builtin #[.slice A1815 t1809.length cp1816] (.int .i64 (t1809.length : Int)) rfl (by simp only [List.map_toArray, List.map_cons, List.map_nil]; first | done | rfl) (by first | rfl | (go_simp; done) | (go_simp; rfl) | (go_simp; exact i64_w _) | (go_simp; exact i32_w _))) ?_
        simp only [ls0, ls1]
        refine on_guard (guard_on 10 true 36 rfl rfl rfl) ?_
        refine st (.bool (decide ((t1809.length : Int) = 2))) rfl rfl (xr_bin (.int .i64 (t1809.length : Int)) (.int .i64 2) (.bool (decide ((t1809.length : Int) = 2))) rfl rfl rfl (B.eql_i64 (t1809.length : Int) 2)) ?_
        simp only [ls0, ls1]
        refine st (.bool (decide ((t1809.length : Int) = 2))) rfl rfl (xr_pick true (.bool (decide ((t1809.length : Int) = 2))) rfl rfl rfl) ?_
        simp only [ls0, ls1]
        refine st (.bool (decide ((t1809.length : Int) = 2))) rfl rfl (xr_move (.bool (decide ((t1809.length : Int) = 2))) rfl rfl) ?_
        simp only [ls0, ls1]
        by_cases c1823 : (t1809.length : Int) = 2
        · rw [if_pos c1823] at H
          (try rw [(decide_eq_true c1823)])
          (try simp only [Bool.not_true, Bool.not_false])
          refine on_guard (guard_on 15 true 41 rfl rfl rfl) ?_
          refine st (.slice A1815 t1809.length cp1816) rfl rfl (xr_move (.slice A1815 t1809.length cp1816) rfl rfl) ?_
          simp only [ls0, ls1]
          refine on_guard (guard_on 15 true 41 rfl rfl rfl) ?_
          by_cases c1824 : 0 < (t1809.length : Int)
          · rw [if_pos c1824] at H
            obtain ⟨g1825, hA1826⟩ := HO1817.form (pos_of (j := 0) (by first | assumption | decide) (by first | assumption | omega))
            refine st (.pointer (some ((⟨g1825, 0, none⟩ : Addr).add ((0 : Int).toNat * 1)))) rfl rfl (xr_indexAddr (.slice A1815 t1809.length cp1816) (.int .i64 0) (.pointer (some ((⟨g1825, 0, none⟩ : Addr).add ((0 : Int).toNat * 1)))) rfl rfl rfl (index_at Try.underlying37 info9 hA1826 (by first | assumption | decide | omega) (by first | assumption | decide | omega))) ?_
            simp only [ls0, ls1]
            refine on_guard (guard_on 15 true 41 rfl rfl rfl) ?_
            refine st (.string (rdOf ByteArray.empty t1809 0)) rfl rfl (xr_load (.pointer (some ((⟨g1825, 0, none⟩ : Addr).add ((0 : Int).toNat * 1)))) (.string (rdOf ByteArray.empty t1809 0)) rfl rfl (load_str Try.underlying9 rfl hA1826 (Ft.now (HO1817.ft)) (by first | assumption | decide | omega) (by first | assumption | decide | omega))) ?_
            simp only [ls0, ls1]
            refine on_guard (guard_on 15 true 41 rfl rfl rfl) ?_
            refine st (.bool (decide ((rdOf ByteArray.empty t1809 0) = (⟨#[110, 101, 116]⟩ : ByteArray)))) rfl rfl (xr_bin (.string (rdOf ByteArray.empty t1809 0)) (.string (⟨#[110, 101, 116]⟩ : ByteArray)) (.bool (decide ((rdOf ByteArray.empty t1809 0) = (⟨#[110, 101, 116]⟩ : ByteArray)))) rfl rfl rfl (B.eql_str (rdOf ByteArray.empty t1809 0) (⟨#[110, 101, 116]⟩ : ByteArray))) ?_
            simp only [ls0, ls1]
            refine st (.bool (decide ((rdOf ByteArray.empty t1809 0) = (⟨#[110, 101, 116]⟩ : ByteArray)))) rfl rfl (xr_pick true (.bool (decide ((rdOf ByteArray.empty t1809 0) = (⟨#[110, 101, 116]⟩ : ByteArray)))) rfl rfl rfl) ?_
            simp only [ls0, ls1]
            refine st (.bool (decide ((rdOf ByteArray.empty t1809 0) = (⟨#[110, 101, 116]⟩ : ByteArray)))) rfl rfl (xr_move (.bool (decide ((rdOf ByteArray.empty t1809 0) = (⟨#[110, 101, 116]⟩ : ByteArray)))) rfl rfl) ?_
            simp only [ls0, ls1]
            by_cases c1827 : (rdOf ByteArray.empty t1809 0) = (⟨#[110, 101, 116]⟩ : ByteArray)
            · rw [if_pos c1827] at H
              (try rw [(decide_eq_true c1827)])
              (try simp only [Bool.not_true, Bool.not_false])
              refine on_guard (guard_on 21 true 47 rfl rfl rfl) ?_
              refine st (.slice A1815 t1809.length cp1816) rfl rfl (xr_move (.slice A1815 t1809.length cp1816) rfl rfl) ?_
              simp only [ls0, ls1]
              refine on_guard (guard_on 21 true 47 rfl rfl rfl) ?_
              by_cases c1828 : 1 < (t1809.length : Int)
              · rw [if_pos c1828] at H
                obtain ⟨g1829, hA1830⟩ := HO1817.form (pos_of (j := 1) (by first | assumption | decide) (by first | assumption | omega))
                refine st (.pointer (some ((⟨g1829, 0, none⟩ : Addr).add ((1 : Int).toNat * 1)))) rfl rfl (xr_indexAddr (.slice A1815 t1809.length cp1816) (.int .i64 1) (.pointer (some ((⟨g1829, 0, none⟩ : Addr).add ((1 : Int).toNat * 1)))) rfl rfl rfl (index_at Try.underlying37 info9 hA1830 (by first | assumption | decide | omega) (by first | assumption | decide | omega))) ?_
                simp only [ls0, ls1]
                refine on_guard (guard_on 21 true 47 rfl rfl rfl) ?_
                refine st (.string (rdOf ByteArray.empty t1809 1)) rfl rfl (xr_load (.pointer (some ((⟨g1829, 0, none⟩ : Addr).add ((1 : Int).toNat * 1)))) (.string (rdOf ByteArray.empty t1809 1)) rfl rfl (load_str Try.underlying9 rfl hA1830 (Ft.now (HO1817.ft)) (by first | assumption | decide | omega) (by first | assumption | decide | omega))) ?_
                simp only [ls0, ls1]
                refine on_guard (guard_on 21 true 47 rfl rfl rfl) ?_
                refine st (.bool (decide ((rdOf ByteArray.empty t1809 1) = (⟨#[108, 111, 103]⟩ : ByteArray)))) rfl rfl (xr_bin (.string (rdOf ByteArray.empty t1809 1)) (.string (⟨#[108, 111, 103]⟩ : ByteArray)) (.bool (decide ((rdOf ByteArray.empty t1809 1) = (⟨#[108, 111, 103]⟩ : ByteArray)))) rfl rfl rfl (B.eql_str (rdOf ByteArray.empty t1809 1) (⟨#[108, 111, 103]⟩ : ByteArray))) ?_
                simp only [ls0, ls1]
                refine st (.bool (decide ((rdOf ByteArray.empty t1809 1) = (⟨#[108, 111, 103]⟩ : ByteArray)))) rfl rfl (xr_pick true (.bool (decide ((rdOf ByteArray.empty t1809 1) = (⟨#[108, 111, 103]⟩ : ByteArray)))) rfl rfl rfl) ?_
                simp only [ls0, ls1]
                refine st (.bool (decide ((rdOf ByteArray.empty t1809 1) = (⟨#[108, 111, 103]⟩ : ByteArray)))) rfl rfl (xr_assign (.bool (decide ((rdOf ByteArray.empty t1809 1) = (⟨#[108, 111, 103]⟩ : ByteArray)))) rfl rfl) ?_
                simp only [ls0, ls1]
                refine wl_end ?_
                (try simp only [Act.put, List.setIfInBounds_toArray, ls0, ls1])
                refine hK1819 _ _ ?_
                (try clear hK1819 K1819)
                refine wp_ret ?_
                (try simp only [Exit.inBlock, Exit.then, Exit.noGoto])
                (try simp only [Act.put, List.setIfInBounds_toArray, ls0, ls1])
                obtain rfl := Option.some.inj H
                refine bodyPost_ret (results_tmp rfl _ _ _) rfl ?_
                exact ⟨_, rfl, HS⟩
              · rw [if_neg c1828] at H
                exact absurd H (by simp)
            · rw [if_neg c1827] at H
              (try rw [(decide_eq_false c1827)])
              (try simp only [Bool.not_true, Bool.not_false])
              refine sk_guard (guard_off 21 true 47 rfl rfl false (by decide) rfl) rfl ?_
              simp only [ls0, ls1]
              refine sk_guard (guard_off 21 true 47 rfl rfl false (by decide) rfl) rfl ?_
              simp only [ls0, ls1]
              refine sk_guard (guard_off 21 true 47 rfl rfl false (by decide) rfl) rfl ?_
              simp only [ls0, ls1]
              refine sk_guard (guard_off 21 true 47 rfl rfl false (by decide) rfl) rfl ?_
              simp only [ls0, ls1]
              refine st (.bool false) rfl rfl (xr_pick false (.bool false) rfl rfl rfl) ?_
              simp only [ls0, ls1]
              refine st (.bool false) rfl rfl (xr_assign (.bool false) rfl rfl) ?_
              simp only [ls0, ls1]
              refine wl_end ?_
              (try simp only [Act.put, List.setIfInBounds_toArray, ls0, ls1])
              refine hK1819 _ _ ?_
              (try clear hK1819 K1819)
              refine wp_ret ?_
              (try simp only [Exit.inBlock, Exit.then, Exit.noGoto])
              (try simp only [Act.put, List.setIfInBounds_toArray, ls0, ls1])
              obtain rfl := Option.some.inj H
              refine bodyPost_ret (results_tmp rfl _ _ _) rfl ?_
              exact ⟨_, rfl, HS⟩
          · rw [if_neg c1824] at H
            exact absurd H (by simp)
        · rw [if_neg c1823] at H
          (try rw [(decide_eq_false c1823)])
          (try simp only [Bool.not_true, Bool.not_false])
          refine sk_guard (guard_off 15 true 41 rfl rfl false (by decide) rfl) rfl ?_
          simp only [ls0, ls1]
          refine sk_guard (guard_off 15 true 41 rfl rfl false (by decide) rfl) rfl ?_
          simp only [ls0, ls1]
          refine sk_guard (guard_off 15 true 41 rfl rfl false (by decide) rfl) rfl ?_
          simp only [ls0, ls1]
          refine sk_guard (guard_off 15 true 41 rfl rfl false (by decide) rfl) rfl ?_
          simp only [ls0, ls1]
          refine st (.bool false) rfl rfl (xr_pick false (.bool false) rfl rfl rfl) ?_
          simp only [ls0, ls1]
          refine st (.bool false) rfl rfl (xr_move (.bool false) rfl rfl) ?_
          simp only [ls0, ls1]
          refine sk_guard (guard_off 21 true 47 rfl rfl false (by decide) rfl) rfl ?_
          simp only [ls0, ls1]
          refine sk_guard (guard_off 21 true 47 rfl rfl false (by decide) rfl) rfl ?_
          simp only [ls0, ls1]
          refine sk_guard (guard_off 21 true 47 rfl rfl false (by decide) rfl) rfl ?_
          simp only [ls0, ls1]
          refine sk_guard (guard_off 21 true 47 rfl rfl false (by decide) rfl) rfl ?_
          simp only [ls0, ls1]
          refine st (.bool false) rfl rfl (xr_pick false (.bool false) rfl rfl rfl) ?_
          simp only [ls0, ls1]
          refine st (.bool false) rfl rfl (xr_assign (.bool false) rfl rfl) ?_
          simp only [ls0, ls1]
          refine wl_end ?_
          (try simp only [Act.put, List.setIfInBounds_toArray, ls0, ls1])
          refine hK1819 _ _ ?_
          (try clear hK1819 K1819)
          refine wp_ret ?_
          (try simp only [Exit.inBlock, Exit.then, Exit.noGoto])
          (try simp only [Act.put, List.setIfInBounds_toArray, ls0, ls1])
          obtain rfl := Option.some.inj H
          refine bodyPost_ret (results_tmp rfl _ _ _) rfl ?_
          exact ⟨_, rfl, HS⟩
      · rw [if_neg c1822] at H
        (try rw [(decide_eq_false c1822)])
        (try simp only [Bool.not_true, Bool.not_false])
        refine sk_guard (guard_off 10 true 36 rfl rfl false (by decide) rfl) rfl ?_
        simp only [ls0, ls1]
        refine sk_guard (guard_off 10 true 36 rfl rfl false (by decide) rfl) rfl ?_
        simp only [ls0, ls1]
        refine sk_guard (guard_off 10 true 36 rfl rfl false (by decide) rfl) rfl ?_
        simp only [ls0, ls1]
        refine st (.bool false) rfl rfl (xr_pick false (.bool false) rfl rfl rfl) ?_
        simp only [ls0, ls1]
        refine st (.bool false) rfl rfl (xr_move (.bool false) rfl rfl) ?_
        simp only [ls0, ls1]
        refine sk_guard (guard_off 15 true 41 rfl rfl false (by decide) rfl) rfl ?_
        simp only [ls0, ls1]
        refine sk_guard (guard_off 15 true 41 rfl rfl false (by decide) rfl) rfl ?_
        simp only [ls0, ls1]
        refine sk_guard (guard_off 15 true 41 rfl rfl false (by decide) rfl) rfl ?_
        simp only [ls0, ls1]
        refine sk_guard (guard_off 15 true 41 rfl rfl false (by decide) rfl) rfl ?_
        simp only [ls0, ls1]
        refine st (.bool false) rfl rfl (xr_pick false (.bool false) rfl rfl rfl) ?_
        simp only [ls0, ls1]
        refine st (.bool false) rfl rfl (xr_move (.bool false) rfl rfl) ?_
        simp only [ls0, ls1]
        refine sk_guard (guard_off 21 true 47 rfl rfl false (by decide) rfl) rfl ?_
        simp only [ls0, ls1]
        refine sk_guard (guard_off 21 true 47 rfl rfl false (by decide) rfl) rfl ?_
        simp only [ls0, ls1]
        refine sk_guard (guard_off 21 true 47 rfl rfl false (by decide) rfl) rfl ?_
        simp only [ls0, ls1]
        refine sk_guard (guard_off 21 true 47 rfl rfl false (by decide) rfl) rfl ?_
        simp only [ls0, ls1]
        refine st (.bool false) rfl rfl (xr_pick false (.bool false) rfl rfl rfl) ?_
        simp only [ls0, ls1]
        refine st (.bool false) rfl rfl (xr_assign (.bool false) rfl rfl) ?_
        simp only [ls0, ls1]
        refine wl_end ?_
        (try simp only [Act.put, List.setIfInBounds_toArray, ls0, ls1])
        refine hK1819 _ _ ?_
        (try clear hK1819 K1819)
        refine wp_ret ?_
        (try simp only [Exit.inBlock, Exit.then, Exit.noGoto])
        (try simp only [Act.put, List.setIfInBounds_toArray, ls0, ls1])
        obtain rfl := Option.some.inj H
        refine bodyPost_ret (results_tmp rfl _ _ _) rfl ?_
        exact ⟨_, rfl, HS⟩
    · rw [if_neg c1821] at H
      (try rw [(decide_eq_false c1821)])
      (try simp only [Bool.not_true, Bool.not_false])
      refine sk_guard (guard_off 6 true 32 rfl rfl false (by decide) rfl) rfl ?_
      simp only [ls0, ls1]
      refine sk_guard (guard_off 6 true 32 rfl rfl false (by decide) rfl) rfl ?_
      simp only [ls0, ls1]
      refine st (.bool false) rfl rfl (xr_pick false (.bool false) rfl rfl rfl) ?_
      simp only [ls0, ls1]
      refine st (.bool false) rfl rfl (xr_move (.bool false) rfl rfl) ?_
      simp only [ls0, ls1]
      refine sk_guard (guard_off 10 true 36 rfl rfl false (by decide) rfl) rfl ?_
      simp only [ls0, ls1]
      refine sk_guard (guard_off 10 true 36 rfl rfl false (by decide) rfl) rfl ?_
      simp only [ls0, ls1]
      refine sk_guard (guard_off 10 true 36 rfl rfl false (by decide) rfl) rfl ?_
      simp only [ls0, ls1]
      refine st (.bool false) rfl rfl (xr_pick false (.bool false) rfl rfl rfl) ?_
      simp only [ls0, ls1]
      refine st (.bool false) rfl rfl (xr_move (.bool false) rfl rfl) ?_
      simp only [ls0, ls1]
      refine sk_guard (guard_off 15 true 41 rfl rfl false (by decide) rfl) rfl ?_
      simp only [ls0, ls1]
      refine sk_guard (guard_off 15 true 41 rfl rfl false (by decide) rfl) rfl ?_
      simp only [ls0, ls1]
      refine sk_guard (guard_off 15 true 41 rfl rfl false (by decide) rfl) rfl ?_
      simp only [ls0, ls1]
      refine sk_guard (guard_off 15 true 41 rfl rfl false (by decide) rfl) rfl ?_
      simp only [ls0, ls1]
      refine st (.bool false) rfl rfl (xr_pick false (.bool false) rfl rfl rfl) ?_
      simp only [ls0, ls1]
      refine st (.bool false) rfl rfl (xr_move (.bool false) rfl rfl) ?_
      simp only [ls0, ls1]
      refine sk_guard (guard_off 21 true 47 rfl rfl false (by decide) rfl) rfl ?_
      simp only [ls0, ls1]
      refine sk_guard (guard_off 21 true 47 rfl rfl false (by decide) rfl) rfl ?_
      simp only [ls0, ls1]
      refine sk_guard (guard_off 21 true 47 rfl rfl false (by decide) rfl) rfl ?_
      simp only [ls0, ls1]
      refine sk_guard (guard_off 21 true 47 rfl rfl false (by decide) rfl) rfl ?_
      simp only [ls0, ls1]
      refine st (.bool false) rfl rfl (xr_pick false (.bool false) rfl rfl rfl) ?_
      simp only [ls0, ls1]
      refine st (.bool false) rfl rfl (xr_assign (.bool false) rfl rfl) ?_
      simp only [ls0, ls1]
      refine wl_end ?_
      (try simp only [Act.put, List.setIfInBounds_toArray, ls0, ls1])
      refine hK1819 _ _ ?_
      (try clear hK1819 K1819)
      refine wp_ret ?_
      (try simp only [Exit.inBlock, Exit.then, Exit.noGoto])
      (try simp only [Act.put, List.setIfInBounds_toArray, ls0, ls1])
      obtain rfl := Option.some.inj H
      refine bodyPost_ret (results_tmp rfl _ _ _) rfl ?_
      exact ⟨_, rfl, HS⟩
  · rw [if_neg c1820] at H
    (try rw [(decide_eq_false c1820)])
    (try simp only [Bool.not_true, Bool.not_false])
    refine sk_guard (guard_off 2 true 28 rfl rfl false (by decide) rfl) rfl ?_
    simp only [ls0, ls1]
    refine sk_guard (guard_off 2 true 28 rfl rfl false (by decide) rfl) rfl ?_
    simp only [ls0, ls1]
    refine st (.bool false) rfl rfl (xr_pick false (.bool false) rfl rfl rfl) ?_
    simp only [ls0, ls1]
    refine st (.bool false) rfl rfl (xr_move (.bool false) rfl rfl) ?_
    simp only [ls0, ls1]
    refine sk_guard (guard_off 6 true 32 rfl rfl false (by decide) rfl) rfl ?_
    simp only [ls0, ls1]
    refine sk_guard (guard_off 6 true 32 rfl rfl false (by decide) rfl) rfl ?_
    simp only [ls0, ls1]
    refine st (.bool false) rfl rfl (xr_pick false (.bool false) rfl rfl rfl) ?_
    simp only [ls0, ls1]
    refine st (.bool false) rfl rfl (xr_move (.bool false) rfl rfl) ?_
    simp only [ls0, ls1]
    refine sk_guard (guard_off 10 true 36 rfl rfl false (by decide) rfl) rfl ?_
    simp only [ls0, ls1]
    refine sk_guard (guard_off 10 true 36 rfl rfl false (by decide) rfl) rfl ?_
    simp only [ls0, ls1]
    refine sk_guard (guard_off 10 true 36 rfl rfl false (by decide) rfl) rfl ?_
    simp only [ls0, ls1]
    refine st (.bool false) rfl rfl (xr_pick false (.bool false) rfl rfl rfl) ?_
    simp only [ls0, ls1]
    refine st (.bool false) rfl rfl (xr_move (.bool false) rfl rfl) ?_
    simp only [ls0, ls1]
    refine sk_guard (guard_off 15 true 41 rfl rfl false (by decide) rfl) rfl ?_
    simp only [ls0, ls1]
    refine sk_guard (guard_off 15 true 41 rfl rfl false (by decide) rfl) rfl ?_
    simp only [ls0, ls1]
    refine sk_guard (guard_off 15 true 41 rfl rfl false (by decide) rfl) rfl ?_
    simp only [ls0, ls1]
    refine sk_guard (guard_off 15 true 41 rfl rfl false (by decide) rfl) rfl ?_
    simp only [ls0, ls1]
    refine st (.bool false) rfl rfl (xr_pick false (.bool false) rfl rfl rfl) ?_
    simp only [ls0, ls1]
    refine st (.bool false) rfl rfl (xr_move (.bool false) rfl rfl) ?_
    simp only [ls0, ls1]
    refine sk_guard (guard_off 21 true 47 rfl rfl false (by decide) rfl) rfl ?_
    simp only [ls0, ls1]
    refine sk_guard (guard_off 21 true 47 rfl rfl false (by decide) rfl) rfl ?_
    simp only [ls0, ls1]
    refine sk_guard (guard_off 21 true 47 rfl rfl false (by decide) rfl) rfl ?_
    simp only [ls0, ls1]
    refine sk_guard (guard_off 21 true 47 rfl rfl false (by decide) rfl) rfl ?_
    simp only [ls0, ls1]
    refine st (.bool false) rfl rfl (xr_pick false (.bool false) rfl rfl rfl) ?_
    simp only [ls0, ls1]
    refine st (.bool false) rfl rfl (xr_assign (.bool false) rfl rfl) ?_
    simp only [ls0, ls1]
    refine wl_end ?_
    (try simp only [Act.put, List.setIfInBounds_toArray, ls0, ls1])
    refine hK1819 _ _ ?_
    (try clear hK1819 K1819)
    refine wp_ret ?_
    (try simp only [Exit.inBlock, Exit.then, Exit.noGoto])
    (try simp only [Act.put, List.setIfInBounds_toArray, ls0, ls1])
    obtain rfl := Option.some.inj H
    refine bodyPost_ret (results_tmp rfl _ _ _) rfl ?_
    exact ⟨_, rfl, HS⟩

/-! ### blazonlaw16_RowFull: function 3 -/
def blazonlaw16_RowFull.l0 : Nat → Int → (List (S25)) → Int → Option (Bool)
  | 0, _, _, _ => none
  | k + 1, a0, x2224, x2230 => if x2230 < (Int.tmod (wrap64 (a0)) 70) then ((some ([(wrap64 (97 + (wrap64 (Int.tdiv x2230 26)))) % 256, (wrap64 (97 + (Int.tmod x2230 26))) % 256] : List Int)).bind fun y2245 => (if x2224.length < 5864062014805 then ((some (x2224 ++ [(⟨strOfNums y2245, 0⟩ : S25)] : List (S25))).bind fun y2255 => (blazonlaw16_RowFull.l0 k a0 y2255 (wrap64 (x2230 + 1)))) else (none))) else ((row_New.f k x2224).bind fun bt2266 => (if (Int.tmod (wrap64 (a0)) 70) > 64 then (onOpt bt2266.1 (if bt2266.2.1 = 64 then (if bt2266.2.2 = 8 then ((blazonlaw16_awake.f k).bind fun t2283 => (some t2283)) else (some false)) else (some false)) (fun o2280 => (some false))) else ((row_Table_Len.f bt2266.1).bind fun t2295 => (if t2295 = (Int.tmod (wrap64 (a0)) 70) then (if bt2266.2.2 = 0 then ((blazonlaw16_awake.f k).bind fun t2303 => (some t2303)) else (some false)) else (some false)))))
def blazonlaw16_RowFull.f (k : Nat) (a0 : Int) : Option (Bool) := blazonlaw16_RowFull.l0 k a0 ([] : List (S25)) 0

set_option maxHeartbeats 2000000 in
set_option maxRecDepth 100000 in
theorem blazonlaw16_RowFull.calls (k : Nat) (a0 : Int) (r : Bool) (c : Nat → Nat) (w : World) (hc : ∀ k, c k < 10)  (H : blazonlaw16_RowFull.f k a0 = some r) :
    Calls Try.prog 3 #[.int .u8 a0] w fun e w' => ∃ (c' : Nat → Nat) , e = .returned (.bool r) ∧ Step c w c' w' [] := by
  unfold blazonlaw16_RowFull.f at H
  have HS := Step.refl c w []
  go_enter Try.func3, Try.ntmps3
  refine wp_seq_k fun K2070 hK2070 => ?_
  refine wl_region ?_
  refine st (.bool false) rfl rfl (xr_assign (.bool false) rfl rfl) ?_
  simp only [ls0, ls1]
  refine wl_end ?_
  (try simp only [Act.put, List.setIfInBounds_toArray, ls0, ls1])
  refine hK2070 _ _ ?_
  (try clear hK2070 K2070)
  refine wp_seq_k fun K2071 hK2071 => ?_
  refine wl_region ?_
  refine st (.int .u8 a0) rfl rfl (xr_move (.int .u8 a0) rfl rfl) ?_
  simp only [ls0, ls1]
  refine st (.int .i64 (wrap64 (a0))) rfl rfl (xr_conv (.int .u8 a0) (.int .i64 (wrap64 (a0))) rfl rfl (by first | rfl | (go_simp; done) | (go_simp; rfl) | (go_simp; exact i64_w _) | (go_simp; exact i32_w _))) ?_
  simp only [ls0, ls1]
  refine st (.int .i64 (Int.tmod (wrap64 (a0)) 70)) rfl rfl (xr_bin (.int .i64 (wrap64 (a0))) (.int .i64 70) (.int .i64 (Int.tmod (wrap64 (a0)) 70)) rfl rfl rfl (B.rem_i64 (wrap64 (a0)) 70 (by decide))) ?_
  simp only [ls0, ls1]
  refine st (.int .i64 (Int.tmod (wrap64 (a0)) 70)) rfl rfl (xr_assign (.int .i64 (Int.tmod (wrap64 (a0)) 70)) rfl rfl) ?_
  simp only [ls0, ls1]
  refine wl_end ?_
  (try simp only [Act.put, List.setIfInBounds_toArray, ls0, ls1])
  refine hK2071 _ _ ?_
  (try clear hK2071 K2071)
  refine wp_seq_k fun K2072 hK2072 => ?_
  refine wl_region ?_
  refine st (.slice none 0 0) rfl rfl (xr_assign (.slice none 0 0) rfl rfl) ?_
  simp only [ls0, ls1]
  refine wl_end ?_
  (try simp only [Act.put, List.setIfInBounds_toArray, ls0, ls1])
  refine hK2072 _ _ ?_
  (try clear hK2072 K2072)
  refine wp_seq_k fun K2073 hK2073 => ?_
  refine wp_seq_k fun K2169 hK2169 => ?_
  refine wl_region ?_
  refine st (.int .i64 0) rfl rfl (xr_assign (.int .i64 0) rfl rfl) ?_
  simp only [ls0, ls1]
  refine wl_end ?_
  (try simp only [Act.put, List.setIfInBounds_toArray, ls0, ls1])
  refine hK2169 _ _ ?_
  (try clear hK2169 K2169)
  refine wp_block ?_
  (try simp only [Act.put, List.setIfInBounds_toArray, ls0, ls1])
  refine wp_looped (looped_ind (fun kq2234 a_ w2233 => ∃ (C2232 : Nat → Nat) (x2230 : Int) (A2225 : Option Addr) (n2226 cp2227 : Nat) (x2224 : List (S25)) (g2231 : Nat → Value), a_ = ⟨#[(g2231 0), (g2231 1), (g2231 2), .int .i64 (Int.tmod (wrap64 (a0)) 70), .slice A2225 n2226 cp2227, .int .i64 x2230, (g2231 6), (g2231 7), (g2231 8), (g2231 9), (g2231 10), (g2231 11), (g2231 12), (g2231 13), (g2231 14), (g2231 15), (g2231 16), (g2231 17), (g2231 18), (g2231 19), (g2231 20), (g2231 21), (g2231 22), (g2231 23), (g2231 24), (g2231 25), (g2231 26), (g2231 27), (g2231 28), (g2231 29), (g2231 30), (g2231 31), (g2231 32), (g2231 33), (g2231 34), (g2231 35), (g2231 36), (g2231 37), (g2231 38), (g2231 39), (g2231 40), (g2231 41), (g2231 42), (g2231 43), (g2231 44), (g2231 45), (g2231 46), (g2231 47), (g2231 48), (g2231 49), (g2231 50), (g2231 51), (g2231 52), (g2231 53), (g2231 54), (g2231 55), (g2231 56), (g2231 57), (g2231 58), (g2231 59), (g2231 60), (g2231 61), (g2231 62)], []⟩ ∧ Step c w C2232 w2233 [] ∧ kq2234 ≤ k ∧ (Own C2232 11 w2233 k25 25 (.slice A2225 n2226 cp2227) x2224) ∧ (n2226 ≤ cp2227) ∧ blazonlaw16_RowFull.l0 kq2234 a0 x2224 x2230 = some r) ?step k _ _ ?init)
  case init =>
    exact ⟨_, 0, none, 0, 0, ([] : List (S25)), (fun q_ => List.getD [.int .u8 a0, undef, .bool false, undef, undef, undef, undef, undef, undef, .int .u8 a0, .int .i64 (wrap64 (a0)), .int .i64 (Int.tmod (wrap64 (a0)) 70), undef, undef, undef, undef, undef, undef, undef, undef, undef, undef, undef, undef, undef, undef, undef, undef, undef, undef, undef, undef, undef, undef, undef, undef, undef, undef, undef, undef, undef, undef, undef, undef, undef, undef, undef, undef, undef, undef, undef, undef, undef, undef, undef, undef, undef, undef, undef, undef, undef, undef, undef] q_ undef), rfl, HS, Nat.le_refl _, (Own.nil _ _ _ _ _), (Nat.le_refl 0), H⟩
  case step =>
    intro kq2234 ih2237 a2238 w2233 hr2239
    obtain ⟨C2232, x2230, A2225, n2226, cp2227, x2224, g2231, rfl, HS2235, hk2236, HJ2229, HC2228, H⟩ := hr2239
    refine looped_round ?_
    obtain rfl : n2226 = x2224.length := HJ2229.at_.1
    cases kq2234 with
    | zero => exact absurd H (by simp [blazonlaw16_RowFull.l0])
    | succ k2240 =>
      simp only [blazonlaw16_RowFull.l0] at H
      refine wp_seq_k fun K2241 hK2241 => ?_
      refine wp_seq_k fun K2242 hK2242 => ?_
      refine wl_region ?_
      refine st (.int .i64 x2230) rfl rfl (xr_move (.int .i64 x2230) rfl rfl) ?_
      simp only [ls0, ls1]
      refine st (.int .i64 (Int.tmod (wrap64 (a0)) 70)) rfl rfl (xr_move (.int .i64 (Int.tmod (wrap64 (a0)) 70)) rfl rfl) ?_
      simp only [ls0, ls1]
      refine st (.bool (decide (x2230 < (Int.tmod (wrap64 (a0)) 70)))) rfl rfl (xr_bin (.int .i64 x2230) (.int .i64 (Int.tmod (wrap64 (a0)) 70)) (.bool (decide (x2230 < (Int.tmod (wrap64 (a0)) 70)))) rfl rfl rfl (B.lss_i64 x2230 (Int.tmod (wrap64 (a0)) 70))) ?_
      simp only [ls0, ls1]
      refine wl_end ?_
      (try simp only [Act.put, List.setIfInBounds_toArray, ls0, ls1])
      refine hK2242 _ _ ?_
      (try clear hK2242 K2242)
      by_cases c2243 : x2230 < (Int.tmod (wrap64 (a0)) 70)
      · rw [if_pos c2243] at H
        (try rw [(decide_eq_true c2243)])
        (try simp only [Bool.not_true, Bool.not_false])
        refine wp_cond_true rfl ?_
        refine wp_skip ?_
        (try simp only [Act.put, List.setIfInBounds_toArray, ls0, ls1])
        refine hK2241 _ _ ?_
        (try clear hK2241 K2241)
        refine wp_seq_k fun K2244 hK2244 => ?_
        refine wp_block ?_
        refine wl_region ?_
        refine st (.slice A2225 x2224.length cp2227) rfl rfl (xr_move (.slice A2225 x2224.length cp2227) rfl rfl) ?_
        simp only [ls0, ls1]
        refine st (.int .i64 x2230) rfl rfl (xr_move (.int .i64 x2230) rfl rfl) ?_
        simp only [ls0, ls1]
        refine st (.int .i64 (wrap64 (Int.tdiv x2230 26))) rfl rfl (xr_bin (.int .i64 x2230) (.int .i64 26) (.int .i64 (wrap64 (Int.tdiv x2230 26))) rfl rfl rfl (B.quo_i64 x2230 26 (by decide))) ?_
        simp only [ls0, ls1]
        refine st (.int .i64 (wrap64 (97 + (wrap64 (Int.tdiv x2230 26))))) rfl rfl (xr_bin (.int .i64 97) (.int .i64 (wrap64 (Int.tdiv x2230 26))) (.int .i64 (wrap64 (97 + (wrap64 (Int.tdiv x2230 26))))) rfl rfl rfl (B.add_i64 97 (wrap64 (Int.tdiv x2230 26)))) ?_
        simp only [ls0, ls1]
        refine st (.int .u8 ((wrap64 (97 + (wrap64 (Int.tdiv x2230 26)))) % 256)) rfl rfl (xr_conv (.int .i64 (wrap64 (97 + (wrap64 (Int.tdiv x2230 26))))) (.int .u8 ((wrap64 (97 + (wrap64 (Int.tdiv x2230 26)))) % 256)) rfl rfl (by first | rfl | (go_simp; done) | (go_simp; rfl) | (go_simp; exact i64_w _) | (go_simp; exact i32_w _))) ?_
        simp only [ls0, ls1]
        refine st (.int .i64 x2230) rfl rfl (xr_move (.int .i64 x2230) rfl rfl) ?_
        simp only [ls0, ls1]
        refine st (.int .i64 (Int.tmod x2230 26)) rfl rfl (xr_bin (.int .i64 x2230) (.int .i64 26) (.int .i64 (Int.tmod x2230 26)) rfl rfl rfl (B.rem_i64 x2230 26 (by decide))) ?_
        simp only [ls0, ls1]
        refine st (.int .i64 (wrap64 (97 + (Int.tmod x2230 26)))) rfl rfl (xr_bin (.int .i64 97) (.int .i64 (Int.tmod x2230 26)) (.int .i64 (wrap64 (97 + (Int.tmod x2230 26)))) rfl rfl rfl (B.add_i64 97 (Int.tmod x2230 26))) ?_
        simp only [ls0, ls1]
        refine st (.int .u8 ((wrap64 (97 + (Int.tmod x2230 26))) % 256)) rfl rfl (xr_conv (.int .i64 (wrap64 (97 + (Int.tmod x2230 26)))) (.int .u8 ((wrap64 (97 + (Int.tmod x2230 26))) % 256)) rfl rfl (by first | rfl | (go_simp; done) | (go_simp; rfl) | (go_simp; exact i64_w _) | (go_simp; exact i32_w _))) ?_
        simp only [ls0, ls1]
        obtain ⟨y2245, A2246, H⟩ := Option.bind_eq_some_iff.mp H
        (try dsimp only at H)
        refine Own.lit (Kd.int .u8) (C := C2232) (i := 12) rfl 5 rfl (xs := [(wrap64 (97 + (wrap64 (Int.tdiv x2230 26)))) % 256, (wrap64 (97 + (Int.tmod x2230 26))) % 256]) (inner := [.int .u8 ((wrap64 (97 + (wrap64 (Int.tdiv x2230 26)))) % 256), .int .u8 ((wrap64 (97 + (Int.tmod x2230 26))) % 256)]) (by first | (go_simp; done) | (go_simp; rfl)) (reps_cons (fk_int .u8 _ _ ((wrap64 (97 + (wrap64 (Int.tdiv x2230 26)))) % 256)) rfl (reps_cons (fk_int .u8 _ _ ((wrap64 (97 + (Int.tmod x2230 26))) % 256)) rfl (Reps.none _ _))) (by simp only [List.length_cons, List.length_nil]; omega) (Option.some.inj A2246) ?_
        intro A2247 cp2248 w2249 C2250 HO2251 HC2252 hs2253
        replace HJ2229 := HJ2229.thru hs2253 rfl
        replace HS2235 := HS2235.trans hs2253 hc rfl
        (try simp only [Act.put, List.setIfInBounds_toArray, ls0, ls1])
        refine st (.string (strOfNums y2245)) rfl rfl (xr_conv (.slice A2247 y2245.length cp2248) (.string (strOfNums y2245)) rfl rfl (string_of_reads Try.underlying23 Try.underlying5 Try.underlying9 (Kd.reads_of_C (d := (0 : Int)) (h1 := fun _ => rfl) (Ft.now (HO2251.ft))))) ?_
        simp only [ls0, ls1]
        refine st (.agg #[.string (strOfNums y2245), .int .i64 0]) rfl rfl (xr_build #[(0, .string (strOfNums y2245))] (.agg #[.string (strOfNums y2245), .int .i64 0]) rfl (by simp only [List.map_toArray, List.map_cons, List.map_nil]; first | done | rfl) (by first | rfl | (go_simp; done) | (go_simp; rfl) | (go_simp; exact i64_w _) | (go_simp; exact i32_w _))) ?_
        simp only [ls0, ls1]
        refine ev_run (w1 := w2249.alloc (.cells #[.string (strOfNums y2245), .int .i64 0] 25)) (.slice (some ⟨w2249.heap.size, 0, none⟩) 1 1) rfl rfl (by first | (go_simp; done) | (go_simp; rfl)) ?_
        (try simp only [Act.put, List.setIfInBounds_toArray, ls0, ls1])
        by_cases c2254 : x2224.length < 5864062014805
        · rw [if_pos c2254] at H
          obtain ⟨y2255, A2256, H⟩ := Option.bind_eq_some_iff.mp H
          (try dsimp only at H)
          refine Own.append k25 (C := C2250) (i := 11) rfl (.tmp 17) (.tmp 29) 22 25 (.agg #[(.string ⟨#[]⟩), (.int .i64 0)]) 24 rfl Try.underlying22 info25 rfl (by decide) (by decide) (.slice A2225 x2224.length cp2227) x2224 (⟨strOfNums y2245, 0⟩ : S25) [.string (strOfNums y2245), .int .i64 0] rfl rfl (k25_mkF _ _ (⟨strOfNums y2245, 0⟩ : S25)) HJ2229 (by decide) (by omega) (Option.some.inj A2256) ?_
          intro A2257 cp2258 w2259 C2260 HO2261 HC2262 hs2263
          replace HS2235 := HS2235.trans hs2263 hc rfl
          (try simp only [Act.put, List.setIfInBounds_toArray, ls0, ls1])
          refine st (.slice A2257 y2255.length cp2258) rfl rfl (xr_assign (.slice A2257 y2255.length cp2258) rfl rfl) ?_
          simp only [ls0, ls1]
          refine wl_end ?_
          (try simp only [Act.put, List.setIfInBounds_toArray, ls0, ls1])
          refine hK2244 _ _ ?_
          (try clear hK2244 K2244)
          refine wl_region ?_
          refine st (.int .i64 x2230) rfl rfl (xr_move (.int .i64 x2230) rfl rfl) ?_
          simp only [ls0, ls1]
          refine st (.int .i64 (wrap64 (x2230 + 1))) rfl rfl (xr_bin (.int .i64 x2230) (.int .i64 1) (.int .i64 (wrap64 (x2230 + 1))) rfl rfl rfl (B.add_i64 x2230 1)) ?_
          simp only [ls0, ls1]
          refine st (.int .i64 (wrap64 (x2230 + 1))) rfl rfl (xr_assign (.int .i64 (wrap64 (x2230 + 1))) rfl rfl) ?_
          simp only [ls0, ls1]
          refine wl_end ?_
          (try simp only [Act.put, List.setIfInBounds_toArray, ls0, ls1])
          exact ih2237 k2240 (by omega) _ _ ⟨_, wrap64 (x2230 + 1), A2257, y2255.length, cp2258, y2255, (fun q_ => List.getD [(g2231 0), (g2231 1), (g2231 2), undef, undef, undef, (g2231 6), (g2231 7), (g2231 8), (g2231 9), (g2231 10), (g2231 11), .int .i64 x2230, .int .i64 (Int.tmod (wrap64 (a0)) 70), .bool true, .int .i64 x2230, .int .i64 (wrap64 (x2230 + 1)), .slice A2225 x2224.length cp2227, .int .i64 x2230, .int .i64 (wrap64 (Int.tdiv x2230 26)), .int .i64 (wrap64 (97 + (wrap64 (Int.tdiv x2230 26)))), .int .u8 ((wrap64 (97 + (wrap64 (Int.tdiv x2230 26)))) % 256), .int .i64 x2230, .int .i64 (Int.tmod x2230 26), .int .i64 (wrap64 (97 + (Int.tmod x2230 26))), .int .u8 ((wrap64 (97 + (Int.tmod x2230 26))) % 256), .slice A2247 y2245.length cp2248, .string (strOfNums y2245), .agg #[.string (strOfNums y2245), .int .i64 0], .slice (some ⟨w2249.heap.size, 0, none⟩) 1 1, .slice A2257 y2255.length cp2258, (g2231 31), (g2231 32), (g2231 33), (g2231 34), (g2231 35), (g2231 36), (g2231 37), (g2231 38), (g2231 39), (g2231 40), (g2231 41), (g2231 42), (g2231 43), (g2231 44), (g2231 45), (g2231 46), (g2231 47), (g2231 48), (g2231 49), (g2231 50), (g2231 51), (g2231 52), (g2231 53), (g2231 54), (g2231 55), (g2231 56), (g2231 57), (g2231 58), (g2231 59), (g2231 60), (g2231 61), (g2231 62)] q_ undef), rfl, HS2235, (by omega), HO2261, HC2262, H⟩
        · rw [if_neg c2254] at H
          exact absurd H (by simp)
      · rw [if_neg c2243] at H
        (try rw [(decide_eq_false c2243)])
        (try simp only [Bool.not_true, Bool.not_false])
        refine wp_cond_false rfl ?_
        refine wp_exit ?_
        (try simp only [Act.put, List.setIfInBounds_toArray, ls0, ls1])
        refine hK2073 _ _ ?_
        (try clear hK2073 K2073)
        refine wp_seq_k fun K2264 hK2264 => ?_
        refine wl_region ?_
        refine st (.slice A2225 x2224.length cp2227) rfl rfl (xr_move (.slice A2225 x2224.length cp2227) rfl rfl) ?_
        simp only [ls0, ls1]
        have HR2265 := Ft.recolor (a := 11) (b := 0) (HJ2229.ft) [0] rfl
        replace HS2235 := Step.recol (a := 11) (b := 0) HS2235 hc (by decide)
        obtain ⟨⟨t2266, t2267, t2268⟩, A2269, H⟩ := Option.bind_eq_some_iff.mp H
        (try dsimp only at H)
        refine st_call #[.slice A2225 x2224.length cp2227] rfl rfl Try.func12 (by kernel_rfl) rfl rfl (by simp only [List.map_toArray, List.map_cons, List.map_nil]; first | done | rfl) ?_
        refine (row_New.calls k2240 A2225 cp2227 x2224 t2266 t2267 t2268  (fun z_ => pal [(0, 0)] ((recol C2232 11 0) z_)) w2233 (fun _ => pal_lt rfl _) (Ft.arg HR2265 rfl) HC2228 A2269).mono ?_
        rintro _ w2271 ⟨C2272, v2274, rfl, hs2273, HB2275⟩
        refine ⟨_, rfl, ?_⟩
        replace HB2275 := Ft.res (U := [(0, 0)]) HB2275 hs2273 [0] rfl rfl rfl
        replace hs2273 := Step.lift (U := [(0, 0)]) hs2273 [] rfl rfl
        generalize up (recol C2232 11 0) C2272 w2233.heap.size [(0, 0)] = C2272_ at HB2275 hs2273
        replace HS2235 := HS2235.trans hs2273 hc rfl
        (try simp only [Act.put, List.setIfInBounds_toArray, ls0, ls1])
        refine st (.tuple #[v2274, .int .i64 t2267, .int .i64 t2268]) rfl rfl (xr_move (.tuple #[v2274, .int .i64 t2267, .int .i64 t2268]) rfl rfl) ?_
        simp only [ls0, ls1]
        refine st (v2274) rfl rfl (xr_extract (.tuple #[v2274, .int .i64 t2267, .int .i64 t2268]) (v2274) rfl rfl rfl) ?_
        simp only [ls0, ls1]
        refine st (.int .i64 t2267) rfl rfl (xr_extract (.tuple #[v2274, .int .i64 t2267, .int .i64 t2268]) (.int .i64 t2267) rfl rfl rfl) ?_
        simp only [ls0, ls1]
        refine st (.int .i64 t2268) rfl rfl (xr_extract (.tuple #[v2274, .int .i64 t2267, .int .i64 t2268]) (.int .i64 t2268) rfl rfl rfl) ?_
        simp only [ls0, ls1]
        refine st (v2274) rfl rfl (xr_assign (v2274) rfl rfl) ?_
        simp only [ls0, ls1]
        refine st (.int .i64 t2267) rfl rfl (xr_assign (.int .i64 t2267) rfl rfl) ?_
        simp only [ls0, ls1]
        refine st (.int .i64 t2268) rfl rfl (xr_assign (.int .i64 t2268) rfl rfl) ?_
        simp only [ls0, ls1]
        refine wl_end ?_
        (try simp only [Act.put, List.setIfInBounds_toArray, ls0, ls1])
        refine hK2264 _ _ ?_
        (try clear hK2264 K2264)
        refine wp_seq_k fun K2276 hK2276 => ?_
        refine wp_seq_k fun K2277 hK2277 => ?_
        refine wl_region ?_
        refine st (.int .i64 (Int.tmod (wrap64 (a0)) 70)) rfl rfl (xr_move (.int .i64 (Int.tmod (wrap64 (a0)) 70)) rfl rfl) ?_
        simp only [ls0, ls1]
        refine st (.bool (decide ((Int.tmod (wrap64 (a0)) 70) > 64))) rfl rfl (xr_bin (.int .i64 (Int.tmod (wrap64 (a0)) 70)) (.int .i64 64) (.bool (decide ((Int.tmod (wrap64 (a0)) 70) > 64))) rfl rfl rfl (B.gtr_i64 (Int.tmod (wrap64 (a0)) 70) 64)) ?_
        simp only [ls0, ls1]
        refine wl_end ?_
        (try simp only [Act.put, List.setIfInBounds_toArray, ls0, ls1])
        refine hK2277 _ _ ?_
        (try clear hK2277 K2277)
        by_cases c2278 : (Int.tmod (wrap64 (a0)) 70) > 64
        · rw [if_pos c2278] at H
          (try rw [(decide_eq_true c2278)])
          (try simp only [Bool.not_true, Bool.not_false])
          refine wp_cond_true rfl ?_
          refine wp_seq_k fun K2279 hK2279 => ?_
          refine wl_region ?_
          refine st (v2274) rfl rfl (xr_move (v2274) rfl rfl) ?_
          simp only [ls0, ls1]
          cases t2266 with
          | none =>
            (try simp only [onOpt] at H)
            obtain rfl := ptr_none HB2275
            refine st (.bool true) rfl rfl (xr_bin (.pointer none) (.pointer none) (.bool true) rfl rfl rfl (B.eql_nn ⟨_, Try.underlying26⟩ (⟨0, 0, none⟩ : Addr))) ?_
            simp only [ls0, ls1]
            refine st (.bool true) rfl rfl (xr_move (.bool true) rfl rfl) ?_
            simp only [ls0, ls1]
            refine on_guard (guard_on 2 true 41 rfl rfl rfl) ?_
            refine st (.int .i64 t2267) rfl rfl (xr_move (.int .i64 t2267) rfl rfl) ?_
            simp only [ls0, ls1]
            refine on_guard (guard_on 2 true 41 rfl rfl rfl) ?_
            refine st (.bool (decide (t2267 = 64))) rfl rfl (xr_bin (.int .i64 t2267) (.int .i64 64) (.bool (decide (t2267 = 64))) rfl rfl rfl (B.eql_i64 t2267 64)) ?_
            simp only [ls0, ls1]
            refine st (.bool (decide (t2267 = 64))) rfl rfl (xr_pick true (.bool (decide (t2267 = 64))) rfl rfl rfl) ?_
            simp only [ls0, ls1]
            refine st (.bool (decide (t2267 = 64))) rfl rfl (xr_move (.bool (decide (t2267 = 64))) rfl rfl) ?_
            simp only [ls0, ls1]
            by_cases c2281 : t2267 = 64
            · rw [if_pos c2281] at H
              (try rw [(decide_eq_true c2281)])
              (try simp only [Bool.not_true, Bool.not_false])
              refine on_guard (guard_on 6 true 45 rfl rfl rfl) ?_
              refine st (.int .i64 t2268) rfl rfl (xr_move (.int .i64 t2268) rfl rfl) ?_
              simp only [ls0, ls1]
              refine on_guard (guard_on 6 true 45 rfl rfl rfl) ?_
              refine st (.bool (decide (t2268 = 8))) rfl rfl (xr_bin (.int .i64 t2268) (.int .i64 8) (.bool (decide (t2268 = 8))) rfl rfl rfl (B.eql_i64 t2268 8)) ?_
              simp only [ls0, ls1]
              refine st (.bool (decide (t2268 = 8))) rfl rfl (xr_pick true (.bool (decide (t2268 = 8))) rfl rfl rfl) ?_
              simp only [ls0, ls1]
              refine st (.bool (decide (t2268 = 8))) rfl rfl (xr_move (.bool (decide (t2268 = 8))) rfl rfl) ?_
              simp only [ls0, ls1]
              by_cases c2282 : t2268 = 8
              · rw [if_pos c2282] at H
                (try rw [(decide_eq_true c2282)])
                (try simp only [Bool.not_true, Bool.not_false])
                refine on_guard (guard_on 10 true 49 rfl rfl rfl) ?_
                obtain ⟨t2283, A2284, H⟩ := Option.bind_eq_some_iff.mp H
                (try dsimp only at H)
                refine st_call #[] rfl rfl Try.func13 (by kernel_rfl) rfl rfl (by simp only [List.map_toArray, List.map_cons, List.map_nil]; first | done | rfl) ?_
                refine (blazonlaw16_awake.calls k2240 t2283  (fun z_ => pal [(0, 0)] (C2272_ z_)) w2271 (fun _ => pal_lt rfl _) A2284).mono ?_
                rintro _ w2286 ⟨C2287, rfl, hs2288⟩
                refine ⟨_, rfl, ?_⟩
                replace hs2288 := Step.lift (U := [(0, 0)]) hs2288 [] rfl rfl
                generalize up C2272_ C2287 w2271.heap.size [(0, 0)] = C2287_ at hs2288
                replace HS2235 := HS2235.trans hs2288 hc rfl
                (try simp only [Act.put, List.setIfInBounds_toArray, ls0, ls1])
                refine st (.bool t2283) rfl rfl (xr_pick true (.bool t2283) rfl rfl rfl) ?_
                simp only [ls0, ls1]
                refine st (.bool t2283) rfl rfl (xr_assign (.bool t2283) rfl rfl) ?_
                simp only [ls0, ls1]
                refine wl_end ?_
                (try simp only [Act.put, List.setIfInBounds_toArray, ls0, ls1])
                refine hK2279 _ _ ?_
                (try clear hK2279 K2279)
                refine wp_ret ?_
                (try simp only [Exit.inBlock, Exit.then, Exit.noGoto])
                (try simp only [Act.put, List.setIfInBounds_toArray, ls0, ls1])
                obtain rfl := Option.some.inj H
                refine bodyPost_ret (results_tmp rfl _ _ _) rfl ?_
                exact ⟨_, rfl, HS2235⟩
              · rw [if_neg c2282] at H
                (try rw [(decide_eq_false c2282)])
                (try simp only [Bool.not_true, Bool.not_false])
                refine sk_guard (guard_off 10 true 49 rfl rfl false (by decide) rfl) rfl ?_
                simp only [ls0, ls1]
                refine st (.bool false) rfl rfl (xr_pick false (.bool false) rfl rfl rfl) ?_
                simp only [ls0, ls1]
                refine st (.bool false) rfl rfl (xr_assign (.bool false) rfl rfl) ?_
                simp only [ls0, ls1]
                refine wl_end ?_
                (try simp only [Act.put, List.setIfInBounds_toArray, ls0, ls1])
                refine hK2279 _ _ ?_
                (try clear hK2279 K2279)
                refine wp_ret ?_
                (try simp only [Exit.inBlock, Exit.then, Exit.noGoto])
                (try simp only [Act.put, List.setIfInBounds_toArray, ls0, ls1])
                obtain rfl := Option.some.inj H
                refine bodyPost_ret (results_tmp rfl _ _ _) rfl ?_
                exact ⟨_, rfl, HS2235⟩
            · rw [if_neg c2281] at H
              (try rw [(decide_eq_false c2281)])
              (try simp only [Bool.not_true, Bool.not_false])
              refine sk_guard (guard_off 6 true 45 rfl rfl false (by decide) rfl) rfl ?_
              simp only [ls0, ls1]
              refine sk_guard (guard_off 6 true 45 rfl rfl false (by decide) rfl) rfl ?_
              simp only [ls0, ls1]
              refine st (.bool false) rfl rfl (xr_pick false (.bool false) rfl rfl rfl) ?_
              simp only [ls0, ls1]
              refine st (.bool false) rfl rfl (xr_move (.bool false) rfl rfl) ?_
              simp only [ls0, ls1]
              refine sk_guard (guard_off 10 true 49 rfl rfl false (by decide) rfl) rfl ?_
              simp only [ls0, ls1]
              refine st (.bool false) rfl rfl (xr_pick false (.bool false) rfl rfl rfl) ?_
              simp only [ls0, ls1]
              refine st (.bool false) rfl rfl (xr_assign (.bool false) rfl rfl) ?_
              simp only [ls0, ls1]
              refine wl_end ?_
              (try simp only [Act.put, List.setIfInBounds_toArray, ls0, ls1])
              refine hK2279 _ _ ?_
              (try clear hK2279 K2279)
              refine wp_ret ?_
              (try simp only [Exit.inBlock, Exit.then, Exit.noGoto])
              (try simp only [Act.put, List.setIfInBounds_toArray, ls0, ls1])
              obtain rfl := Option.some.inj H
              refine bodyPost_ret (results_tmp rfl _ _ _) rfl ?_
              exact ⟨_, rfl, HS2235⟩
          | some o2280 =>
            (try simp only [onOpt] at H)
            obtain ⟨g2289, cs2290, rfl, HX2291, HK2292⟩ := ptr_some HB2275
            obtain ⟨Aq2293_0, cpq2293_0, vq2293_1, rfl, HCq2293_0, HRq2293_0, HRq2293_1⟩ := k91_openF HK2292
            replace HRq2293_0 : Ft C2272_ [0] w2271 (fun w_ => Kd.string.C w_ Aq2293_0 o2280.f0.length o2280.f0) := HRq2293_0
            replace HRq2293_1 : Ft C2272_ [0] w2271 (fun w_ => (Kd.mp Value.string (Value.int .i64)).K w_ o2280.f1 [vq2293_1]) := HRq2293_1
            refine st (.bool false) rfl rfl (xr_bin (.pointer (some ⟨g2289, 0, none⟩)) (.pointer none) (.bool false) rfl rfl rfl (B.eql_pn ⟨_, Try.underlying26⟩ ⟨g2289, 0, none⟩)) ?_
            simp only [ls0, ls1]
            refine st (.bool false) rfl rfl (xr_move (.bool false) rfl rfl) ?_
            simp only [ls0, ls1]
            refine sk_guard (guard_off 2 true 41 rfl rfl false (by decide) rfl) rfl ?_
            simp only [ls0, ls1]
            refine sk_guard (guard_off 2 true 41 rfl rfl false (by decide) rfl) rfl ?_
            simp only [ls0, ls1]
            refine st (.bool false) rfl rfl (xr_pick false (.bool false) rfl rfl rfl) ?_
            simp only [ls0, ls1]
            refine st (.bool false) rfl rfl (xr_move (.bool false) rfl rfl) ?_
            simp only [ls0, ls1]
            refine sk_guard (guard_off 6 true 45 rfl rfl false (by decide) rfl) rfl ?_
            simp only [ls0, ls1]
            refine sk_guard (guard_off 6 true 45 rfl rfl false (by decide) rfl) rfl ?_
            simp only [ls0, ls1]
            refine st (.bool false) rfl rfl (xr_pick false (.bool false) rfl rfl rfl) ?_
            simp only [ls0, ls1]
            refine st (.bool false) rfl rfl (xr_move (.bool false) rfl rfl) ?_
            simp only [ls0, ls1]
            refine sk_guard (guard_off 10 true 49 rfl rfl false (by decide) rfl) rfl ?_
            simp only [ls0, ls1]
            refine st (.bool false) rfl rfl (xr_pick false (.bool false) rfl rfl rfl) ?_
            simp only [ls0, ls1]
            refine st (.bool false) rfl rfl (xr_assign (.bool false) rfl rfl) ?_
            simp only [ls0, ls1]
            refine wl_end ?_
            (try simp only [Act.put, List.setIfInBounds_toArray, ls0, ls1])
            refine hK2279 _ _ ?_
            (try clear hK2279 K2279)
            refine wp_ret ?_
            (try simp only [Exit.inBlock, Exit.then, Exit.noGoto])
            (try simp only [Act.put, List.setIfInBounds_toArray, ls0, ls1])
            obtain rfl := Option.some.inj H
            refine bodyPost_ret (results_tmp rfl _ _ _) rfl ?_
            exact ⟨_, rfl, HS2235⟩
        · rw [if_neg c2278] at H
          (try rw [(decide_eq_false c2278)])
          (try simp only [Bool.not_true, Bool.not_false])
          refine wp_cond_false rfl ?_
          refine wp_skip ?_
          (try simp only [Act.put, List.setIfInBounds_toArray, ls0, ls1])
          refine hK2276 _ _ ?_
          (try clear hK2276 K2276)
          refine wp_seq_k fun K2294 hK2294 => ?_
          refine wl_region ?_
          refine st (v2274) rfl rfl (xr_move (v2274) rfl rfl) ?_
          simp only [ls0, ls1]
          obtain ⟨t2295, A2296, H⟩ := Option.bind_eq_some_iff.mp H
          (try dsimp only at H)
          refine st_call #[v2274] rfl rfl Try.func14 (by kernel_rfl) rfl rfl (by simp only [List.map_toArray, List.map_cons, List.map_nil]; first | done | rfl) ?_
          refine (row_Table_Len.calls v2274 t2266 t2295  (fun z_ => pal [(0, 0)] (C2272_ z_)) w2271 (fun _ => pal_lt rfl _) (Ft.arg HB2275 rfl) A2296).mono ?_
          rintro _ w2298 ⟨C2299, rfl, hs2300⟩
          refine ⟨_, rfl, ?_⟩
          replace hs2300 := Step.lift (U := [(0, 0)]) hs2300 [] rfl rfl
          generalize up C2272_ C2299 w2271.heap.size [(0, 0)] = C2299_ at hs2300
          replace HS2235 := HS2235.trans hs2300 hc rfl
          (try simp only [Act.put, List.setIfInBounds_toArray, ls0, ls1])
          refine st (.int .i64 (Int.tmod (wrap64 (a0)) 70)) rfl rfl (xr_move (.int .i64 (Int.tmod (wrap64 (a0)) 70)) rfl rfl) ?_
          simp only [ls0, ls1]
          refine st (.bool (decide (t2295 = (Int.tmod (wrap64 (a0)) 70)))) rfl rfl (xr_bin (.int .i64 t2295) (.int .i64 (Int.tmod (wrap64 (a0)) 70)) (.bool (decide (t2295 = (Int.tmod (wrap64 (a0)) 70)))) rfl rfl rfl (B.eql_i64 t2295 (Int.tmod (wrap64 (a0)) 70))) ?_
          simp only [ls0, ls1]
          refine st (.bool (decide (t2295 = (Int.tmod (wrap64 (a0)) 70)))) rfl rfl (xr_move (.bool (decide (t2295 = (Int.tmod (wrap64 (a0)) 70)))) rfl rfl) ?_
          simp only [ls0, ls1]
          by_cases c2301 : t2295 = (Int.tmod (wrap64 (a0)) 70)
          · rw [if_pos c2301] at H
            (try rw [(decide_eq_true c2301)])
            (try simp only [Bool.not_true, Bool.not_false])
            refine on_guard (guard_on 4 true 56 rfl rfl rfl) ?_
            refine st (.int .i64 t2268) rfl rfl (xr_move (.int .i64 t2268) rfl rfl) ?_
            simp only [ls0, ls1]
            refine on_guard (guard_on 4 true 56 rfl rfl rfl) ?_
            refine st (.bool (decide (t2268 = 0))) rfl rfl (xr_bin (.int .i64 t2268) (.int .i64 0) (.bool (decide (t2268 = 0))) rfl rfl rfl (B.eql_i64 t2268 0)) ?_
            simp only [ls0, ls1]
            refine st (.bool (decide (t2268 = 0))) rfl rfl (xr_pick true (.bool (decide (t2268 = 0))) rfl rfl rfl) ?_
            simp only [ls0, ls1]
            refine st (.bool (decide (t2268 = 0))) rfl rfl (xr_move (.bool (decide (t2268 = 0))) rfl rfl) ?_
            simp only [ls0, ls1]
            by_cases c2302 : t2268 = 0
            · rw [if_pos c2302] at H
              (try rw [(decide_eq_true c2302)])
              (try simp only [Bool.not_true, Bool.not_false])
              refine on_guard (guard_on 8 true 60 rfl rfl rfl) ?_
              obtain ⟨t2303, A2304, H⟩ := Option.bind_eq_some_iff.mp H
              (try dsimp only at H)
              refine st_call #[] rfl rfl Try.func13 (by kernel_rfl) rfl rfl (by simp only [List.map_toArray, List.map_cons, List.map_nil]; first | done | rfl) ?_
              refine (blazonlaw16_awake.calls k2240 t2303  (fun z_ => pal [(0, 0)] (C2299_ z_)) w2298 (fun _ => pal_lt rfl _) A2304).mono ?_
              rintro _ w2306 ⟨C2307, rfl, hs2308⟩
              refine ⟨_, rfl, ?_⟩
              replace hs2308 := Step.lift (U := [(0, 0)]) hs2308 [] rfl rfl
              generalize up C2299_ C2307 w2298.heap.size [(0, 0)] = C2307_ at hs2308
              replace HS2235 := HS2235.trans hs2308 hc rfl
              (try simp only [Act.put, List.setIfInBounds_toArray, ls0, ls1])
              refine st (.bool t2303) rfl rfl (xr_pick true (.bool t2303) rfl rfl rfl) ?_
              simp only [ls0, ls1]
              refine st (.bool t2303) rfl rfl (xr_assign (.bool t2303) rfl rfl) ?_
              simp only [ls0, ls1]
              refine wl_end ?_
              (try simp only [Act.put, List.setIfInBounds_toArray, ls0, ls1])
              refine hK2294 _ _ ?_
              (try clear hK2294 K2294)
              refine wp_ret ?_
              (try simp only [Exit.inBlock, Exit.then, Exit.noGoto])
              (try simp only [Act.put, List.setIfInBounds_toArray, ls0, ls1])
              obtain rfl := Option.some.inj H
              refine bodyPost_ret (results_tmp rfl _ _ _) rfl ?_
              exact ⟨_, rfl, HS2235⟩
            · rw [if_neg c2302] at H
              (try rw [(decide_eq_false c2302)])
              (try simp only [Bool.not_true, Bool.not_false])
              refine sk_guard (guard_off 8 true 60 rfl rfl false (by decide) rfl) rfl ?_
              simp only [ls0, ls1]
              refine st (.bool false) rfl rfl (xr_pick false (.bool false) rfl rfl rfl) ?_
              simp only [ls0, ls1]
              refine st (.bool false) rfl rfl (xr_assign (.bool false) rfl rfl) ?_
              simp only [ls0, ls1]
              refine wl_end ?_
              (try simp only [Act.put, List.setIfInBounds_toArray, ls0, ls1])
              refine hK2294 _ _ ?_
              (try clear hK2294 K2294)
              refine wp_ret ?_
              (try simp only [Exit.inBlock, Exit.then, Exit.noGoto])
              (try simp only [Act.put, List.setIfInBounds_toArray, ls0, ls1])
              obtain rfl := Option.some.inj H
              refine bodyPost_ret (results_tmp rfl _ _ _) rfl ?_
              exact ⟨_, rfl, HS2235⟩
          · rw [if_neg c2301] at H
            (try rw [(decide_eq_false c2301)])
            (try simp only [Bool.not_true, Bool.not_false])
            refine sk_guard (guard_off 4 true 56 rfl rfl false (by decide) rfl) rfl ?_
            simp only [ls0, ls1]
            refine sk_guard (guard_off 4 true 56 rfl rfl false (by decide) rfl) rfl ?_
            simp only [ls0, ls1]
            refine st (.bool false) rfl rfl (xr_pick false (.bool false) rfl rfl rfl) ?_
            simp only [ls0, ls1]
            refine st (.bool false) rfl rfl (xr_move (.bool false) rfl rfl) ?_
            simp only [ls0, ls1]
            refine sk_guard (guard_off 8 true 60 rfl rfl false (by decide) rfl) rfl ?_
            simp only [ls0, ls1]
            refine st (.bool false) rfl rfl (xr_pick false (.bool false) rfl rfl rfl) ?_
            simp only [ls0, ls1]
            refine st (.bool false) rfl rfl (xr_assign (.bool false) rfl rfl) ?_
            simp only [ls0, ls1]
            refine wl_end ?_
            (try simp only [Act.put, List.setIfInBounds_toArray, ls0, ls1])
            refine hK2294 _ _ ?_
            (try clear hK2294 K2294)
            refine wp_ret ?_
            (try simp only [Exit.inBlock, Exit.then, Exit.noGoto])
            (try simp only [Act.put, List.setIfInBounds_toArray, ls0, ls1])
            obtain rfl := Option.some.inj H
            refine bodyPost_ret (results_tmp rfl _ _ _) rfl ?_
            exact ⟨_, rfl, HS2235⟩
/-- THE ONE PURE STATEMENT of blazonlaw16_RowFull. -/
def blazonlaw16_RowFull.Pure : Prop := ∀ (a0 : Int), (Lit.int .u8 a0).wf = true → ∃ k, blazonlaw16_RowFull.f k a0 = some true
theorem blazonlaw16_RowFull.walk (P : blazonlaw16_RowFull.Pure) (a0 : Int) (w : World) (w0 : (Lit.int .u8 a0).wf = true) :
    Calls Try.prog 3 #[.int .u8 a0] w fun e w' => e = .returned (.bool true) ∧ Below w.heap.size w w' := by
  obtain ⟨k, h⟩ := P a0 w0
  refine (blazonlaw16_RowFull.calls k a0 true (fun _ => 0) w (fun _ => (by decide : (0 : Nat) < 10)) h).mono ?_
  rintro e w' ⟨c', rfl, hs⟩
  exact ⟨rfl, hs.below (fun _ => by simp)⟩

/-! ### blazonref16_Great: function 15 -/
mutual
def blazonref16_Great.j0 : Nat → Int → (List (S25)) → Int → Bool → Option (Bool)
  | 0, _, _, _, _ => none
  | k + 1, a1, l0, x2529, x2562 => if x2562 = true then (if 0 ≤ x2529 then (if x2529 < (l0.length : Int) then (if (((rd_T25 l0 x2529).f0).size : Int) > 100 then (some true) else (blazonref16_Great.l0 k a1 l0 (wrap64 (x2529 + 1)))) else (none)) else (none)) else (some (decide ((l0.length : Int) > a1)))
def blazonref16_Great.l0 : Nat → Int → (List (S25)) → Int → Option (Bool)
  | 0, _, _, _ => none
  | k + 1, a1, l0, x2529 => if x2529 < (l0.length : Int) then (blazonref16_Great.j0 k a1 l0 x2529 (decide (x2529 < a1))) else (blazonref16_Great.j0 k a1 l0 x2529 false)
end
def blazonref16_Great.f (k : Nat) (l0 : List (S25)) (a1 : Int) : Option (Bool) := blazonref16_Great.l0 k a1 l0 0

set_option maxHeartbeats 2000000 in
set_option maxRecDepth 100000 in
theorem blazonref16_Great.calls (k : Nat) (A0 : Option Addr) (c0 : Nat) (l0 : List (S25)) (a1 : Int) (r : Bool) (c : Nat → Nat) (w : World) (hc : ∀ k, c k < 10) (HP0 : Ft c [0] w (fun w_ => k25.C w_ A0 l0.length l0)) (HCP0 : l0.length ≤ c0) (H : blazonref16_Great.f k l0 a1 = some r) :
    Calls Try.prog 15 #[.slice A0 l0.length c0, .int .i64 a1] w fun e w' => ∃ (c' : Nat → Nat) , e = .returned (.bool r) ∧ Step c w c' w' [] := by
  unfold blazonref16_Great.f at H
  have HS := Step.refl c w []
  go_enter Try.func15, Try.ntmps15
  refine wp_seq_k fun K2444 hK2444 => ?_
  refine wl_region ?_
  refine st (.bool false) rfl rfl (xr_assign (.bool false) rfl rfl) ?_
  simp only [ls0, ls1]
  refine wl_end ?_
  (try simp only [Act.put, List.setIfInBounds_toArray, ls0, ls1])
  refine hK2444 _ _ ?_
  (try clear hK2444 K2444)
  refine wp_seq_k fun K2445 hK2445 => ?_
  refine wp_seq_k fun K2446 hK2446 => ?_
  refine wl_region ?_
  refine st (.int .i64 0) rfl rfl (xr_assign (.int .i64 0) rfl rfl) ?_
  simp only [ls0, ls1]
  refine wl_end ?_
  (try simp only [Act.put, List.setIfInBounds_toArray, ls0, ls1])
  refine hK2446 _ _ ?_
  (try clear hK2446 K2446)
  refine wp_block ?_
  (try simp only [Act.put, List.setIfInBounds_toArray, ls0, ls1])
  refine wp_looped (looped_ind (fun kq2533 a_ w2532 => ∃ (C2531 : Nat → Nat) (x2529 : Int) (g2530 : Nat → Value), a_ = ⟨#[.slice A0 l0.length c0, .int .i64 a1, (g2530 2), (g2530 3), (g2530 4), .int .i64 x2529, (g2530 6), (g2530 7), (g2530 8), (g2530 9), (g2530 10), (g2530 11), (g2530 12), (g2530 13), (g2530 14), (g2530 15), (g2530 16), (g2530 17), (g2530 18), (g2530 19), (g2530 20), (g2530 21), (g2530 22), (g2530 23), (g2530 24), (g2530 25), (g2530 26), (g2530 27)], []⟩ ∧ Step c w C2531 w2532 [] ∧ kq2533 ≤ k ∧ (Ft C2531 [0] w2532 (fun w_ => k25.C w_ A0 l0.length l0)) ∧ blazonref16_Great.l0 kq2533 a1 l0 x2529 = some r) ?step k _ _ ?init)
  case init =>
    exact ⟨_, 0, (fun q_ => List.getD [undef, undef, undef, undef, .bool false, undef, undef, undef, undef, undef, undef, undef, undef, undef, undef, undef, undef, undef, undef, undef, undef, undef, undef, undef, undef, undef, undef, undef] q_ undef), rfl, HS, Nat.le_refl _, HP0, H⟩
  case step =>
    intro kq2533 ih2536 a2537 w2532 hr2538
    obtain ⟨C2531, x2529, g2530, rfl, HS2534, hk2535, HJ2528, H⟩ := hr2538
    refine looped_round ?_
    cases kq2533 with
    | zero => exact absurd H (by simp [blazonref16_Great.l0])
    | succ k2539 =>
      simp only [blazonref16_Great.l0] at H
      refine wp_seq_k fun K2540 hK2540 => ?_
      refine wp_seq_k fun K2555 hK2555 => ?_
      have hj2557 : ∀ (kq2564 : Nat) (C2558 : Nat → Nat) (w2559 : World) (x2562 : Bool) (g2563 : Nat → Value), Step c w C2558 w2559 [] → kq2564 ≤ k2539 → (Ft C2558 [0] w2559 (fun w_ => k25.C w_ A0 l0.length l0)) → blazonref16_Great.j0 kq2564 a1 l0 x2529 x2562 = some r → K2555 ⟨#[.slice A0 l0.length c0, .int .i64 a1, (g2563 2), (g2563 3), (g2563 4), .int .i64 x2529, (g2563 6), (g2563 7), (g2563 8), (g2563 9), (g2563 10), (g2563 11), (g2563 12), (g2563 13), .bool x2562, (g2563 15), (g2563 16), (g2563 17), (g2563 18), (g2563 19), (g2563 20), (g2563 21), (g2563 22), (g2563 23), (g2563 24), (g2563 25), (g2563 26), (g2563 27)], []⟩ w2559 := by
        intro kq2564 C2558 w2559 x2562 g2563 HS2560 hk2565 HJ2561 H
        cases kq2564 with
        | zero => exact absurd H (by simp [blazonref16_Great.j0])
        | succ k2566 =>
          simp only [blazonref16_Great.j0] at H
          refine hK2555 _ _ ?_
          (try clear hK2555)
          by_cases c2567 : x2562 = true
          · rw [if_pos c2567] at H
            (try rw [c2567])
            (try simp only [Bool.not_true, Bool.not_false])
            refine wp_cond_true rfl ?_
            refine wp_skip ?_
            (try simp only [Act.put, List.setIfInBounds_toArray, ls0, ls1])
            refine hK2540 _ _ ?_
            (try clear hK2540 K2540)
            refine wp_seq_k fun K2568 hK2568 => ?_
            refine wp_block ?_
            refine wp_seq_k fun K2569 hK2569 => ?_
            refine wl_region ?_
            refine st (.slice A0 l0.length c0) rfl rfl (xr_move (.slice A0 l0.length c0) rfl rfl) ?_
            simp only [ls0, ls1]
            refine st (.int .i64 x2529) rfl rfl (xr_move (.int .i64 x2529) rfl rfl) ?_
            simp only [ls0, ls1]
            by_cases c2570 : 0 ≤ x2529
            · rw [if_pos c2570] at H
              by_cases c2571 : x2529 < (l0.length : Int)
              · rw [if_pos c2571] at H
                obtain ⟨ad2572, hA2573⟩ := c_addr (Ft.now HJ2561) (pos_of (j := x2529) (by first | assumption | decide) (by first | assumption | omega))
                refine st (.pointer (some (ad2572.add ((x2529 : Int).toNat * 2)))) rfl rfl (xr_indexAddr (.slice A0 l0.length c0) (.int .i64 x2529) (.pointer (some (ad2572.add ((x2529 : Int).toNat * 2)))) rfl rfl rfl (index_at Try.underlying22 info25 hA2573 (by first | assumption | decide | omega) (by first | assumption | decide | omega))) ?_
                simp only [ls0, ls1]
                refine st (.pointer (some ((ad2572.add ((x2529 : Int).toNat * 2)).add 0))) rfl rfl (xr_fieldAddr (.pointer (some (ad2572.add ((x2529 : Int).toNat * 2)))) (.pointer (some ((ad2572.add ((x2529 : Int).toNat * 2)).add 0))) rfl rfl (field_at2 Try.underlying25 rfl rfl (by kernel_rfl))) ?_
                simp only [ls0, ls1]
                refine st (.string ((rd_T25 l0 x2529).f0)) rfl rfl (xr_load (.pointer (some ((ad2572.add ((x2529 : Int).toNat * 2)).add 0))) (.string ((rd_T25 l0 x2529).f0)) rfl rfl (by obtain ⟨ad_, cs_, e_, _, hK_, hc_⟩ := Kd.C_get (Ft.now HJ2561) z25 x2529 (by first | assumption | decide | omega) (by first | assumption | decide | omega); rw [hA2573] at e_; injection e_ with e_; subst e_; obtain rfl := k25_open hK_; exact load_cell Try.underlying9 rfl (by first | (rw [add_add]; exact hc_ 0 _ rfl) | (have h_ := hc_ 0 _ rfl; rw [Nat.add_zero] at h_; exact h_)))) ?_
                simp only [ls0, ls1]
                refine st (.int .i64 (((rd_T25 l0 x2529).f0).size : Int)) rfl rfl (xr_builtin #[.string ((rd_T25 l0 x2529).f0)] (.int .i64 (((rd_T25 l0 x2529).f0).size : Int)) rfl (by simp only [List.map_toArray, List.map_cons, List.map_nil]; first | done | rfl) (by first | rfl | (go_simp; done) | (go_simp; rfl) | (go_simp; exact i64_w _) | (go_simp; exact i32_w _))) ?_
                simp only [ls0, ls1]
                refine st (.bool (decide ((((rd_T25 l0 x2529).f0).size : Int) > 100))) rfl rfl (xr_bin (.int .i64 (((rd_T25 l0 x2529).f0).size : Int)) (.int .i64 100) (.bool (decide ((((rd_T25 l0 x2529).f0).size : Int) > 100))) rfl rfl rfl (B.gtr_i64 (((rd_T25 l0 x2529).f0).size : Int) 100)) ?_
                simp only [ls0, ls1]
                refine wl_end ?_
                (try simp only [Act.put, List.setIfInBounds_toArray, ls0, ls1])
                refine hK2569 _ _ ?_
                (try clear hK2569 K2569)
                by_cases c2575 : (((rd_T25 l0 x2529).f0).size : Int) > 100
                · rw [if_pos c2575] at H
                  (try rw [(decide_eq_true c2575)])
                  (try simp only [Bool.not_true, Bool.not_false])
                  refine wp_cond_true rfl ?_
                  refine wp_seq_k fun K2576 hK2576 => ?_
                  refine wl_region ?_
                  refine st (.bool true) rfl rfl (xr_assign (.bool true) rfl rfl) ?_
                  simp only [ls0, ls1]
                  refine wl_end ?_
                  (try simp only [Act.put, List.setIfInBounds_toArray, ls0, ls1])
                  refine hK2576 _ _ ?_
                  (try clear hK2576 K2576)
                  refine wp_ret ?_
                  (try simp only [Exit.inBlock, Exit.then, Exit.noGoto])
                  (try simp only [Act.put, List.setIfInBounds_toArray, ls0, ls1])
                  obtain rfl := Option.some.inj H
                  refine bodyPost_ret (results_tmp rfl _ _ _) rfl ?_
                  exact ⟨_, rfl, HS2560⟩
                · rw [if_neg c2575] at H
                  (try rw [(decide_eq_false c2575)])
                  (try simp only [Bool.not_true, Bool.not_false])
                  refine wp_cond_false rfl ?_
                  refine wp_skip ?_
                  (try simp only [Act.put, List.setIfInBounds_toArray, ls0, ls1])
                  refine hK2568 _ _ ?_
                  (try clear hK2568 K2568)
                  refine wl_region ?_
                  refine st (.int .i64 x2529) rfl rfl (xr_move (.int .i64 x2529) rfl rfl) ?_
                  simp only [ls0, ls1]
                  refine st (.int .i64 (wrap64 (x2529 + 1))) rfl rfl (xr_bin (.int .i64 x2529) (.int .i64 1) (.int .i64 (wrap64 (x2529 + 1))) rfl rfl rfl (B.add_i64 x2529 1)) ?_
                  simp only [ls0, ls1]
                  refine st (.int .i64 (wrap64 (x2529 + 1))) rfl rfl (xr_assign (.int .i64 (wrap64 (x2529 + 1))) rfl rfl) ?_
                  simp only [ls0, ls1]
                  refine wl_end ?_
                  (try simp only [Act.put, List.setIfInBounds_toArray, ls0, ls1])
                  exact ih2536 k2566 (by omega) _ _ ⟨_, wrap64 (x2529 + 1), (fun q_ => List.getD [undef, undef, (g2563 2), (g2563 3), (g2563 4), undef, (g2563 6), (g2563 7), (g2563 8), (g2563 9), (g2563 10), (g2563 11), (g2563 12), (g2563 13), .bool true, .int .i64 x2529, .int .i64 (wrap64 (x2529 + 1)), .slice A0 l0.length c0, .int .i64 x2529, .pointer (some (ad2572.add ((x2529 : Int).toNat * 2))), .pointer (some ((ad2572.add ((x2529 : Int).toNat * 2)).add 0)), .string ((rd_T25 l0 x2529).f0), .int .i64 (((rd_T25 l0 x2529).f0).size : Int), .bool false, (g2563 24), (g2563 25), (g2563 26), (g2563 27)] q_ undef), rfl, HS2560, (by omega), HJ2561, H⟩
              · rw [if_neg c2571] at H
                exact absurd H (by simp)
            · rw [if_neg c2570] at H
              exact absurd H (by simp)
          · rw [if_neg c2567] at H
            (try rw [(Bool.eq_false_iff.mpr c2567)])
            (try simp only [Bool.not_true, Bool.not_false])
            refine wp_cond_false rfl ?_
            refine wp_exit ?_
            (try simp only [Act.put, List.setIfInBounds_toArray, ls0, ls1])
            refine hK2445 _ _ ?_
            (try clear hK2445 K2445)
            refine wp_seq_k fun K2577 hK2577 => ?_
            refine wl_region ?_
            refine st (.slice A0 l0.length c0) rfl rfl (xr_move (.slice A0 l0.length c0) rfl rfl) ?_
            simp only [ls0, ls1]
            refine st (.int .i64 (l0.length : Int)) rfl rfl (xr_builtin #[.slice A0 l0.length c0] (.int .i64 (l0.length : Int)) rfl (by simp only [List.map_toArray, List.map_cons, List.map_nil]; first | done | rfl) (by first | rfl | (go_simp; done) | (go_simp; rfl) | (go_simp; exact i64_w _) | (go_simp; exact i32_w _))) ?_
            simp only [ls0, ls1]
            refine st (.int .i64 a1) rfl rfl (xr_move (.int .i64 a1) rfl rfl) ?_
            simp only [ls0, ls1]
            refine st (.bool (decide ((l0.length : Int) > a1))) rfl rfl (xr_bin (.int .i64 (l0.length : Int)) (.int .i64 a1) (.bool (decide ((l0.length : Int) > a1))) rfl rfl rfl (B.gtr_i64 (l0.length : Int) a1)) ?_
            simp only [ls0, ls1]
            refine st (.bool (decide ((l0.length : Int) > a1))) rfl rfl (xr_assign (.bool (decide ((l0.length : Int) > a1))) rfl rfl) ?_
            simp only [ls0, ls1]
            refine wl_end ?_
            (try simp only [Act.put, List.setIfInBounds_toArray, ls0, ls1])
            refine hK2577 _ _ ?_
            (try clear hK2577 K2577)
            refine wp_ret ?_
            (try simp only [Exit.inBlock, Exit.then, Exit.noGoto])
            (try simp only [Act.put, List.setIfInBounds_toArray, ls0, ls1])
            obtain rfl := Option.some.inj H
            refine bodyPost_ret (results_tmp rfl _ _ _) rfl ?_
            exact ⟨_, rfl, HS2560⟩
      refine wl_region ?_
      refine st (.int .i64 x2529) rfl rfl (xr_move (.int .i64 x2529) rfl rfl) ?_
      simp only [ls0, ls1]
      refine st (.slice A0 l0.length c0) rfl rfl (xr_move (.slice A0 l0.length c0) rfl rfl) ?_
      simp only [ls0, ls1]
      refine st (.int .i64 (l0.length : Int)) rfl rfl (xr_builtin #[.slice A0 l0.length c0] (.int .i64 (l0.length : Int)) rfl (by simp only [List.map_toArray, List.map_cons, List.map_nil]; first | done | rfl) (by first | rfl | (go_simp; done) | (go_simp; rfl) | (go_simp; exact i64_w _) | (go_simp; exact i32_w _))) ?_
      simp only [ls0, ls1]
      refine st (.bool (decide (x2529 < (l0.length : Int)))) rfl rfl (xr_bin (.int .i64 x2529) (.int .i64 (l0.length : Int)) (.bool (decide (x2529 < (l0.length : Int)))) rfl rfl rfl (B.lss_i64 x2529 (l0.length : Int))) ?_
      simp only [ls0, ls1]
      refine st (.bool (decide (x2529 < (l0.length : Int)))) rfl rfl (xr_move (.bool (decide (x2529 < (l0.length : Int)))) rfl rfl) ?_
      simp only [ls0, ls1]
      by_cases c2578 : x2529 < (l0.length : Int)
      · rw [if_pos c2578] at H
        (try rw [(decide_eq_true c2578)])
        (try simp only [Bool.not_true, Bool.not_false])
        refine on_guard (guard_on 4 true 10 rfl rfl rfl) ?_
        refine st (.int .i64 x2529) rfl rfl (xr_move (.int .i64 x2529) rfl rfl) ?_
        simp only [ls0, ls1]
        refine on_guard (guard_on 4 true 10 rfl rfl rfl) ?_
        refine st (.int .i64 a1) rfl rfl (xr_move (.int .i64 a1) rfl rfl) ?_
        simp only [ls0, ls1]
        refine on_guard (guard_on 4 true 10 rfl rfl rfl) ?_
        refine st (.bool (decide (x2529 < a1))) rfl rfl (xr_bin (.int .i64 x2529) (.int .i64 a1) (.bool (decide (x2529 < a1))) rfl rfl rfl (B.lss_i64 x2529 a1)) ?_
        simp only [ls0, ls1]
        refine st (.bool (decide (x2529 < a1))) rfl rfl (xr_pick true (.bool (decide (x2529 < a1))) rfl rfl rfl) ?_
        simp only [ls0, ls1]
        refine wl_end ?_
        (try simp only [Act.put, List.setIfInBounds_toArray, ls0, ls1])
        exact hj2557 _ _ _ (decide (x2529 < a1)) (fun q_ => List.getD [undef, undef, (g2530 2), (g2530 3), (g2530 4), undef, .int .i64 x2529, .slice A0 l0.length c0, .int .i64 (l0.length : Int), .bool true, .bool true, .int .i64 x2529, .int .i64 a1, .bool (decide (x2529 < a1)), undef, (g2530 15), (g2530 16), (g2530 17), (g2530 18), (g2530 19), (g2530 20), (g2530 21), (g2530 22), (g2530 23), (g2530 24), (g2530 25), (g2530 26), (g2530 27)] q_ undef)  HS2534 (by omega) HJ2528 H
      · rw [if_neg c2578] at H
        (try rw [(decide_eq_false c2578)])
        (try simp only [Bool.not_true, Bool.not_false])
        refine sk_guard (guard_off 4 true 10 rfl rfl false (by decide) rfl) rfl ?_
        simp only [ls0, ls1]
        refine sk_guard (guard_off 4 true 10 rfl rfl false (by decide) rfl) rfl ?_
        simp only [ls0, ls1]
        refine sk_guard (guard_off 4 true 10 rfl rfl false (by decide) rfl) rfl ?_
        simp only [ls0, ls1]
        refine st (.bool false) rfl rfl (xr_pick false (.bool false) rfl rfl rfl) ?_
        simp only [ls0, ls1]
        refine wl_end ?_
        (try simp only [Act.put, List.setIfInBounds_toArray, ls0, ls1])
        exact hj2557 _ _ _ (false) (fun q_ => List.getD [undef, undef, (g2530 2), (g2530 3), (g2530 4), undef, .int .i64 x2529, .slice A0 l0.length c0, .int .i64 (l0.length : Int), .bool false, .bool false, undef, undef, undef, undef, (g2530 15), (g2530 16), (g2530 17), (g2530 18), (g2530 19), (g2530 20), (g2530 21), (g2530 22), (g2530 23), (g2530 24), (g2530 25), (g2530 26), (g2530 27)] q_ undef)  HS2534 (by omega) HJ2528 H

/-! ### blazonref13_Find: function 18 -/
def blazonref13_Find.l0 : Nat → ByteArray → (List ByteArray) → Int → Option (Int)
  | 0, _, _, _ => none
  | k + 1, a1, l0, x2655 => if x2655 < (l0.length : Int) then (if 0 ≤ x2655 then (if (rdOf ByteArray.empty l0 x2655) = a1 then (some x2655) else (blazonref13_Find.l0 k a1 l0 (wrap64 (x2655 + 1)))) else (none)) else (some (-1))
def blazonref13_Find.f (k : Nat) (l0 : List ByteArray) (a1 : ByteArray) : Option (Int) := blazonref13_Find.l0 k a1 l0 0

set_option maxHeartbeats 2000000 in
set_option maxRecDepth 100000 in
theorem blazonref13_Find.calls (k : Nat) (A0 : Option Addr) (c0 : Nat) (l0 : List ByteArray) (a1 : ByteArray) (r : Int) (c : Nat → Nat) (w : World) (hc : ∀ k, c k < 10) (HP0 : Ft c [0] w (fun w_ => Kd.string.C w_ A0 l0.length l0)) (HCP0 : l0.length ≤ c0) (H : blazonref13_Find.f k l0 a1 = some r) :
    Calls Try.prog 18 #[.slice A0 l0.length c0, .string a1] w fun e w' => ∃ (c' : Nat → Nat) , e = .returned (.int .i64 r) ∧ Step c w c' w' [] := by
  unfold blazonref13_Find.f at H
  have HS := Step.refl c w []
  go_enter Try.func18, Try.ntmps18
  refine wp_seq_k fun K2628 hK2628 => ?_
  refine wl_region ?_
  refine st (.int .i64 0) rfl rfl (xr_assign (.int .i64 0) rfl rfl) ?_
  simp only [ls0, ls1]
  refine wl_end ?_
  (try simp only [Act.put, List.setIfInBounds_toArray, ls0, ls1])
  refine hK2628 _ _ ?_
  (try clear hK2628 K2628)
  refine wp_seq_k fun K2629 hK2629 => ?_
  refine wp_seq_k fun K2630 hK2630 => ?_
  refine wl_region ?_
  refine st (.int .i64 0) rfl rfl (xr_assign (.int .i64 0) rfl rfl) ?_
  simp only [ls0, ls1]
  refine wl_end ?_
  (try simp only [Act.put, List.setIfInBounds_toArray, ls0, ls1])
  refine hK2630 _ _ ?_
  (try clear hK2630 K2630)
  refine wp_block ?_
  (try simp only [Act.put, List.setIfInBounds_toArray, ls0, ls1])
  refine wp_looped (looped_ind (fun kq2659 a_ w2658 => ∃ (C2657 : Nat → Nat) (x2655 : Int) (g2656 : Nat → Value), a_ = ⟨#[.slice A0 l0.length c0, .string a1, (g2656 2), (g2656 3), (g2656 4), .int .i64 x2655, (g2656 6), (g2656 7), (g2656 8), (g2656 9), (g2656 10), (g2656 11), (g2656 12), (g2656 13), (g2656 14), (g2656 15), (g2656 16), (g2656 17), (g2656 18)], []⟩ ∧ Step c w C2657 w2658 [] ∧ kq2659 ≤ k ∧ (Ft C2657 [0] w2658 (fun w_ => Kd.string.C w_ A0 l0.length l0)) ∧ blazonref13_Find.l0 kq2659 a1 l0 x2655 = some r) ?step k _ _ ?init)
  case init =>
    exact ⟨_, 0, (fun q_ => List.getD [undef, undef, undef, undef, .int .i64 0, undef, undef, undef, undef, undef, undef, undef, undef, undef, undef, undef, undef, undef, undef] q_ undef), rfl, HS, Nat.le_refl _, HP0, H⟩
  case step =>
    intro kq2659 ih2662 a2663 w2658 hr2664
    obtain ⟨C2657, x2655, g2656, rfl, HS2660, hk2661, HJ2654, H⟩ := hr2664
    refine looped_round ?_
    cases kq2659 with
    | zero => exact absurd H (by simp [blazonref13_Find.l0])
    | succ k2665 =>
      simp only [blazonref13_Find.l0] at H
      refine wp_seq_k fun K2666 hK2666 => ?_
      refine wp_seq_k fun K2667 hK2667 => ?_
      refine wl_region ?_
      refine st (.int .i64 x2655) rfl rfl (xr_move (.int .i64 x2655) rfl rfl) ?_
      simp only [ls0, ls1]
      refine st (.slice A0 l0.length c0) rfl rfl (xr_move (.slice A0 l0.length c0) rfl rfl) ?_
      simp only [ls0, ls1]
      refine st (.int .i64 (l0.length : Int)) rfl rfl (xr_builtin #[.slice A0 l0.length c0] (.int .i64 (l0.length : Int)) rfl (by simp only [List.map_toArray, List.map_cons, List.map_nil]; first | done | rfl) (by first | rfl | (go_simp; done) | (go_simp; rfl) | (go_simp; exact i64_w _) | (go_simp; exact i32_w _))) ?_
      simp only [ls0, ls1]
      refine st (.bool (decide (x2655 < (l0.length : Int)))) rfl rfl (xr_bin (.int .i64 x2655) (.int .i64 (l0.length : Int)) (.bool (decide (x2655 < (l0.length : Int)))) rfl rfl rfl (B.lss_i64 x2655 (l0.length : Int))) ?_
      simp only [ls0, ls1]
      refine wl_end ?_
      (try simp only [Act.put, List.setIfInBounds_toArray, ls0, ls1])
      refine hK2667 _ _ ?_
      (try clear hK2667 K2667)
      by_cases c2668 : x2655 < (l0.length : Int)
      · rw [if_pos c2668] at H
        (try rw [(decide_eq_true c2668)])
        (try simp only [Bool.not_true, Bool.not_false])
        refine wp_cond_true rfl ?_
        refine wp_skip ?_
        (try simp only [Act.put, List.setIfInBounds_toArray, ls0, ls1])
        refine hK2666 _ _ ?_
        (try clear hK2666 K2666)
        refine wp_seq_k fun K2669 hK2669 => ?_
        refine wp_block ?_
        refine wp_seq_k fun K2670 hK2670 => ?_
        refine wl_region ?_
        refine st (.slice A0 l0.length c0) rfl rfl (xr_move (.slice A0 l0.length c0) rfl rfl) ?_
        simp only [ls0, ls1]
        refine st (.int .i64 x2655) rfl rfl (xr_move (.int .i64 x2655) rfl rfl) ?_
        simp only [ls0, ls1]
        by_cases c2671 : 0 ≤ x2655
        · rw [if_pos c2671] at H
          obtain ⟨ad2672, hA2673⟩ := c_addr (Ft.now HJ2654) (pos_of (j := x2655) (by first | assumption | decide) (by first | assumption | omega))
          refine st (.pointer (some (ad2672.add ((x2655 : Int).toNat * 1)))) rfl rfl (xr_indexAddr (.slice A0 l0.length c0) (.int .i64 x2655) (.pointer (some (ad2672.add ((x2655 : Int).toNat * 1)))) rfl rfl rfl (index_at Try.underlying37 info9 hA2673 (by first | assumption | decide | omega) (by first | assumption | decide | omega))) ?_
          simp only [ls0, ls1]
          refine st (.string (rdOf ByteArray.empty l0 x2655)) rfl rfl (xr_load (.pointer (some (ad2672.add ((x2655 : Int).toNat * 1)))) (.string (rdOf ByteArray.empty l0 x2655)) rfl rfl (load_str Try.underlying9 rfl hA2673 (Ft.now HJ2654) (by first | assumption | decide | omega) (by first | assumption | decide | omega))) ?_
          simp only [ls0, ls1]
          refine st (.string a1) rfl rfl (xr_move (.string a1) rfl rfl) ?_
          simp only [ls0, ls1]
          refine st (.bool (decide ((rdOf ByteArray.empty l0 x2655) = a1))) rfl rfl (xr_bin (.string (rdOf ByteArray.empty l0 x2655)) (.string a1) (.bool (decide ((rdOf ByteArray.empty l0 x2655) = a1))) rfl rfl rfl (B.eql_str (rdOf ByteArray.empty l0 x2655) a1)) ?_
          simp only [ls0, ls1]
          refine wl_end ?_
          (try simp only [Act.put, List.setIfInBounds_toArray, ls0, ls1])
          refine hK2670 _ _ ?_
          (try clear hK2670 K2670)
          by_cases c2674 : (rdOf ByteArray.empty l0 x2655) = a1
          · rw [if_pos c2674] at H
            (try rw [(decide_eq_true c2674)])
            (try simp only [Bool.not_true, Bool.not_false])
            refine wp_cond_true rfl ?_
            refine wp_seq_k fun K2675 hK2675 => ?_
            refine wl_region ?_
            refine st (.int .i64 x2655) rfl rfl (xr_move (.int .i64 x2655) rfl rfl) ?_
            simp only [ls0, ls1]
            refine st (.int .i64 x2655) rfl rfl (xr_assign (.int .i64 x2655) rfl rfl) ?_
            simp only [ls0, ls1]
            refine wl_end ?_
            (try simp only [Act.put, List.setIfInBounds_toArray, ls0, ls1])
            refine hK2675 _ _ ?_
            (try clear hK2675 K2675)
            refine wp_ret ?_
            (try simp only [Exit.inBlock, Exit.then, Exit.noGoto])
            (try simp only [Act.put, List.setIfInBounds_toArray, ls0, ls1])
            obtain rfl := Option.some.inj H
            refine bodyPost_ret (results_tmp rfl _ _ _) rfl ?_
            exact ⟨_, rfl, HS2660⟩
          · rw [if_neg c2674] at H
            (try rw [(decide_eq_false c2674)])
            (try simp only [Bool.not_true, Bool.not_false])
            refine wp_cond_false rfl ?_
            refine wp_skip ?_
            (try simp only [Act.put, List.setIfInBounds_toArray, ls0, ls1])
            refine hK2669 _ _ ?_
            (try clear hK2669 K2669)
            refine wl_region ?_
            refine st (.int .i64 x2655) rfl rfl (xr_move (.int .i64 x2655) rfl rfl) ?_
            simp only [ls0, ls1]
            refine st (.int .i64 (wrap64 (x2655 + 1))) rfl rfl (xr_bin (.int .i64 x2655) (.int .i64 1) (.int .i64 (wrap64 (x2655 + 1))) rfl rfl rfl (B.add_i64 x2655 1)) ?_
            simp only [ls0, ls1]
            refine st (.int .i64 (wrap64 (x2655 + 1))) rfl rfl (xr_assign (.int .i64 (wrap64 (x2655 + 1))) rfl rfl) ?_
            simp only [ls0, ls1]
            refine wl_end ?_
            (try simp only [Act.put, List.setIfInBounds_toArray, ls0, ls1])
            exact ih2662 k2665 (by omega) _ _ ⟨_, wrap64 (x2655 + 1), (fun q_ => List.getD [undef, undef, (g2656 2), (g2656 3), (g2656 4), undef, .int .i64 x2655, .slice A0 l0.length c0, .int .i64 (l0.length : Int), .bool true, .int .i64 x2655, .int .i64 (wrap64 (x2655 + 1)), .slice A0 l0.length c0, .int .i64 x2655, .pointer (some (ad2672.add ((x2655 : Int).toNat * 1))), .string (rdOf ByteArray.empty l0 x2655), .string a1, .bool false, (g2656 18)] q_ undef), rfl, HS2660, (by omega), HJ2654, H⟩
        · rw [if_neg c2671] at H
          exact absurd H (by simp)
      · rw [if_neg c2668] at H
        (try rw [(decide_eq_false c2668)])
        (try simp only [Bool.not_true, Bool.not_false])
        refine wp_cond_false rfl ?_
        refine wp_exit ?_
        (try simp only [Act.put, List.setIfInBounds_toArray, ls0, ls1])
        refine hK2629 _ _ ?_
        (try clear hK2629 K2629)
        refine wp_seq_k fun K2676 hK2676 => ?_
        refine wl_region ?_
        refine st (.int .i64 (-1)) rfl rfl (xr_assign (.int .i64 (-1)) rfl rfl) ?_
        simp only [ls0, ls1]
        refine wl_end ?_
        (try simp only [Act.put, List.setIfInBounds_toArray, ls0, ls1])
        refine hK2676 _ _ ?_
        (try clear hK2676 K2676)
        refine wp_ret ?_
        (try simp only [Exit.inBlock, Exit.then, Exit.noGoto])
        (try simp only [Act.put, List.setIfInBounds_toArray, ls0, ls1])
        obtain rfl := Option.some.inj H
        refine bodyPost_ret (results_tmp rfl _ _ _) rfl ?_
        exact ⟨_, rfl, HS2660⟩

end Go.Proofs.Ytnhcpdepjpfcfaa.PRow
