-- By cprint.py, a program of this work. Lean checks it.
import Derived.Test.YtpfepkkpbampkaaPOrdx0
import Derived.Test.YtpfepkkpbampkaaPOrdx1
import Derived.Test.YtpfepkkpbampkaaPOrdx4
import Derived.Test.YtpfepkkpbampkaaPOrdx5
import Derived.Test.YtpfepkkpbampkaaPOrdx8
namespace Go.Proofs.Ytpfepkkpbampkaa.POrd
open Go.RowKit Go.Proofs.YtpfepkkpbampkaaW.PrintWords Go.Proofs.YtpfepkkpbampkaaW.PrintLast Go.Proofs.YtpfepkkpbampkaaW.PrintMore
set_option linter.unusedVariables false
set_option linter.unusedSimpArgs false

/-! ### order_Order_Above: function 17 -/
def order_Order_Above.f (x0 : Option S47) (a1 : Int) : Option (Int) := (order_Order_in.f x0 a1).bind fun t44751 => (if t44751 = true then (onOpt x0 (none) (fun o44759 => (if 0 ≤ a1 then (if a1 < 64 then (some (List.getD o44759.f2 ((a1 : Int).toNat) 0)) else (none)) else (none)))) else (some 0))
set_option maxHeartbeats 2000000 in
set_option maxRecDepth 100000 in
theorem order_Order_Above.calls (v0 : Value) (x0 : Option S47) (a1 : Int) (r : Int) (c : Nat → Nat) (w : World) (hc : ∀ k, c k < 10) (HP0 : Ft c [0] w (fun w_ => (Kd.ptr 47 k47).K w_ x0 [v0])) (H : order_Order_Above.f x0 a1 = some r) :
    Calls Try.prog 17 #[v0, .int .i64 a1] w fun e w' => ∃ (c' : Nat → Nat) , e = .returned (.int .u64 r) ∧ Step c w c' w' [] := by
  unfold order_Order_Above.f at H
  have HS := Step.refl c w []
  go_enter Try.func17, Try.ntmps17
  refine wp_seq_k fun K44748 hK44748 => ?_
  refine wl_region ?_
  refine st (.int .u64 0) rfl rfl (xr_assign (.int .u64 0) rfl rfl) ?_
  simp only [ls0, ls1]
  refine wl_end ?_
  (try simp only [Act.put, List.setIfInBounds_toArray, ls0, ls1])
  refine hK44748 _ _ ?_
  (try clear hK44748 K44748)
  refine wp_seq_k fun K44749 hK44749 => ?_
  refine wp_seq_k fun K44750 hK44750 => ?_
  refine wl_region ?_
  refine st (v0) rfl rfl (xr_move (v0) rfl rfl) ?_
  simp only [ls0, ls1]
  refine st (.int .i64 a1) rfl rfl (xr_move (.int .i64 a1) rfl rfl) ?_
  simp only [ls0, ls1]
  obtain ⟨t44751, A44752, H⟩ := Option.bind_eq_some_iff.mp H
  (try dsimp only at H)
  refine st_call #[v0, .int .i64 a1] rfl rfl Try.func20 (by kernel_rfl) rfl rfl (by simp only [List.map_toArray, List.map_cons, List.map_nil]; first | done | rfl) ?_
  refine (order_Order_in.calls v0 x0 a1 t44751  (fun z_ => pal [(0, 0)] (c z_)) w (fun _ => pal_lt rfl _) (Ft.arg HP0 rfl) A44752).mono ?_
  rintro _ w44754 ⟨C44755, rfl, hs44756⟩
  refine ⟨_, rfl, ?_⟩
  replace hs44756 := Step.lift (U := [(0, 0)]) hs44756 [] rfl rfl
  generalize up c C44755 w.heap.size [(0, 0)] = C44755_ at hs44756
  replace HP0 := HP0.thru hs44756 rfl
  replace HS := HS.trans hs44756 hc rfl
  (try simp only [Act.put, List.setIfInBounds_toArray, ls0, ls1])
  refine st (.bool (!t44751)) rfl rfl (xr_un (.bool t44751) (.bool (!t44751)) rfl rfl (by first | rfl | (go_simp; done) | (go_simp; rfl) | (go_simp; exact i64_w _) | (go_simp; exact i32_w _))) ?_
  simp only [ls0, ls1]
  refine wl_end ?_
  (try simp only [Act.put, List.setIfInBounds_toArray, ls0, ls1])
  refine hK44750 _ _ ?_
  (try clear hK44750 K44750)
  by_cases c44757 : t44751 = true
  · rw [if_pos c44757] at H
    (try rw [c44757])
    (try simp only [Bool.not_true, Bool.not_false])
    refine wp_cond_false rfl ?_
    refine wp_skip ?_
    (try simp only [Act.put, List.setIfInBounds_toArray, ls0, ls1])
    refine hK44749 _ _ ?_
    (try clear hK44749 K44749)
    refine wp_seq_k fun K44758 hK44758 => ?_
    refine wl_region ?_
    refine st (v0) rfl rfl (xr_move (v0) rfl rfl) ?_
    simp only [ls0, ls1]
    refine st (.int .i64 a1) rfl rfl (xr_move (.int .i64 a1) rfl rfl) ?_
    simp only [ls0, ls1]
    cases x0 with
    | none =>
      (try simp only [onOpt] at H)
      obtain rfl := ptr_none HP0
      exact absurd H (by simp)
    | some o44759 =>
      (try simp only [onOpt] at H)
      obtain ⟨g44760, cs44761, rfl, HX44762, HK44763⟩ := ptr_some HP0
      obtain ⟨Aq44764_0, cpq44764_0, vq44764_1, rfl, HCq44764_0, HRq44764_0, HRq44764_1, HLq44764_2, HLq44764_3⟩ := k47_openF HK44763
      replace HRq44764_0 : Ft C44755_ [0] w44754 (fun w_ => Kd.string.C w_ Aq44764_0 o44759.f0.length o44759.f0) := HRq44764_0
      replace HRq44764_1 : Ft C44755_ [0] w44754 (fun w_ => (Kd.mp Value.string (Value.int .i64)).K w_ o44759.f1 [vq44764_1]) := HRq44764_1
      refine st (.pointer (some ⟨g44760, 0, none⟩)) rfl rfl (xr_nilCheck ⟨g44760, 0, none⟩ rfl rfl) ?_
      simp only [ls0, ls1]
      refine st (.pointer (some ⟨g44760, 2, none⟩)) rfl rfl (xr_fieldAddr (.pointer (some ⟨g44760, 0, none⟩)) (.pointer (some ⟨g44760, 2, none⟩)) rfl rfl (bx_field2 Try.underlying47 rfl rfl (by kernel_rfl))) ?_
      simp only [ls0, ls1]
      by_cases c44765 : 0 ≤ a1
      · rw [if_pos c44765] at H
        by_cases c44766 : a1 < 64
        · rw [if_pos c44766] at H
          refine st (.pointer (some ⟨g44760, 2 + ((a1 : Int).toNat), none⟩)) rfl rfl (xr_indexAddr (.pointer (some ⟨g44760, 2, none⟩)) (.int .i64 a1) (.pointer (some ⟨g44760, 2 + ((a1 : Int).toNat), none⟩)) rfl rfl rfl (arr_index (sz := 1) Try.underlying45 (by kernel_rfl) (by first | assumption | decide | omega) (by first | assumption | decide | omega) (by omega))) ?_
          simp only [ls0, ls1]
          refine st (.int .u64 (List.getD o44759.f2 ((a1 : Int).toNat) 0)) rfl rfl (xr_load (.pointer (some ⟨g44760, 2 + ((a1 : Int).toNat), none⟩)) (.int .u64 (List.getD o44759.f2 ((a1 : Int).toNat) 0)) rfl rfl (arr_load (o := 2) (N := 64) (pre := [.slice Aq44764_0 o44759.f0.length cpq44764_0, vq44764_1]) (post := List.map (Value.int .u64) o44759.f3) (enc := (Value.int .u64)) (l := o44759.f2) (i := (a1 : Int).toNat) 0 Try.underlying40 rfl (Ft.now HX44762) (by first | (simp only [List.append_assoc, List.cons_append, List.nil_append, List.append_nil]; done) | rfl) (by simp []) HLq44764_2 (by omega) (by omega))) ?_
          simp only [ls0, ls1]
          refine st (.int .u64 (List.getD o44759.f2 ((a1 : Int).toNat) 0)) rfl rfl (xr_assign (.int .u64 (List.getD o44759.f2 ((a1 : Int).toNat) 0)) rfl rfl) ?_
          simp only [ls0, ls1]
          refine wl_end ?_
          (try simp only [Act.put, List.setIfInBounds_toArray, ls0, ls1])
          refine hK44758 _ _ ?_
          (try clear hK44758 K44758)
          refine wp_ret ?_
          (try simp only [Exit.inBlock, Exit.then, Exit.noGoto])
          (try simp only [Act.put, List.setIfInBounds_toArray, ls0, ls1])
          obtain rfl := Option.some.inj H
          refine bodyPost_ret (results_tmp rfl _ _ _) rfl ?_
          exact ⟨_, rfl, HS⟩
        · rw [if_neg c44766] at H
          exact absurd H (by simp)
      · rw [if_neg c44765] at H
        exact absurd H (by simp)
  · rw [if_neg c44757] at H
    (try rw [(Bool.eq_false_iff.mpr c44757)])
    (try simp only [Bool.not_true, Bool.not_false])
    refine wp_cond_true rfl ?_
    refine wp_seq_k fun K44767 hK44767 => ?_
    refine wl_region ?_
    refine st (.int .u64 0) rfl rfl (xr_assign (.int .u64 0) rfl rfl) ?_
    simp only [ls0, ls1]
    refine wl_end ?_
    (try simp only [Act.put, List.setIfInBounds_toArray, ls0, ls1])
    refine hK44767 _ _ ?_
    (try clear hK44767 K44767)
    refine wp_ret ?_
    (try simp only [Exit.inBlock, Exit.then, Exit.noGoto])
    (try simp only [Act.put, List.setIfInBounds_toArray, ls0, ls1])
    obtain rfl := Option.some.inj H
    refine bodyPost_ret (results_tmp rfl _ _ _) rfl ?_
    exact ⟨_, rfl, HS⟩

/-! ### blazonlaw13_OrderNil: function 6 -/
def blazonlaw13_OrderNil.f (k : Nat) (a0 : Int) (a1 : Int) : Option (Bool) := (order_Order_Find.f (none : Option S47) (⟨#[97]⟩ : ByteArray)).bind fun bt44835 => ((order_Order_Len.f (none : Option S47)).bind fun t44843 => (if t44843 = 0 then ((order_Order_Name.f (none : Option S47) a0).bind fun t44850 => (if t44850 = (⟨#[]⟩ : ByteArray) then (if bt44835.2 = true then (some false) else ((order_Order_Most.f (none : Option S47) a0 a1).bind fun t44858 => (if t44858 = true then (some false) else ((order_Order_Below.f (none : Option S47) a0).bind fun t44865 => (if t44865 = 0 then ((order_Order_Above.f (none : Option S47) a0).bind fun t44872 => (if t44872 = 0 then ((order_Order_Sorted.f k (none : Option S47)).bind fun t44879 => (if (t44879.length : Int) = 0 then ((blazonlaw13_awake.f k).bind fun t44890 => (some t44890)) else (some false))) else (some false))) else (some false)))))) else (some false))) else (some false)))

set_option maxHeartbeats 2000000 in
set_option maxRecDepth 100000 in
theorem blazonlaw13_OrderNil.calls (k : Nat) (a0 : Int) (a1 : Int) (r : Bool) (c : Nat → Nat) (w : World) (hc : ∀ k, c k < 10)  (H : blazonlaw13_OrderNil.f k a0 a1 = some r) :
    Calls Try.prog 6 #[.int .i64 a0, .int .i64 a1] w fun e w' => ∃ (c' : Nat → Nat) , e = .returned (.bool r) ∧ Step c w c' w' [] := by
  unfold blazonlaw13_OrderNil.f at H
  have HS := Step.refl c w []
  go_enter Try.func6, Try.ntmps6
  refine wp_seq_k fun K44832 hK44832 => ?_
  refine wl_region ?_
  refine st (.bool false) rfl rfl (xr_assign (.bool false) rfl rfl) ?_
  simp only [ls0, ls1]
  refine wl_end ?_
  (try simp only [Act.put, List.setIfInBounds_toArray, ls0, ls1])
  refine hK44832 _ _ ?_
  (try clear hK44832 K44832)
  refine wp_seq_k fun K44833 hK44833 => ?_
  refine wl_region ?_
  refine st (.pointer none) rfl rfl (xr_assign (.pointer none) rfl rfl) ?_
  simp only [ls0, ls1]
  refine wl_end ?_
  (try simp only [Act.put, List.setIfInBounds_toArray, ls0, ls1])
  refine hK44833 _ _ ?_
  (try clear hK44833 K44833)
  refine wp_seq_k fun K44834 hK44834 => ?_
  refine wl_region ?_
  refine st (.pointer none) rfl rfl (xr_move (.pointer none) rfl rfl) ?_
  simp only [ls0, ls1]
  obtain ⟨⟨t44835, t44836⟩, A44837, H⟩ := Option.bind_eq_some_iff.mp H
  (try dsimp only at H)
  refine st_call #[.pointer none, .string (⟨#[97]⟩ : ByteArray)] rfl rfl Try.func13 (by kernel_rfl) rfl rfl (by simp only [List.map_toArray, List.map_cons, List.map_nil]; first | done | rfl) ?_
  refine (order_Order_Find.calls (.pointer none) (none : Option S47) (⟨#[97]⟩ : ByteArray) t44835 t44836  (fun z_ => pal [(0, 0)] (c z_)) w (fun _ => pal_lt rfl _) (ptr_nil _ _ _ _ _) A44837).mono ?_
  rintro _ w44839 ⟨C44840, rfl, hs44841⟩
  refine ⟨_, rfl, ?_⟩
  replace hs44841 := Step.lift (U := [(0, 0)]) hs44841 [] rfl rfl
  generalize up c C44840 w.heap.size [(0, 0)] = C44840_ at hs44841
  replace HS := HS.trans hs44841 hc rfl
  (try simp only [Act.put, List.setIfInBounds_toArray, ls0, ls1])
  refine st (.tuple #[.int .i64 t44835, .bool t44836]) rfl rfl (xr_move (.tuple #[.int .i64 t44835, .bool t44836]) rfl rfl) ?_
  simp only [ls0, ls1]
  refine st (.int .i64 t44835) rfl rfl (xr_extract (.tuple #[.int .i64 t44835, .bool t44836]) (.int .i64 t44835) rfl rfl rfl) ?_
  simp only [ls0, ls1]
  refine st (.bool t44836) rfl rfl (xr_extract (.tuple #[.int .i64 t44835, .bool t44836]) (.bool t44836) rfl rfl rfl) ?_
  simp only [ls0, ls1]
  refine st (.int .i64 t44835) rfl rfl (xr_assign (.int .i64 t44835) rfl rfl) ?_
  simp only [ls0, ls1]
  refine st (.bool t44836) rfl rfl (xr_assign (.bool t44836) rfl rfl) ?_
  simp only [ls0, ls1]
  refine wl_end ?_
  (try simp only [Act.put, List.setIfInBounds_toArray, ls0, ls1])
  refine hK44834 _ _ ?_
  (try clear hK44834 K44834)
  refine wp_seq_k fun K44842 hK44842 => ?_
  refine wl_region ?_
  refine st (.pointer none) rfl rfl (xr_move (.pointer none) rfl rfl) ?_
  simp only [ls0, ls1]
  obtain ⟨t44843, A44844, H⟩ := Option.bind_eq_some_iff.mp H
  (try dsimp only at H)
  refine st_call #[.pointer none] rfl rfl Try.func10 (by kernel_rfl) rfl rfl (by simp only [List.map_toArray, List.map_cons, List.map_nil]; first | done | rfl) ?_
  refine (order_Order_Len.calls (.pointer none) (none : Option S47) t44843  (fun z_ => pal [(0, 0)] (C44840_ z_)) w44839 (fun _ => pal_lt rfl _) (ptr_nil _ _ _ _ _) A44844).mono ?_
  rintro _ w44846 ⟨C44847, rfl, hs44848⟩
  refine ⟨_, rfl, ?_⟩
  replace hs44848 := Step.lift (U := [(0, 0)]) hs44848 [] rfl rfl
  generalize up C44840_ C44847 w44839.heap.size [(0, 0)] = C44847_ at hs44848
  replace HS := HS.trans hs44848 hc rfl
  (try simp only [Act.put, List.setIfInBounds_toArray, ls0, ls1])
  refine st (.bool (decide (t44843 = 0))) rfl rfl (xr_bin (.int .i64 t44843) (.int .i64 0) (.bool (decide (t44843 = 0))) rfl rfl rfl (B.eql_i64 t44843 0)) ?_
  simp only [ls0, ls1]
  refine st (.bool (decide (t44843 = 0))) rfl rfl (xr_move (.bool (decide (t44843 = 0))) rfl rfl) ?_
  simp only [ls0, ls1]
  by_cases c44849 : t44843 = 0
  · rw [if_pos c44849] at H
    (try rw [(decide_eq_true c44849)])
    (try simp only [Bool.not_true, Bool.not_false])
    refine on_guard (guard_on 3 true 16 rfl rfl rfl) ?_
    refine st (.pointer none) rfl rfl (xr_move (.pointer none) rfl rfl) ?_
    simp only [ls0, ls1]
    refine on_guard (guard_on 3 true 16 rfl rfl rfl) ?_
    refine st (.int .i64 a0) rfl rfl (xr_move (.int .i64 a0) rfl rfl) ?_
    simp only [ls0, ls1]
    refine on_guard (guard_on 3 true 16 rfl rfl rfl) ?_
    obtain ⟨t44850, A44851, H⟩ := Option.bind_eq_some_iff.mp H
    (try dsimp only at H)
    refine st_call #[.pointer none, .int .i64 a0] rfl rfl Try.func14 (by kernel_rfl) rfl rfl (by simp only [List.map_toArray, List.map_cons, List.map_nil]; first | done | rfl) ?_
    refine (order_Order_Name.calls (.pointer none) (none : Option S47) a0 t44850  (fun z_ => pal [(0, 0)] (C44847_ z_)) w44846 (fun _ => pal_lt rfl _) (ptr_nil _ _ _ _ _) A44851).mono ?_
    rintro _ w44853 ⟨C44854, rfl, hs44855⟩
    refine ⟨_, rfl, ?_⟩
    replace hs44855 := Step.lift (U := [(0, 0)]) hs44855 [] rfl rfl
    generalize up C44847_ C44854 w44846.heap.size [(0, 0)] = C44854_ at hs44855
    replace HS := HS.trans hs44855 hc rfl
    (try simp only [Act.put, List.setIfInBounds_toArray, ls0, ls1])
    refine on_guard (guard_on 3 true 16 rfl rfl rfl) ?_
    refine st (.bool (decide (t44850 = (⟨#[]⟩ : ByteArray)))) rfl rfl (xr_bin (.string t44850) (.string (⟨#[]⟩ : ByteArray)) (.bool (decide (t44850 = (⟨#[]⟩ : ByteArray)))) rfl rfl rfl (B.eql_str t44850 (⟨#[]⟩ : ByteArray))) ?_
    simp only [ls0, ls1]
    refine st (.bool (decide (t44850 = (⟨#[]⟩ : ByteArray)))) rfl rfl (xr_pick true (.bool (decide (t44850 = (⟨#[]⟩ : ByteArray)))) rfl rfl rfl) ?_
    simp only [ls0, ls1]
    refine st (.bool (decide (t44850 = (⟨#[]⟩ : ByteArray)))) rfl rfl (xr_move (.bool (decide (t44850 = (⟨#[]⟩ : ByteArray)))) rfl rfl) ?_
    simp only [ls0, ls1]
    by_cases c44856 : t44850 = (⟨#[]⟩ : ByteArray)
    · rw [if_pos c44856] at H
      (try rw [(decide_eq_true c44856)])
      (try simp only [Bool.not_true, Bool.not_false])
      refine on_guard (guard_on 9 true 22 rfl rfl rfl) ?_
      refine st (.bool t44836) rfl rfl (xr_move (.bool t44836) rfl rfl) ?_
      simp only [ls0, ls1]
      refine on_guard (guard_on 9 true 22 rfl rfl rfl) ?_
      refine st (.bool (!t44836)) rfl rfl (xr_un (.bool t44836) (.bool (!t44836)) rfl rfl (by first | rfl | (go_simp; done) | (go_simp; rfl) | (go_simp; exact i64_w _) | (go_simp; exact i32_w _))) ?_
      simp only [ls0, ls1]
      refine st (.bool (!t44836)) rfl rfl (xr_pick true (.bool (!t44836)) rfl rfl rfl) ?_
      simp only [ls0, ls1]
      refine st (.bool (!t44836)) rfl rfl (xr_move (.bool (!t44836)) rfl rfl) ?_
      simp only [ls0, ls1]
      by_cases c44857 : t44836 = true
      · rw [if_pos c44857] at H
        (try rw [c44857])
        (try simp only [Bool.not_true, Bool.not_false])
        refine sk_guard (guard_off 13 true 26 rfl rfl false (by decide) rfl) rfl ?_
        simp only [ls0, ls1]
        refine sk_guard (guard_off 13 true 26 rfl rfl false (by decide) rfl) rfl ?_
        simp only [ls0, ls1]
        refine sk_guard (guard_off 13 true 26 rfl rfl false (by decide) rfl) rfl ?_
        simp only [ls0, ls1]
        refine sk_guard (guard_off 13 true 26 rfl rfl false (by decide) rfl) rfl ?_
        simp only [ls0, ls1]
        refine sk_guard (guard_off 13 true 26 rfl rfl false (by decide) rfl) rfl ?_
        simp only [ls0, ls1]
        refine st (.bool false) rfl rfl (xr_pick false (.bool false) rfl rfl rfl) ?_
        simp only [ls0, ls1]
        refine st (.bool false) rfl rfl (xr_move (.bool false) rfl rfl) ?_
        simp only [ls0, ls1]
        refine sk_guard (guard_off 20 true 33 rfl rfl false (by decide) rfl) rfl ?_
        simp only [ls0, ls1]
        refine sk_guard (guard_off 20 true 33 rfl rfl false (by decide) rfl) rfl ?_
        simp only [ls0, ls1]
        refine sk_guard (guard_off 20 true 33 rfl rfl false (by decide) rfl) rfl ?_
        simp only [ls0, ls1]
        refine sk_guard (guard_off 20 true 33 rfl rfl false (by decide) rfl) rfl ?_
        simp only [ls0, ls1]
        refine st (.bool false) rfl rfl (xr_pick false (.bool false) rfl rfl rfl) ?_
        simp only [ls0, ls1]
        refine st (.bool false) rfl rfl (xr_move (.bool false) rfl rfl) ?_
        simp only [ls0, ls1]
        refine sk_guard (guard_off 26 true 39 rfl rfl false (by decide) rfl) rfl ?_
        simp only [ls0, ls1]
        refine sk_guard (guard_off 26 true 39 rfl rfl false (by decide) rfl) rfl ?_
        simp only [ls0, ls1]
        refine sk_guard (guard_off 26 true 39 rfl rfl false (by decide) rfl) rfl ?_
        simp only [ls0, ls1]
        refine sk_guard (guard_off 26 true 39 rfl rfl false (by decide) rfl) rfl ?_
        simp only [ls0, ls1]
        refine st (.bool false) rfl rfl (xr_pick false (.bool false) rfl rfl rfl) ?_
        simp only [ls0, ls1]
        refine st (.bool false) rfl rfl (xr_move (.bool false) rfl rfl) ?_
        simp only [ls0, ls1]
        refine sk_guard (guard_off 32 true 45 rfl rfl false (by decide) rfl) rfl ?_
        simp only [ls0, ls1]
        refine sk_guard (guard_off 32 true 45 rfl rfl false (by decide) rfl) rfl ?_
        simp only [ls0, ls1]
        refine sk_guard (guard_off 32 true 45 rfl rfl false (by decide) rfl) rfl ?_
        simp only [ls0, ls1]
        refine sk_guard (guard_off 32 true 45 rfl rfl false (by decide) rfl) rfl ?_
        simp only [ls0, ls1]
        refine st (.bool false) rfl rfl (xr_pick false (.bool false) rfl rfl rfl) ?_
        simp only [ls0, ls1]
        refine st (.bool false) rfl rfl (xr_move (.bool false) rfl rfl) ?_
        simp only [ls0, ls1]
        refine sk_guard (guard_off 38 true 51 rfl rfl false (by decide) rfl) rfl ?_
        simp only [ls0, ls1]
        refine st (.bool false) rfl rfl (xr_pick false (.bool false) rfl rfl rfl) ?_
        simp only [ls0, ls1]
        refine st (.bool false) rfl rfl (xr_assign (.bool false) rfl rfl) ?_
        simp only [ls0, ls1]
        refine wl_end ?_
        (try simp only [Act.put, List.setIfInBounds_toArray, ls0, ls1])
        refine hK44842 _ _ ?_
        (try clear hK44842 K44842)
        refine wp_ret ?_
        (try simp only [Exit.inBlock, Exit.then, Exit.noGoto])
        (try simp only [Act.put, List.setIfInBounds_toArray, ls0, ls1])
        obtain rfl := Option.some.inj H
        refine bodyPost_ret (results_tmp rfl _ _ _) rfl ?_
        exact ⟨_, rfl, HS⟩
      · rw [if_neg c44857] at H
        (try rw [(Bool.eq_false_iff.mpr c44857)])
        (try simp only [Bool.not_true, Bool.not_false])
        refine on_guard (guard_on 13 true 26 rfl rfl rfl) ?_
        refine st (.pointer none) rfl rfl (xr_move (.pointer none) rfl rfl) ?_
        simp only [ls0, ls1]
        refine on_guard (guard_on 13 true 26 rfl rfl rfl) ?_
        refine st (.int .i64 a0) rfl rfl (xr_move (.int .i64 a0) rfl rfl) ?_
        simp only [ls0, ls1]
        refine on_guard (guard_on 13 true 26 rfl rfl rfl) ?_
        refine st (.int .i64 a1) rfl rfl (xr_move (.int .i64 a1) rfl rfl) ?_
        simp only [ls0, ls1]
        refine on_guard (guard_on 13 true 26 rfl rfl rfl) ?_
        obtain ⟨t44858, A44859, H⟩ := Option.bind_eq_some_iff.mp H
        (try dsimp only at H)
        refine st_call #[.pointer none, .int .i64 a0, .int .i64 a1] rfl rfl Try.func11 (by kernel_rfl) rfl rfl (by simp only [List.map_toArray, List.map_cons, List.map_nil]; first | done | rfl) ?_
        refine (order_Order_Most.calls (.pointer none) (none : Option S47) a0 a1 t44858  (fun z_ => pal [(0, 0)] (C44854_ z_)) w44853 (fun _ => pal_lt rfl _) (ptr_nil _ _ _ _ _) A44859).mono ?_
        rintro _ w44861 ⟨C44862, rfl, hs44863⟩
        refine ⟨_, rfl, ?_⟩
        replace hs44863 := Step.lift (U := [(0, 0)]) hs44863 [] rfl rfl
        generalize up C44854_ C44862 w44853.heap.size [(0, 0)] = C44862_ at hs44863
        replace HS := HS.trans hs44863 hc rfl
        (try simp only [Act.put, List.setIfInBounds_toArray, ls0, ls1])
        refine on_guard (guard_on 13 true 26 rfl rfl rfl) ?_
        refine st (.bool (!t44858)) rfl rfl (xr_un (.bool t44858) (.bool (!t44858)) rfl rfl (by first | rfl | (go_simp; done) | (go_simp; rfl) | (go_simp; exact i64_w _) | (go_simp; exact i32_w _))) ?_
        simp only [ls0, ls1]
        refine st (.bool (!t44858)) rfl rfl (xr_pick true (.bool (!t44858)) rfl rfl rfl) ?_
        simp only [ls0, ls1]
        refine st (.bool (!t44858)) rfl rfl (xr_move (.bool (!t44858)) rfl rfl) ?_
        simp only [ls0, ls1]
        by_cases c44864 : t44858 = true
        · rw [if_pos c44864] at H
          (try rw [c44864])
          (try simp only [Bool.not_true, Bool.not_false])
          refine sk_guard (guard_off 20 true 33 rfl rfl false (by decide) rfl) rfl ?_
          simp only [ls0, ls1]
          refine sk_guard (guard_off 20 true 33 rfl rfl false (by decide) rfl) rfl ?_
          simp only [ls0, ls1]
          refine sk_guard (guard_off 20 true 33 rfl rfl false (by decide) rfl) rfl ?_
          simp only [ls0, ls1]
          refine sk_guard (guard_off 20 true 33 rfl rfl false (by decide) rfl) rfl ?_
          simp only [ls0, ls1]
          refine st (.bool false) rfl rfl (xr_pick false (.bool false) rfl rfl rfl) ?_
          simp only [ls0, ls1]
          refine st (.bool false) rfl rfl (xr_move (.bool false) rfl rfl) ?_
          simp only [ls0, ls1]
          refine sk_guard (guard_off 26 true 39 rfl rfl false (by decide) rfl) rfl ?_
          simp only [ls0, ls1]
          refine sk_guard (guard_off 26 true 39 rfl rfl false (by decide) rfl) rfl ?_
          simp only [ls0, ls1]
          refine sk_guard (guard_off 26 true 39 rfl rfl false (by decide) rfl) rfl ?_
          simp only [ls0, ls1]
          refine sk_guard (guard_off 26 true 39 rfl rfl false (by decide) rfl) rfl ?_
          simp only [ls0, ls1]
          refine st (.bool false) rfl rfl (xr_pick false (.bool false) rfl rfl rfl) ?_
          simp only [ls0, ls1]
          refine st (.bool false) rfl rfl (xr_move (.bool false) rfl rfl) ?_
          simp only [ls0, ls1]
          refine sk_guard (guard_off 32 true 45 rfl rfl false (by decide) rfl) rfl ?_
          simp only [ls0, ls1]
          refine sk_guard (guard_off 32 true 45 rfl rfl false (by decide) rfl) rfl ?_
          simp only [ls0, ls1]
          refine sk_guard (guard_off 32 true 45 rfl rfl false (by decide) rfl) rfl ?_
          simp only [ls0, ls1]
          refine sk_guard (guard_off 32 true 45 rfl rfl false (by decide) rfl) rfl ?_
          simp only [ls0, ls1]
          refine st (.bool false) rfl rfl (xr_pick false (.bool false) rfl rfl rfl) ?_
          simp only [ls0, ls1]
          refine st (.bool false) rfl rfl (xr_move (.bool false) rfl rfl) ?_
          simp only [ls0, ls1]
          refine sk_guard (guard_off 38 true 51 rfl rfl false (by decide) rfl) rfl ?_
          simp only [ls0, ls1]
          refine st (.bool false) rfl rfl (xr_pick false (.bool false) rfl rfl rfl) ?_
          simp only [ls0, ls1]
          refine st (.bool false) rfl rfl (xr_assign (.bool false) rfl rfl) ?_
          simp only [ls0, ls1]
          refine wl_end ?_
          (try simp only [Act.put, List.setIfInBounds_toArray, ls0, ls1])
          refine hK44842 _ _ ?_
          (try clear hK44842 K44842)
          refine wp_ret ?_
          (try simp only [Exit.inBlock, Exit.then, Exit.noGoto])
          (try simp only [Act.put, List.setIfInBounds_toArray, ls0, ls1])
          obtain rfl := Option.some.inj H
          refine bodyPost_ret (results_tmp rfl _ _ _) rfl ?_
          exact ⟨_, rfl, HS⟩
        · rw [if_neg c44864] at H
          (try rw [(Bool.eq_false_iff.mpr c44864)])
          (try simp only [Bool.not_true, Bool.not_false])
          refine on_guard (guard_on 20 true 33 rfl rfl rfl) ?_
          refine st (.pointer none) rfl rfl (xr_move (.pointer none) rfl rfl) ?_
          simp only [ls0, ls1]
          refine on_guard (guard_on 20 true 33 rfl rfl rfl) ?_
          refine st (.int .i64 a0) rfl rfl (xr_move (.int .i64 a0) rfl rfl) ?_
          simp only [ls0, ls1]
          refine on_guard (guard_on 20 true 33 rfl rfl rfl) ?_
          obtain ⟨t44865, A44866, H⟩ := Option.bind_eq_some_iff.mp H
          (try dsimp only at H)
          refine st_call #[.pointer none, .int .i64 a0] rfl rfl Try.func16 (by kernel_rfl) rfl rfl (by simp only [List.map_toArray, List.map_cons, List.map_nil]; first | done | rfl) ?_
          refine (order_Order_Below.calls (.pointer none) (none : Option S47) a0 t44865  (fun z_ => pal [(0, 0)] (C44862_ z_)) w44861 (fun _ => pal_lt rfl _) (ptr_nil _ _ _ _ _) A44866).mono ?_
          rintro _ w44868 ⟨C44869, rfl, hs44870⟩
          refine ⟨_, rfl, ?_⟩
          replace hs44870 := Step.lift (U := [(0, 0)]) hs44870 [] rfl rfl
          generalize up C44862_ C44869 w44861.heap.size [(0, 0)] = C44869_ at hs44870
          replace HS := HS.trans hs44870 hc rfl
          (try simp only [Act.put, List.setIfInBounds_toArray, ls0, ls1])
          refine on_guard (guard_on 20 true 33 rfl rfl rfl) ?_
          refine st (.bool (decide (t44865 = 0))) rfl rfl (xr_bin (.int .u64 t44865) (.int .u64 0) (.bool (decide (t44865 = 0))) rfl rfl rfl (B.eql_u64 t44865 0)) ?_
          simp only [ls0, ls1]
          refine st (.bool (decide (t44865 = 0))) rfl rfl (xr_pick true (.bool (decide (t44865 = 0))) rfl rfl rfl) ?_
          simp only [ls0, ls1]
          refine st (.bool (decide (t44865 = 0))) rfl rfl (xr_move (.bool (decide (t44865 = 0))) rfl rfl) ?_
          simp only [ls0, ls1]
          by_cases c44871 : t44865 = 0
          · rw [if_pos c44871] at H
            (try rw [(decide_eq_true c44871)])
            (try simp only [Bool.not_true, Bool.not_false])
            refine on_guard (guard_on 26 true 39 rfl rfl rfl) ?_
            refine st (.pointer none) rfl rfl (xr_move (.pointer none) rfl rfl) ?_
            simp only [ls0, ls1]
            refine on_guard (guard_on 26 true 39 rfl rfl rfl) ?_
            refine st (.int .i64 a0) rfl rfl (xr_move (.int .i64 a0) rfl rfl) ?_
            simp only [ls0, ls1]
            refine on_guard (guard_on 26 true 39 rfl rfl rfl) ?_
            obtain ⟨t44872, A44873, H⟩ := Option.bind_eq_some_iff.mp H
            (try dsimp only at H)
            refine st_call #[.pointer none, .int .i64 a0] rfl rfl Try.func17 (by kernel_rfl) rfl rfl (by simp only [List.map_toArray, List.map_cons, List.map_nil]; first | done | rfl) ?_
            refine (order_Order_Above.calls (.pointer none) (none : Option S47) a0 t44872  (fun z_ => pal [(0, 0)] (C44869_ z_)) w44868 (fun _ => pal_lt rfl _) (ptr_nil _ _ _ _ _) A44873).mono ?_
            rintro _ w44875 ⟨C44876, rfl, hs44877⟩
            refine ⟨_, rfl, ?_⟩
            replace hs44877 := Step.lift (U := [(0, 0)]) hs44877 [] rfl rfl
            generalize up C44869_ C44876 w44868.heap.size [(0, 0)] = C44876_ at hs44877
            replace HS := HS.trans hs44877 hc rfl
            (try simp only [Act.put, List.setIfInBounds_toArray, ls0, ls1])
            refine on_guard (guard_on 26 true 39 rfl rfl rfl) ?_
            refine st (.bool (decide (t44872 = 0))) rfl rfl (xr_bin (.int .u64 t44872) (.int .u64 0) (.bool (decide (t44872 = 0))) rfl rfl rfl (B.eql_u64 t44872 0)) ?_
            simp only [ls0, ls1]
            refine st (.bool (decide (t44872 = 0))) rfl rfl (xr_pick true (.bool (decide (t44872 = 0))) rfl rfl rfl) ?_
            simp only [ls0, ls1]
            refine st (.bool (decide (t44872 = 0))) rfl rfl (xr_move (.bool (decide (t44872 = 0))) rfl rfl) ?_
            simp only [ls0, ls1]
            by_cases c44878 : t44872 = 0
            · rw [if_pos c44878] at H
              (try rw [(decide_eq_true c44878)])
              (try simp only [Bool.not_true, Bool.not_false])
              refine on_guard (guard_on 32 true 45 rfl rfl rfl) ?_
              refine st (.pointer none) rfl rfl (xr_move (.pointer none) rfl rfl) ?_
              simp only [ls0, ls1]
              refine on_guard (guard_on 32 true 45 rfl rfl rfl) ?_
              obtain ⟨t44879, A44880, H⟩ := Option.bind_eq_some_iff.mp H
              (try dsimp only at H)
              refine st_call #[.pointer none] rfl rfl Try.func15 (by kernel_rfl) rfl rfl (by simp only [List.map_toArray, List.map_cons, List.map_nil]; first | done | rfl) ?_
              refine (order_Order_Sorted.calls k (.pointer none) (none : Option S47) t44879  (fun z_ => pal [(0, 0)] (C44876_ z_)) w44875 (fun _ => pal_lt rfl _) (ptr_nil _ _ _ _ _) A44880).mono ?_
              rintro _ w44882 ⟨C44883, A44885, cp44886, rfl, hs44884, HO44887, HC44888⟩
              refine ⟨_, rfl, ?_⟩
              replace HO44887 := Own.res (U := [(0, 0), (5, 11)]) (j := 11) HO44887 hs44884 (by rfl) (by decide) rfl rfl
              replace hs44884 := Step.lift (U := [(0, 0), (5, 11)]) hs44884 [] rfl rfl
              generalize up C44876_ C44883 w44875.heap.size [(0, 0), (5, 11)] = C44883_ at HO44887 hs44884
              replace HS := HS.trans hs44884 hc rfl
              (try simp only [Act.put, List.setIfInBounds_toArray, ls0, ls1])
              refine on_guard (guard_on 32 true 45 rfl rfl rfl) ?_
              refine st (.int .i64 (t44879.length : Int)) rfl rfl (xr_builtin #[.slice A44885 t44879.length cp44886] (.int .i64 (t44879.length : Int)) rfl (by simp only [List.map_toArray, List.map_cons, List.map_nil]; first | done | rfl) (by first | rfl | (go_simp; done) | (go_simp; rfl) | (go_simp; exact i64_w _) | (go_simp; exact i32_w _))) ?_
              simp only [ls0, ls1]
              refine on_guard (guard_on 32 true 45 rfl rfl rfl) ?_
              refine st (.bool (decide ((t44879.length : Int) = 0))) rfl rfl (xr_bin (.int .i64 (t44879.length : Int)) (.int .i64 0) (.bool (decide ((t44879.length : Int) = 0))) rfl rfl rfl (B.eql_i64 (t44879.length : Int) 0)) ?_
              simp only [ls0, ls1]
              refine st (.bool (decide ((t44879.length : Int) = 0))) rfl rfl (xr_pick true (.bool (decide ((t44879.length : Int) = 0))) rfl rfl rfl) ?_
              simp only [ls0, ls1]
              refine st (.bool (decide ((t44879.length : Int) = 0))) rfl rfl (xr_move (.bool (decide ((t44879.length : Int) = 0))) rfl rfl) ?_
              simp only [ls0, ls1]
              by_cases c44889 : (t44879.length : Int) = 0
              · rw [if_pos c44889] at H
                (try rw [(decide_eq_true c44889)])
                (try simp only [Bool.not_true, Bool.not_false])
                refine on_guard (guard_on 38 true 51 rfl rfl rfl) ?_
                obtain ⟨t44890, A44891, H⟩ := Option.bind_eq_some_iff.mp H
                (try dsimp only at H)
                refine st_call #[] rfl rfl Try.func9 (by kernel_rfl) rfl rfl (by simp only [List.map_toArray, List.map_cons, List.map_nil]; first | done | rfl) ?_
                refine (blazonlaw13_awake.calls k t44890  (fun z_ => pal [(0, 0)] (C44883_ z_)) w44882 (fun _ => pal_lt rfl _) A44891).mono ?_
                rintro _ w44893 ⟨C44894, rfl, hs44895⟩
                refine ⟨_, rfl, ?_⟩
                replace hs44895 := Step.lift (U := [(0, 0)]) hs44895 [] rfl rfl
                generalize up C44883_ C44894 w44882.heap.size [(0, 0)] = C44894_ at hs44895
                replace HS := HS.trans hs44895 hc rfl
                (try simp only [Act.put, List.setIfInBounds_toArray, ls0, ls1])
                refine st (.bool t44890) rfl rfl (xr_pick true (.bool t44890) rfl rfl rfl) ?_
                simp only [ls0, ls1]
                refine st (.bool t44890) rfl rfl (xr_assign (.bool t44890) rfl rfl) ?_
                simp only [ls0, ls1]
                refine wl_end ?_
                (try simp only [Act.put, List.setIfInBounds_toArray, ls0, ls1])
                refine hK44842 _ _ ?_
                (try clear hK44842 K44842)
                refine wp_ret ?_
                (try simp only [Exit.inBlock, Exit.then, Exit.noGoto])
                (try simp only [Act.put, List.setIfInBounds_toArray, ls0, ls1])
                obtain rfl := Option.some.inj H
                refine bodyPost_ret (results_tmp rfl _ _ _) rfl ?_
                exact ⟨_, rfl, HS⟩
              · rw [if_neg c44889] at H
                (try rw [(decide_eq_false c44889)])
                (try simp only [Bool.not_true, Bool.not_false])
                refine sk_guard (guard_off 38 true 51 rfl rfl false (by decide) rfl) rfl ?_
                simp only [ls0, ls1]
                refine st (.bool false) rfl rfl (xr_pick false (.bool false) rfl rfl rfl) ?_
                simp only [ls0, ls1]
                refine st (.bool false) rfl rfl (xr_assign (.bool false) rfl rfl) ?_
                simp only [ls0, ls1]
                refine wl_end ?_
                (try simp only [Act.put, List.setIfInBounds_toArray, ls0, ls1])
                refine hK44842 _ _ ?_
                (try clear hK44842 K44842)
                refine wp_ret ?_
                (try simp only [Exit.inBlock, Exit.then, Exit.noGoto])
                (try simp only [Act.put, List.setIfInBounds_toArray, ls0, ls1])
                obtain rfl := Option.some.inj H
                refine bodyPost_ret (results_tmp rfl _ _ _) rfl ?_
                exact ⟨_, rfl, HS⟩
            · rw [if_neg c44878] at H
              (try rw [(decide_eq_false c44878)])
              (try simp only [Bool.not_true, Bool.not_false])
              refine sk_guard (guard_off 32 true 45 rfl rfl false (by decide) rfl) rfl ?_
              simp only [ls0, ls1]
              refine sk_guard (guard_off 32 true 45 rfl rfl false (by decide) rfl) rfl ?_
              simp only [ls0, ls1]
              refine sk_guard (guard_off 32 true 45 rfl rfl false (by decide) rfl) rfl ?_
              simp only [ls0, ls1]
              refine sk_guard (guard_off 32 true 45 rfl rfl false (by decide) rfl) rfl ?_
              simp only [ls0, ls1]
              refine st (.bool false) rfl rfl (xr_pick false (.bool false) rfl rfl rfl) ?_
              simp only [ls0, ls1]
              refine st (.bool false) rfl rfl (xr_move (.bool false) rfl rfl) ?_
              simp only [ls0, ls1]
              refine sk_guard (guard_off 38 true 51 rfl rfl false (by decide) rfl) rfl ?_
              simp only [ls0, ls1]
              refine st (.bool false) rfl rfl (xr_pick false (.bool false) rfl rfl rfl) ?_
              simp only [ls0, ls1]
              refine st (.bool false) rfl rfl (xr_assign (.bool false) rfl rfl) ?_
              simp only [ls0, ls1]
              refine wl_end ?_
              (try simp only [Act.put, List.setIfInBounds_toArray, ls0, ls1])
              refine hK44842 _ _ ?_
              (try clear hK44842 K44842)
              refine wp_ret ?_
              (try simp only [Exit.inBlock, Exit.then, Exit.noGoto])
              (try simp only [Act.put, List.setIfInBounds_toArray, ls0, ls1])
              obtain rfl := Option.some.inj H
              refine bodyPost_ret (results_tmp rfl _ _ _) rfl ?_
              exact ⟨_, rfl, HS⟩
          · rw [if_neg c44871] at H
            (try rw [(decide_eq_false c44871)])
            (try simp only [Bool.not_true, Bool.not_false])
            refine sk_guard (guard_off 26 true 39 rfl rfl false (by decide) rfl) rfl ?_
            simp only [ls0, ls1]
            refine sk_guard (guard_off 26 true 39 rfl rfl false (by decide) rfl) rfl ?_
            simp only [ls0, ls1]
            refine sk_guard (guard_off 26 true 39 rfl rfl false (by decide) rfl) rfl ?_
            simp only [ls0, ls1]
            refine sk_guard (guard_off 26 true 39 rfl rfl false (by decide) rfl) rfl ?_
            simp only [ls0, ls1]
            refine st (.bool false) rfl rfl (xr_pick false (.bool false) rfl rfl rfl) ?_
            simp only [ls0, ls1]
            refine st (.bool false) rfl rfl (xr_move (.bool false) rfl rfl) ?_
            simp only [ls0, ls1]
            refine sk_guard (guard_off 32 true 45 rfl rfl false (by decide) rfl) rfl ?_
            simp only [ls0, ls1]
            refine sk_guard (guard_off 32 true 45 rfl rfl false (by decide) rfl) rfl ?_
            simp only [ls0, ls1]
            refine sk_guard (guard_off 32 true 45 rfl rfl false (by decide) rfl) rfl ?_
            simp only [ls0, ls1]
            refine sk_guard (guard_off 32 true 45 rfl rfl false (by decide) rfl) rfl ?_
            simp only [ls0, ls1]
            refine st (.bool false) rfl rfl (xr_pick false (.bool false) rfl rfl rfl) ?_
            simp only [ls0, ls1]
            refine st (.bool false) rfl rfl (xr_move (.bool false) rfl rfl) ?_
            simp only [ls0, ls1]
            refine sk_guard (guard_off 38 true 51 rfl rfl false (by decide) rfl) rfl ?_
            simp only [ls0, ls1]
            refine st (.bool false) rfl rfl (xr_pick false (.bool false) rfl rfl rfl) ?_
            simp only [ls0, ls1]
            refine st (.bool false) rfl rfl (xr_assign (.bool false) rfl rfl) ?_
            simp only [ls0, ls1]
            refine wl_end ?_
            (try simp only [Act.put, List.setIfInBounds_toArray, ls0, ls1])
            refine hK44842 _ _ ?_
            (try clear hK44842 K44842)
            refine wp_ret ?_
            (try simp only [Exit.inBlock, Exit.then, Exit.noGoto])
            (try simp only [Act.put, List.setIfInBounds_toArray, ls0, ls1])
            obtain rfl := Option.some.inj H
            refine bodyPost_ret (results_tmp rfl _ _ _) rfl ?_
            exact ⟨_, rfl, HS⟩
    · rw [if_neg c44856] at H
      (try rw [(decide_eq_false c44856)])
      (try simp only [Bool.not_true, Bool.not_false])
      refine sk_guard (guard_off 9 true 22 rfl rfl false (by decide) rfl) rfl ?_
      simp only [ls0, ls1]
      refine sk_guard (guard_off 9 true 22 rfl rfl false (by decide) rfl) rfl ?_
      simp only [ls0, ls1]
      refine st (.bool false) rfl rfl (xr_pick false (.bool false) rfl rfl rfl) ?_
      simp only [ls0, ls1]
      refine st (.bool false) rfl rfl (xr_move (.bool false) rfl rfl) ?_
      simp only [ls0, ls1]
      refine sk_guard (guard_off 13 true 26 rfl rfl false (by decide) rfl) rfl ?_
      simp only [ls0, ls1]
      refine sk_guard (guard_off 13 true 26 rfl rfl false (by decide) rfl) rfl ?_
      simp only [ls0, ls1]
      refine sk_guard (guard_off 13 true 26 rfl rfl false (by decide) rfl) rfl ?_
      simp only [ls0, ls1]
      refine sk_guard (guard_off 13 true 26 rfl rfl false (by decide) rfl) rfl ?_
      simp only [ls0, ls1]
      refine sk_guard (guard_off 13 true 26 rfl rfl false (by decide) rfl) rfl ?_
      simp only [ls0, ls1]
      refine st (.bool false) rfl rfl (xr_pick false (.bool false) rfl rfl rfl) ?_
      simp only [ls0, ls1]
      refine st (.bool false) rfl rfl (xr_move (.bool false) rfl rfl) ?_
      simp only [ls0, ls1]
      refine sk_guard (guard_off 20 true 33 rfl rfl false (by decide) rfl) rfl ?_
      simp only [ls0, ls1]
      refine sk_guard (guard_off 20 true 33 rfl rfl false (by decide) rfl) rfl ?_
      simp only [ls0, ls1]
      refine sk_guard (guard_off 20 true 33 rfl rfl false (by decide) rfl) rfl ?_
      simp only [ls0, ls1]
      refine sk_guard (guard_off 20 true 33 rfl rfl false (by decide) rfl) rfl ?_
      simp only [ls0, ls1]
      refine st (.bool false) rfl rfl (xr_pick false (.bool false) rfl rfl rfl) ?_
      simp only [ls0, ls1]
      refine st (.bool false) rfl rfl (xr_move (.bool false) rfl rfl) ?_
      simp only [ls0, ls1]
      refine sk_guard (guard_off 26 true 39 rfl rfl false (by decide) rfl) rfl ?_
      simp only [ls0, ls1]
      refine sk_guard (guard_off 26 true 39 rfl rfl false (by decide) rfl) rfl ?_
      simp only [ls0, ls1]
      refine sk_guard (guard_off 26 true 39 rfl rfl false (by decide) rfl) rfl ?_
      simp only [ls0, ls1]
      refine sk_guard (guard_off 26 true 39 rfl rfl false (by decide) rfl) rfl ?_
      simp only [ls0, ls1]
      refine st (.bool false) rfl rfl (xr_pick false (.bool false) rfl rfl rfl) ?_
      simp only [ls0, ls1]
      refine st (.bool false) rfl rfl (xr_move (.bool false) rfl rfl) ?_
      simp only [ls0, ls1]
      refine sk_guard (guard_off 32 true 45 rfl rfl false (by decide) rfl) rfl ?_
      simp only [ls0, ls1]
      refine sk_guard (guard_off 32 true 45 rfl rfl false (by decide) rfl) rfl ?_
      simp only [ls0, ls1]
      refine sk_guard (guard_off 32 true 45 rfl rfl false (by decide) rfl) rfl ?_
      simp only [ls0, ls1]
      refine sk_guard (guard_off 32 true 45 rfl rfl false (by decide) rfl) rfl ?_
      simp only [ls0, ls1]
      refine st (.bool false) rfl rfl (xr_pick false (.bool false) rfl rfl rfl) ?_
      simp only [ls0, ls1]
      refine st (.bool false) rfl rfl (xr_move (.bool false) rfl rfl) ?_
      simp only [ls0, ls1]
      refine sk_guard (guard_off 38 true 51 rfl rfl false (by decide) rfl) rfl ?_
      simp only [ls0, ls1]
      refine st (.bool false) rfl rfl (xr_pick false (.bool false) rfl rfl rfl) ?_
      simp only [ls0, ls1]
      refine st (.bool false) rfl rfl (xr_assign (.bool false) rfl rfl) ?_
      simp only [ls0, ls1]
      refine wl_end ?_
      (try simp only [Act.put, List.setIfInBounds_toArray, ls0, ls1])
      refine hK44842 _ _ ?_
      (try clear hK44842 K44842)
      refine wp_ret ?_
      (try simp only [Exit.inBlock, Exit.then, Exit.noGoto])
      (try simp only [Act.put, List.setIfInBounds_toArray, ls0, ls1])
      obtain rfl := Option.some.inj H
      refine bodyPost_ret (results_tmp rfl _ _ _) rfl ?_
      exact ⟨_, rfl, HS⟩
  · rw [if_neg c44849] at H
    (try rw [(decide_eq_false c44849)])
    (try simp only [Bool.not_true, Bool.not_false])
    refine sk_guard (guard_off 3 true 16 rfl rfl false (by decide) rfl) rfl ?_
    simp only [ls0, ls1]
    refine sk_guard (guard_off 3 true 16 rfl rfl false (by decide) rfl) rfl ?_
    simp only [ls0, ls1]
    refine sk_guard (guard_off 3 true 16 rfl rfl false (by decide) rfl) rfl ?_
    simp only [ls0, ls1]
    refine sk_guard (guard_off 3 true 16 rfl rfl false (by decide) rfl) rfl ?_
    simp only [ls0, ls1]
    refine st (.bool false) rfl rfl (xr_pick false (.bool false) rfl rfl rfl) ?_
    simp only [ls0, ls1]
    refine st (.bool false) rfl rfl (xr_move (.bool false) rfl rfl) ?_
    simp only [ls0, ls1]
    refine sk_guard (guard_off 9 true 22 rfl rfl false (by decide) rfl) rfl ?_
    simp only [ls0, ls1]
    refine sk_guard (guard_off 9 true 22 rfl rfl false (by decide) rfl) rfl ?_
    simp only [ls0, ls1]
    refine st (.bool false) rfl rfl (xr_pick false (.bool false) rfl rfl rfl) ?_
    simp only [ls0, ls1]
    refine st (.bool false) rfl rfl (xr_move (.bool false) rfl rfl) ?_
    simp only [ls0, ls1]
    refine sk_guard (guard_off 13 true 26 rfl rfl false (by decide) rfl) rfl ?_
    simp only [ls0, ls1]
    refine sk_guard (guard_off 13 true 26 rfl rfl false (by decide) rfl) rfl ?_
    simp only [ls0, ls1]
    refine sk_guard (guard_off 13 true 26 rfl rfl false (by decide) rfl) rfl ?_
    simp only [ls0, ls1]
    refine sk_guard (guard_off 13 true 26 rfl rfl false (by decide) rfl) rfl ?_
    simp only [ls0, ls1]
    refine sk_guard (guard_off 13 true 26 rfl rfl false (by decide) rfl) rfl ?_
    simp only [ls0, ls1]
    refine st (.bool false) rfl rfl (xr_pick false (.bool false) rfl rfl rfl) ?_
    simp only [ls0, ls1]
    refine st (.bool false) rfl rfl (xr_move (.bool false) rfl rfl) ?_
    simp only [ls0, ls1]
    refine sk_guard (guard_off 20 true 33 rfl rfl false (by decide) rfl) rfl ?_
    simp only [ls0, ls1]
    refine sk_guard (guard_off 20 true 33 rfl rfl false (by decide) rfl) rfl ?_
    simp only [ls0, ls1]
    refine sk_guard (guard_off 20 true 33 rfl rfl false (by decide) rfl) rfl ?_
    simp only [ls0, ls1]
    refine sk_guard (guard_off 20 true 33 rfl rfl false (by decide) rfl) rfl ?_
    simp only [ls0, ls1]
    refine st (.bool false) rfl rfl (xr_pick false (.bool false) rfl rfl rfl) ?_
    simp only [ls0, ls1]
    refine st (.bool false) rfl rfl (xr_move (.bool false) rfl rfl) ?_
    simp only [ls0, ls1]
    refine sk_guard (guard_off 26 true 39 rfl rfl false (by decide) rfl) rfl ?_
    simp only [ls0, ls1]
    refine sk_guard (guard_off 26 true 39 rfl rfl false (by decide) rfl) rfl ?_
    simp only [ls0, ls1]
    refine sk_guard (guard_off 26 true 39 rfl rfl false (by decide) rfl) rfl ?_
    simp only [ls0, ls1]
    refine sk_guard (guard_off 26 true 39 rfl rfl false (by decide) rfl) rfl ?_
    simp only [ls0, ls1]
    refine st (.bool false) rfl rfl (xr_pick false (.bool false) rfl rfl rfl) ?_
    simp only [ls0, ls1]
    refine st (.bool false) rfl rfl (xr_move (.bool false) rfl rfl) ?_
    simp only [ls0, ls1]
    refine sk_guard (guard_off 32 true 45 rfl rfl false (by decide) rfl) rfl ?_
    simp only [ls0, ls1]
    refine sk_guard (guard_off 32 true 45 rfl rfl false (by decide) rfl) rfl ?_
    simp only [ls0, ls1]
    refine sk_guard (guard_off 32 true 45 rfl rfl false (by decide) rfl) rfl ?_
    simp only [ls0, ls1]
    refine sk_guard (guard_off 32 true 45 rfl rfl false (by decide) rfl) rfl ?_
    simp only [ls0, ls1]
    refine st (.bool false) rfl rfl (xr_pick false (.bool false) rfl rfl rfl) ?_
    simp only [ls0, ls1]
    refine st (.bool false) rfl rfl (xr_move (.bool false) rfl rfl) ?_
    simp only [ls0, ls1]
    refine sk_guard (guard_off 38 true 51 rfl rfl false (by decide) rfl) rfl ?_
    simp only [ls0, ls1]
    refine st (.bool false) rfl rfl (xr_pick false (.bool false) rfl rfl rfl) ?_
    simp only [ls0, ls1]
    refine st (.bool false) rfl rfl (xr_assign (.bool false) rfl rfl) ?_
    simp only [ls0, ls1]
    refine wl_end ?_
    (try simp only [Act.put, List.setIfInBounds_toArray, ls0, ls1])
    refine hK44842 _ _ ?_
    (try clear hK44842 K44842)
    refine wp_ret ?_
    (try simp only [Exit.inBlock, Exit.then, Exit.noGoto])
    (try simp only [Act.put, List.setIfInBounds_toArray, ls0, ls1])
    obtain rfl := Option.some.inj H
    refine bodyPost_ret (results_tmp rfl _ _ _) rfl ?_
    exact ⟨_, rfl, HS⟩
/-- THE ONE PURE STATEMENT of blazonlaw13_OrderNil. -/
def blazonlaw13_OrderNil.Pure : Prop := ∀ (a0 : Int) (a1 : Int), (Lit.int .i64 a0).wf = true → (Lit.int .i64 a1).wf = true → ∃ k, blazonlaw13_OrderNil.f k a0 a1 = some true
theorem blazonlaw13_OrderNil.walk (P : blazonlaw13_OrderNil.Pure) (a0 : Int) (a1 : Int) (w : World) (w0 : (Lit.int .i64 a0).wf = true) (w1 : (Lit.int .i64 a1).wf = true) :
    Calls Try.prog 6 #[.int .i64 a0, .int .i64 a1] w fun e w' => e = .returned (.bool true) ∧ Below w.heap.size w w' := by
  obtain ⟨k, h⟩ := P a0 a1 w0 w1
  refine (blazonlaw13_OrderNil.calls k a0 a1 true (fun _ => 0) w (fun _ => (by decide : (0 : Nat) < 10)) h).mono ?_
  rintro e w' ⟨c', rfl, hs⟩
  exact ⟨rfl, hs.below (fun _ => by simp)⟩

end Go.Proofs.Ytpfepkkpbampkaa.POrd
