-- By cprint.py, a program of this work. Lean checks it.
import Derived.Test.YtpfepkkpbampkaaPOrsx0
import Derived.Test.YtpfepkkpbampkaaPOrsx1
import Derived.Test.YtpfepkkpbampkaaPOrsx3
import Derived.Test.YtpfepkkpbampkaaPOrsx4
namespace Go.Proofs.Ytpfepkkpbampkaa.POrs
open Go.RowKit Go.Proofs.YtpfepkkpbampkaaW.PrintWords Go.Proofs.YtpfepkkpbampkaaW.PrintLast Go.Proofs.YtpfepkkpbampkaaW.PrintMore
set_option linter.unusedVariables false
set_option linter.unusedSimpArgs false

/-! ### blazonlaw13_OrderSorts: function 5 -/
mutual
def blazonlaw13_OrderSorts.l0 : Nat → (List Int) → (Option S47) → Int → Int → Int → Option (Bool)
  | 0, _, _, _, _, _ => none
  | k + 1, t23604, x34727, x34731, x39141, x39450 => if x39450 < (t23604.length : Int) then ((order_Order_Most.f x34727 x34731 x39141).bind fun t39486 => (if t39486 = true then ((order_Order_Most.f x34727 x39141 x39450).bind fun t39493 => (if t39493 = true then ((order_Order_Most.f x34727 x34731 x39450).bind fun t39500 => (if t39500 = true then (blazonlaw13_OrderSorts.l0 k t23604 x34727 x34731 x39141 (wrap64 (x39450 + 1))) else (some false))) else (blazonlaw13_OrderSorts.l0 k t23604 x34727 x34731 x39141 (wrap64 (x39450 + 1))))) else (blazonlaw13_OrderSorts.l0 k t23604 x34727 x34731 x39141 (wrap64 (x39450 + 1))))) else (blazonlaw13_OrderSorts.l4 k t23604 x34727 x34731 (wrap64 (x39141 + 1)))
def blazonlaw13_OrderSorts.l1 : Nat → (List Int) → (Option S47) → Int → Int → Int → Option (Bool)
  | 0, _, _, _, _, _ => none
  | k + 1, t23604, x34727, x34731, x39141, x39611 => if x39611 < (t23604.length : Int) then ((order_Order_Most.f x34727 x34731 x39141).bind fun t39647 => (if t39647 = true then ((order_Order_Most.f x34727 x39141 x39611).bind fun t39654 => (if t39654 = true then ((order_Order_Most.f x34727 x34731 x39611).bind fun t39661 => (if t39661 = true then (blazonlaw13_OrderSorts.l1 k t23604 x34727 x34731 x39141 (wrap64 (x39611 + 1))) else (some false))) else (blazonlaw13_OrderSorts.l1 k t23604 x34727 x34731 x39141 (wrap64 (x39611 + 1))))) else (blazonlaw13_OrderSorts.l1 k t23604 x34727 x34731 x39141 (wrap64 (x39611 + 1))))) else (blazonlaw13_OrderSorts.l4 k t23604 x34727 x34731 (wrap64 (x39141 + 1)))
def blazonlaw13_OrderSorts.l2 : Nat → (List Int) → (Option S47) → Int → Int → Int → Option (Bool)
  | 0, _, _, _, _, _ => none
  | k + 1, t23604, x34727, x34731, x39141, x39786 => if x39786 < (t23604.length : Int) then ((order_Order_Most.f x34727 x34731 x39141).bind fun t39822 => (if t39822 = true then ((order_Order_Most.f x34727 x39141 x39786).bind fun t39829 => (if t39829 = true then ((order_Order_Most.f x34727 x34731 x39786).bind fun t39836 => (if t39836 = true then (blazonlaw13_OrderSorts.l2 k t23604 x34727 x34731 x39141 (wrap64 (x39786 + 1))) else (some false))) else (blazonlaw13_OrderSorts.l2 k t23604 x34727 x34731 x39141 (wrap64 (x39786 + 1))))) else (blazonlaw13_OrderSorts.l2 k t23604 x34727 x34731 x39141 (wrap64 (x39786 + 1))))) else (blazonlaw13_OrderSorts.l4 k t23604 x34727 x34731 (wrap64 (x39141 + 1)))
def blazonlaw13_OrderSorts.l3 : Nat → (List Int) → (Option S47) → Int → Int → Int → Option (Bool)
  | 0, _, _, _, _, _ => none
  | k + 1, t23604, x34727, x34731, x39141, x39947 => if x39947 < (t23604.length : Int) then ((order_Order_Most.f x34727 x34731 x39141).bind fun t39983 => (if t39983 = true then ((order_Order_Most.f x34727 x39141 x39947).bind fun t39990 => (if t39990 = true then ((order_Order_Most.f x34727 x34731 x39947).bind fun t39997 => (if t39997 = true then (blazonlaw13_OrderSorts.l3 k t23604 x34727 x34731 x39141 (wrap64 (x39947 + 1))) else (some false))) else (blazonlaw13_OrderSorts.l3 k t23604 x34727 x34731 x39141 (wrap64 (x39947 + 1))))) else (blazonlaw13_OrderSorts.l3 k t23604 x34727 x34731 x39141 (wrap64 (x39947 + 1))))) else (blazonlaw13_OrderSorts.l4 k t23604 x34727 x34731 (wrap64 (x39141 + 1)))
def blazonlaw13_OrderSorts.l4 : Nat → (List Int) → (Option S47) → Int → Int → Option (Bool)
  | 0, _, _, _, _ => none
  | k + 1, t23604, x34727, x34731, x39141 => if x39141 < (t23604.length : Int) then (if 0 ≤ x34731 then (if x34731 < (t23604.length : Int) then (if 0 ≤ x39141 then ((order_Order_Most.f x34727 (rd t23604 x34731) (rd t23604 x39141)).bind fun t39316 => (if t39316 = true then ((order_Order_Most.f x34727 (rd t23604 x39141) (rd t23604 x34731)).bind fun t39327 => (if t39327 = (decide (x34731 = x39141)) then ((order_Order_Most.f x34727 (rd t23604 x39141) (rd t23604 x34731)).bind fun t39338 => (if t39338 = true then (if x39141 > x34731 then (some false) else (blazonlaw13_OrderSorts.l0 k t23604 x34727 x34731 x39141 0)) else (blazonlaw13_OrderSorts.l1 k t23604 x34727 x34731 x39141 0))) else (some false))) else ((order_Order_Most.f x34727 (rd t23604 x39141) (rd t23604 x34731)).bind fun t39674 => (if t39674 = true then (if x39141 > x34731 then (some false) else (blazonlaw13_OrderSorts.l2 k t23604 x34727 x34731 x39141 0)) else (blazonlaw13_OrderSorts.l3 k t23604 x34727 x34731 x39141 0))))) else (none)) else (none)) else (none)) else ((order_Order_Most.f x34727 x34731 x34731).bind fun t40035 => (if t40035 = true then (if x34731 > 0 then (if 0 ≤ x34731 then (if x34731 < (t23604.length : Int) then (if 0 ≤ (wrap64 (x34731 - 1)) then (if (wrap64 (x34731 - 1)) < (t23604.length : Int) then (if (rd t23604 x34731) < (rd t23604 (wrap64 (x34731 - 1))) then ((order_Order_Most.f x34727 (rd t23604 (wrap64 (x34731 - 1))) (rd t23604 x34731)).bind fun t40056 => (if t40056 = true then (blazonlaw13_OrderSorts.l5 k t23604 x34727 (wrap64 (x34731 + 1))) else (some false))) else (blazonlaw13_OrderSorts.l5 k t23604 x34727 (wrap64 (x34731 + 1)))) else (none)) else (none)) else (none)) else (none)) else (blazonlaw13_OrderSorts.l5 k t23604 x34727 (wrap64 (x34731 + 1)))) else (some false)))
def blazonlaw13_OrderSorts.l5 : Nat → (List Int) → (Option S47) → Int → Option (Bool)
  | 0, _, _, _ => none
  | k + 1, t23604, x34727, x34731 => if x34731 < (t23604.length : Int) then (blazonlaw13_OrderSorts.l4 k t23604 x34727 x34731 0) else ((blazonlaw13_awake.f k).bind fun t40066 => (some t40066))
end
def blazonlaw13_OrderSorts.f (k : Nat) (l0 : List (S25)) : Option (Bool) := (blazonref13_Great.f k l0 40).bind fun t23575 => (if t23575 = true then ((blazonlaw13_awake.f k).bind fun t23583 => (some t23583)) else ((order_New.f k l0).bind fun bt23590 => (if bt23590.2.2 = 0 then ((order_Order_Sorted.f k bt23590.1).bind fun t23604 => ((order_Order_Len.f bt23590.1).bind fun t23616 => (if (t23604.length : Int) = t23616 then (blazonlaw13_OrderSorts.l5 k t23604 bt23590.1 0) else (some false)))) else ((blazonlaw13_awake.f k).bind fun t40074 => (some t40074)))))

set_option maxHeartbeats 2000000 in
set_option maxRecDepth 100000 in
theorem blazonlaw13_OrderSorts.calls (k : Nat) (A0 : Option Addr) (c0 : Nat) (l0 : List (S25)) (r : Bool) (c : Nat → Nat) (w : World) (hc : ∀ k, c k < 10) (HP0 : Ft c [0] w (fun w_ => k25.C w_ A0 l0.length l0)) (HCP0 : l0.length ≤ c0) (H : blazonlaw13_OrderSorts.f k l0 = some r) :
    Calls Try.prog 5 #[.slice A0 l0.length c0] w fun e w' => ∃ (c' : Nat → Nat) , e = .returned (.bool r) ∧ Step c w c' w' [] := by
 unfold blazonlaw13_OrderSorts.f at H
 have HS := Step.refl c w []
 go_enter Try.func5, Try.ntmps5
 refine wp_seq_k fun K23572 hK23572 => ?_
 refine wl_region ?_
 refine st (.bool false) rfl rfl (xr_assign (.bool false) rfl rfl) ?_
 simp only [ls0, ls1]
 refine wl_end ?_
 (try simp only [Act.put, List.setIfInBounds_toArray, ls0, ls1])
 refine hK23572 _ _ ?_
 (try clear hK23572 K23572)
 refine wp_seq_k fun K23573 hK23573 => ?_
 refine wp_seq_k fun K23574 hK23574 => ?_
 refine wl_region ?_
 refine st (.slice A0 l0.length c0) rfl rfl (xr_move (.slice A0 l0.length c0) rfl rfl) ?_
 simp only [ls0, ls1]
 obtain ⟨t23575, A23576, H⟩ := Option.bind_eq_some_iff.mp H
 (try dsimp only at H)
 refine st_call #[.slice A0 l0.length c0, .int .i64 40] rfl rfl Try.func12 (by kernel_rfl) rfl rfl (by simp only [List.map_toArray, List.map_cons, List.map_nil]; first | done | rfl) ?_
 refine (blazonref13_Great.calls k A0 c0 l0 40 t23575  (fun z_ => pal [(0, 0)] (c z_)) w (fun _ => pal_lt rfl _) (Ft.arg HP0 rfl) HCP0 A23576).mono ?_
 rintro _ w23578 ⟨C23579, rfl, hs23580⟩
 refine ⟨_, rfl, ?_⟩
 replace hs23580 := Step.lift (U := [(0, 0)]) hs23580 [] rfl rfl
 generalize up c C23579 w.heap.size [(0, 0)] = C23579_ at hs23580
 replace HP0 := HP0.thru hs23580 rfl
 replace HS := HS.trans hs23580 hc rfl
 (try simp only [Act.put, List.setIfInBounds_toArray, ls0, ls1])
 refine wl_end ?_
 (try simp only [Act.put, List.setIfInBounds_toArray, ls0, ls1])
 refine hK23574 _ _ ?_
 (try clear hK23574 K23574)
 by_cases c23581 : t23575 = true
 ·rw [if_pos c23581] at H
  (try rw [c23581])
  (try simp only [Bool.not_true, Bool.not_false])
  refine wp_cond_true rfl ?_
  refine wp_seq_k fun K23582 hK23582 => ?_
  refine wl_region ?_
  obtain ⟨t23583, A23584, H⟩ := Option.bind_eq_some_iff.mp H
  (try dsimp only at H)
  refine st_call #[] rfl rfl Try.func9 (by kernel_rfl) rfl rfl (by simp only [List.map_toArray, List.map_cons, List.map_nil]; first | done | rfl) ?_
  refine (blazonlaw13_awake.calls k t23583  (fun z_ => pal [(0, 0)] (C23579_ z_)) w23578 (fun _ => pal_lt rfl _) A23584).mono ?_
  rintro _ w23586 ⟨C23587, rfl, hs23588⟩
  refine ⟨_, rfl, ?_⟩
  replace hs23588 := Step.lift (U := [(0, 0)]) hs23588 [] rfl rfl
  generalize up C23579_ C23587 w23578.heap.size [(0, 0)] = C23587_ at hs23588
  replace HS := HS.trans hs23588 hc rfl
  (try simp only [Act.put, List.setIfInBounds_toArray, ls0, ls1])
  refine st (.bool t23583) rfl rfl (xr_assign (.bool t23583) rfl rfl) ?_
  simp only [ls0, ls1]
  refine wl_end ?_
  (try simp only [Act.put, List.setIfInBounds_toArray, ls0, ls1])
  refine hK23582 _ _ ?_
  (try clear hK23582 K23582)
  refine wp_ret ?_
  (try simp only [Exit.inBlock, Exit.then, Exit.noGoto])
  (try simp only [Act.put, List.setIfInBounds_toArray, ls0, ls1])
  obtain rfl := Option.some.inj H
  refine bodyPost_ret (results_tmp rfl _ _ _) rfl ?_
  exact ⟨_, rfl, HS⟩
 ·rw [if_neg c23581] at H
  (try rw [(Bool.eq_false_iff.mpr c23581)])
  (try simp only [Bool.not_true, Bool.not_false])
  refine wp_cond_false rfl ?_
  refine wp_skip ?_
  (try simp only [Act.put, List.setIfInBounds_toArray, ls0, ls1])
  refine hK23573 _ _ ?_
  (try clear hK23573 K23573)
  refine wp_seq_k fun K23589 hK23589 => ?_
  refine wl_region ?_
  refine st (.slice A0 l0.length c0) rfl rfl (xr_move (.slice A0 l0.length c0) rfl rfl) ?_
  simp only [ls0, ls1]
  obtain ⟨⟨t23590, t23591, t23592⟩, A23593, H⟩ := Option.bind_eq_some_iff.mp H
  (try dsimp only at H)
  refine st_call #[.slice A0 l0.length c0] rfl rfl Try.func8 (by kernel_rfl) rfl rfl (by simp only [List.map_toArray, List.map_cons, List.map_nil]; first | done | rfl) ?_
  refine (order_New.calls k A0 c0 l0 t23590 t23591 t23592  (fun z_ => pal [(0, 0)] (C23579_ z_)) w23578 (fun _ => pal_lt rfl _) (Ft.arg HP0 rfl) HCP0 A23593).mono ?_
  rintro _ w23595 ⟨C23596, v23598, rfl, hs23597, HB23599⟩
  refine ⟨_, rfl, ?_⟩
  replace HB23599 := Ft.res (U := [(0, 0)]) HB23599 hs23597 [0] rfl rfl rfl
  replace hs23597 := Step.lift (U := [(0, 0)]) hs23597 [] rfl rfl
  generalize up C23579_ C23596 w23578.heap.size [(0, 0)] = C23596_ at HB23599 hs23597
  replace HS := HS.trans hs23597 hc rfl
  (try simp only [Act.put, List.setIfInBounds_toArray, ls0, ls1])
  refine st (.tuple #[v23598, .int .i64 t23591, .int .i64 t23592]) rfl rfl (xr_move (.tuple #[v23598, .int .i64 t23591, .int .i64 t23592]) rfl rfl) ?_
  simp only [ls0, ls1]
  refine st (v23598) rfl rfl (xr_extract (.tuple #[v23598, .int .i64 t23591, .int .i64 t23592]) (v23598) rfl rfl rfl) ?_
  simp only [ls0, ls1]
  refine st (.int .i64 t23591) rfl rfl (xr_extract (.tuple #[v23598, .int .i64 t23591, .int .i64 t23592]) (.int .i64 t23591) rfl rfl rfl) ?_
  simp only [ls0, ls1]
  refine st (.int .i64 t23592) rfl rfl (xr_extract (.tuple #[v23598, .int .i64 t23591, .int .i64 t23592]) (.int .i64 t23592) rfl rfl rfl) ?_
  simp only [ls0, ls1]
  refine st (v23598) rfl rfl (xr_assign (v23598) rfl rfl) ?_
  simp only [ls0, ls1]
  refine st (.int .i64 t23591) rfl rfl (xr_assign (.int .i64 t23591) rfl rfl) ?_
  simp only [ls0, ls1]
  refine st (.int .i64 t23592) rfl rfl (xr_assign (.int .i64 t23592) rfl rfl) ?_
  simp only [ls0, ls1]
  refine wl_end ?_
  (try simp only [Act.put, List.setIfInBounds_toArray, ls0, ls1])
  refine hK23589 _ _ ?_
  (try clear hK23589 K23589)
  refine wp_seq_k fun K23600 hK23600 => ?_
  refine wp_seq_k fun K23601 hK23601 => ?_
  refine wl_region ?_
  refine st (.int .i64 t23592) rfl rfl (xr_move (.int .i64 t23592) rfl rfl) ?_
  simp only [ls0, ls1]
  refine st (.bool (!decide (t23592 = 0))) rfl rfl (xr_bin (.int .i64 t23592) (.int .i64 0) (.bool (!decide (t23592 = 0))) rfl rfl rfl (B.neq_i64 t23592 0)) ?_
  simp only [ls0, ls1]
  refine wl_end ?_
  (try simp only [Act.put, List.setIfInBounds_toArray, ls0, ls1])
  refine hK23601 _ _ ?_
  (try clear hK23601 K23601)
  by_cases c23602 : t23592 = 0
  ·rw [if_pos c23602] at H
   (try rw [(decide_eq_true c23602)])
   (try simp only [Bool.not_true, Bool.not_false])
   refine wp_cond_false rfl ?_
   refine wp_skip ?_
   (try simp only [Act.put, List.setIfInBounds_toArray, ls0, ls1])
   refine hK23600 _ _ ?_
   (try clear hK23600 K23600)
   refine wp_seq_k fun K23603 hK23603 => ?_
   refine wl_region ?_
   refine st (v23598) rfl rfl (xr_move (v23598) rfl rfl) ?_
   simp only [ls0, ls1]
   obtain ⟨t23604, A23605, H⟩ := Option.bind_eq_some_iff.mp H
   (try dsimp only at H)
   refine st_call #[v23598] rfl rfl Try.func15 (by kernel_rfl) rfl rfl (by simp only [List.map_toArray, List.map_cons, List.map_nil]; first | done | rfl) ?_
   refine (order_Order_Sorted.calls k v23598 t23590 t23604  (fun z_ => pal [(0, 0)] (C23596_ z_)) w23595 (fun _ => pal_lt rfl _) (Ft.arg HB23599 rfl) A23605).mono ?_
   rintro _ w23607 ⟨C23608, A23610, cp23611, rfl, hs23609, HO23612, HC23613⟩
   refine ⟨_, rfl, ?_⟩
   replace HO23612 := Own.res (U := [(0, 0), (5, 11)]) (j := 11) HO23612 hs23609 (by rfl) (by decide) rfl rfl
   replace hs23609 := Step.lift (U := [(0, 0), (5, 11)]) hs23609 [] rfl rfl
   generalize up C23596_ C23608 w23595.heap.size [(0, 0), (5, 11)] = C23608_ at HO23612 hs23609
   replace HB23599 := HB23599.thru hs23609 rfl
   replace HS := HS.trans hs23609 hc rfl
   (try simp only [Act.put, List.setIfInBounds_toArray, ls0, ls1])
   refine st (.slice A23610 t23604.length cp23611) rfl rfl (xr_assign (.slice A23610 t23604.length cp23611) rfl rfl) ?_
   simp only [ls0, ls1]
   refine wl_end ?_
   (try simp only [Act.put, List.setIfInBounds_toArray, ls0, ls1])
   refine hK23603 _ _ ?_
   (try clear hK23603 K23603)
   refine wp_seq_k fun K23614 hK23614 => ?_
   refine wp_seq_k fun K23615 hK23615 => ?_
   refine wl_region ?_
   refine st (.slice A23610 t23604.length cp23611) rfl rfl (xr_move (.slice A23610 t23604.length cp23611) rfl rfl) ?_
   simp only [ls0, ls1]
   refine st (.int .i64 (t23604.length : Int)) rfl rfl (xr_builtin #[.slice A23610 t23604.length cp23611] (.int .i64 (t23604.length : Int)) rfl (by simp only [List.map_toArray, List.map_cons, List.map_nil]; first | done | rfl) (by first | rfl | (go_simp; done) | (go_simp; rfl) | (go_simp; exact i64_w _) | (go_simp; exact i32_w _))) ?_
   simp only [ls0, ls1]
   refine st (v23598) rfl rfl (xr_move (v23598) rfl rfl) ?_
   simp only [ls0, ls1]
   obtain ⟨t23616, A23617, H⟩ := Option.bind_eq_some_iff.mp H
   (try dsimp only at H)
   refine st_call #[v23598] rfl rfl Try.func10 (by kernel_rfl) rfl rfl (by simp only [List.map_toArray, List.map_cons, List.map_nil]; first | done | rfl) ?_
   refine (order_Order_Len.calls v23598 t23590 t23616  (fun z_ => pal [(0, 0)] (C23608_ z_)) w23607 (fun _ => pal_lt rfl _) (Ft.arg HB23599 rfl) A23617).mono ?_
   rintro _ w23619 ⟨C23620, rfl, hs23621⟩
   refine ⟨_, rfl, ?_⟩
   replace hs23621 := Step.lift (U := [(0, 0)]) hs23621 [] rfl rfl
   generalize up C23608_ C23620 w23607.heap.size [(0, 0)] = C23620_ at hs23621
   replace HB23599 := HB23599.thru hs23621 rfl
   replace HO23612 := HO23612.thru hs23621 rfl
   replace HS := HS.trans hs23621 hc rfl
   (try simp only [Act.put, List.setIfInBounds_toArray, ls0, ls1])
   refine st (.bool (!decide ((t23604.length : Int) = t23616))) rfl rfl (xr_bin (.int .i64 (t23604.length : Int)) (.int .i64 t23616) (.bool (!decide ((t23604.length : Int) = t23616))) rfl rfl rfl (B.neq_i64 (t23604.length : Int) t23616)) ?_
   simp only [ls0, ls1]
   refine wl_end ?_
   (try simp only [Act.put, List.setIfInBounds_toArray, ls0, ls1])
   refine hK23615 _ _ ?_
   (try clear hK23615 K23615)
   by_cases c23622 : (t23604.length : Int) = t23616
   ·rw [if_pos c23622] at H
    (try rw [(decide_eq_true c23622)])
    (try simp only [Bool.not_true, Bool.not_false])
    refine wp_cond_false rfl ?_
    refine wp_skip ?_
    (try simp only [Act.put, List.setIfInBounds_toArray, ls0, ls1])
    refine hK23614 _ _ ?_
    (try clear hK23614 K23614)
    refine wp_seq_k fun K23623 hK23623 => ?_
    refine wp_seq_k fun K23624 hK23624 => ?_
    refine wl_region ?_
    refine st (.int .i64 0) rfl rfl (xr_assign (.int .i64 0) rfl rfl) ?_
    simp only [ls0, ls1]
    refine wl_end ?_
    (try simp only [Act.put, List.setIfInBounds_toArray, ls0, ls1])
    refine hK23624 _ _ ?_
    (try clear hK23624 K23624)
    refine wp_block ?_
    (try simp only [Act.put, List.setIfInBounds_toArray, ls0, ls1])
    refine wp_looped (looped_ind (fun kq34735 a_ w34734 => ∃ (C34733 : Nat → Nat) (x34731 : Int) (v34728 : Value) (x34727 : Option S47) (g34732 : Nat → Value), a_ = ⟨#[(g34732 0), (g34732 1), (g34732 2), v34728, (g34732 4), (g34732 5), .slice A23610 t23604.length cp23611, .int .i64 x34731, (g34732 8), (g34732 9), (g34732 10), (g34732 11), (g34732 12), (g34732 13), (g34732 14), (g34732 15), (g34732 16), (g34732 17), (g34732 18), (g34732 19), (g34732 20), (g34732 21), (g34732 22), (g34732 23), (g34732 24), (g34732 25), (g34732 26), (g34732 27), (g34732 28), (g34732 29), (g34732 30), (g34732 31), (g34732 32), (g34732 33), (g34732 34), (g34732 35), (g34732 36), (g34732 37), (g34732 38), (g34732 39), (g34732 40), (g34732 41), (g34732 42), (g34732 43), (g34732 44), (g34732 45), (g34732 46), (g34732 47), (g34732 48), (g34732 49), (g34732 50), (g34732 51), (g34732 52), (g34732 53), (g34732 54), (g34732 55), (g34732 56), (g34732 57), (g34732 58), (g34732 59), (g34732 60), (g34732 61), (g34732 62), (g34732 63), (g34732 64), (g34732 65), (g34732 66), (g34732 67), (g34732 68), (g34732 69), (g34732 70), (g34732 71), (g34732 72), (g34732 73), (g34732 74), (g34732 75), (g34732 76), (g34732 77), (g34732 78), (g34732 79), (g34732 80), (g34732 81), (g34732 82), (g34732 83), (g34732 84), (g34732 85), (g34732 86), (g34732 87), (g34732 88), (g34732 89), (g34732 90), (g34732 91), (g34732 92), (g34732 93), (g34732 94), (g34732 95), (g34732 96), (g34732 97), (g34732 98), (g34732 99), (g34732 100), (g34732 101), (g34732 102), (g34732 103), (g34732 104), (g34732 105), (g34732 106), (g34732 107), (g34732 108), (g34732 109), (g34732 110), (g34732 111), (g34732 112), (g34732 113), (g34732 114), (g34732 115), (g34732 116), (g34732 117), (g34732 118), (g34732 119), (g34732 120), (g34732 121), (g34732 122), (g34732 123), (g34732 124), (g34732 125), (g34732 126), (g34732 127), (g34732 128), (g34732 129), (g34732 130), (g34732 131), (g34732 132), (g34732 133), (g34732 134), (g34732 135), (g34732 136), (g34732 137), (g34732 138), (g34732 139), (g34732 140), (g34732 141), (g34732 142)], []⟩ ∧ Step c w C34733 w34734 [] ∧ kq34735 ≤ k ∧ (Ft C34733 [0] w34734 (fun w_ => (Kd.ptr 47 k47).K w_ x34727 [v34728])) ∧ (Own C34733 11 w34734 (Kd.int .i64) 3 (.slice A23610 t23604.length cp23611) t23604) ∧ blazonlaw13_OrderSorts.l5 kq34735 t23604 x34727 x34731 = some r) ?step k _ _ ?init)
    case init =>
     exact ⟨_, 0, v23598, t23590, (fun q_ => List.getD [.slice A0 l0.length c0, undef, .bool false, undef, .int .i64 t23591, .int .i64 t23592, undef, undef, undef, undef, .slice A0 l0.length c0, .bool false, undef, .tuple #[v23598, .int .i64 t23591, .int .i64 t23592], .slice A0 l0.length c0, .tuple #[v23598, .int .i64 t23591, .int .i64 t23592], v23598, .int .i64 t23591, .int .i64 t23592, .int .i64 t23592, .bool false, undef, v23598, .slice A23610 t23604.length cp23611, .slice A23610 t23604.length cp23611, .int .i64 (t23604.length : Int), v23598, .int .i64 t23616, .bool false, undef, undef, undef, undef, undef, undef, undef, undef, undef, undef, undef, undef, undef, undef, undef, undef, undef, undef, undef, undef, undef, undef, undef, undef, undef, undef, undef, undef, undef, undef, undef, undef, undef, undef, undef, undef, undef, undef, undef, undef, undef, undef, undef, undef, undef, undef, undef, undef, undef, undef, undef, undef, undef, undef, undef, undef, undef, undef, undef, undef, undef, undef, undef, undef, undef, undef, undef, undef, undef, undef, undef, undef, undef, undef, undef, undef, undef, undef, undef, undef, undef, undef, undef, undef, undef, undef, undef, undef, undef, undef, undef, undef, undef, undef, undef, undef, undef, undef, undef, undef, undef, undef, undef, undef, undef, undef, undef, undef, undef, undef, undef, undef, undef, undef] q_ undef), rfl, HS, Nat.le_refl _, HB23599, HO23612, H⟩
    case step =>
     intro kq34735 ih34738 a34739 w34734 hr34740
     obtain ⟨C34733, x34731, v34728, x34727, g34732, rfl, HS34736, hk34737, HJ34729, HJ34730, H⟩ := hr34740
     refine looped_round ?_
     cases kq34735 with
     | zero => exact absurd H (by simp [blazonlaw13_OrderSorts.l5])
     | succ k34741 =>
      simp only [blazonlaw13_OrderSorts.l5] at H
      refine wp_seq_k fun K34742 hK34742 => ?_
      refine wp_seq_k fun K34743 hK34743 => ?_
      refine wl_region ?_
      refine st (.int .i64 x34731) rfl rfl (xr_move (.int .i64 x34731) rfl rfl) ?_
      simp only [ls0, ls1]
      refine st (.slice A23610 t23604.length cp23611) rfl rfl (xr_move (.slice A23610 t23604.length cp23611) rfl rfl) ?_
      simp only [ls0, ls1]
      refine st (.int .i64 (t23604.length : Int)) rfl rfl (xr_builtin #[.slice A23610 t23604.length cp23611] (.int .i64 (t23604.length : Int)) rfl (by simp only [List.map_toArray, List.map_cons, List.map_nil]; first | done | rfl) (by first | rfl | (go_simp; done) | (go_simp; rfl) | (go_simp; exact i64_w _) | (go_simp; exact i32_w _))) ?_
      simp only [ls0, ls1]
      refine st (.bool (decide (x34731 < (t23604.length : Int)))) rfl rfl (xr_bin (.int .i64 x34731) (.int .i64 (t23604.length : Int)) (.bool (decide (x34731 < (t23604.length : Int)))) rfl rfl rfl (B.lss_i64 x34731 (t23604.length : Int))) ?_
      simp only [ls0, ls1]
      refine wl_end ?_
      (try simp only [Act.put, List.setIfInBounds_toArray, ls0, ls1])
      refine hK34743 _ _ ?_
      (try clear hK34743 K34743)
      by_cases c34744 : x34731 < (t23604.length : Int)
      ·rw [if_pos c34744] at H
       (try rw [(decide_eq_true c34744)])
       (try simp only [Bool.not_true, Bool.not_false])
       refine wp_cond_true rfl ?_
       refine wp_skip ?_
       (try simp only [Act.put, List.setIfInBounds_toArray, ls0, ls1])
       refine hK34742 _ _ ?_
       (try clear hK34742 K34742)
       refine wp_seq_k fun K34745 hK34745 => ?_
       refine wp_block ?_
       refine wp_seq_k fun K34746 hK34746 => ?_
       refine wp_seq_k fun K37376 hK37376 => ?_
       refine wl_region ?_
       refine st (.int .i64 0) rfl rfl (xr_assign (.int .i64 0) rfl rfl) ?_
       simp only [ls0, ls1]
       refine wl_end ?_
       (try simp only [Act.put, List.setIfInBounds_toArray, ls0, ls1])
       refine hK37376 _ _ ?_
       (try clear hK37376 K37376)
       refine wp_block ?_
       (try simp only [Act.put, List.setIfInBounds_toArray, ls0, ls1])
       refine wp_looped (looped_ind (fun kq39145 a_ w39144 => ∃ (C39143 : Nat → Nat) (x39141 : Int) (g39142 : Nat → Value), a_ = ⟨#[(g39142 0), (g39142 1), (g39142 2), v34728, (g39142 4), (g39142 5), .slice A23610 t23604.length cp23611, .int .i64 x34731, .int .i64 x39141, (g39142 9), (g39142 10), (g39142 11), (g39142 12), (g39142 13), (g39142 14), (g39142 15), (g39142 16), (g39142 17), (g39142 18), (g39142 19), (g39142 20), (g39142 21), (g39142 22), (g39142 23), (g39142 24), (g39142 25), (g39142 26), (g39142 27), (g39142 28), (g39142 29), (g39142 30), (g39142 31), (g39142 32), (g39142 33), (g39142 34), (g39142 35), (g39142 36), (g39142 37), (g39142 38), (g39142 39), (g39142 40), (g39142 41), (g39142 42), (g39142 43), (g39142 44), (g39142 45), (g39142 46), (g39142 47), (g39142 48), (g39142 49), (g39142 50), (g39142 51), (g39142 52), (g39142 53), (g39142 54), (g39142 55), (g39142 56), (g39142 57), (g39142 58), (g39142 59), (g39142 60), (g39142 61), (g39142 62), (g39142 63), (g39142 64), (g39142 65), (g39142 66), (g39142 67), (g39142 68), (g39142 69), (g39142 70), (g39142 71), (g39142 72), (g39142 73), (g39142 74), (g39142 75), (g39142 76), (g39142 77), (g39142 78), (g39142 79), (g39142 80), (g39142 81), (g39142 82), (g39142 83), (g39142 84), (g39142 85), (g39142 86), (g39142 87), (g39142 88), (g39142 89), (g39142 90), (g39142 91), (g39142 92), (g39142 93), (g39142 94), (g39142 95), (g39142 96), (g39142 97), (g39142 98), (g39142 99), (g39142 100), (g39142 101), (g39142 102), (g39142 103), (g39142 104), (g39142 105), (g39142 106), (g39142 107), (g39142 108), (g39142 109), (g39142 110), (g39142 111), (g39142 112), (g39142 113), (g39142 114), (g39142 115), (g39142 116), (g39142 117), (g39142 118), (g39142 119), (g39142 120), (g39142 121), (g39142 122), (g39142 123), (g39142 124), (g39142 125), (g39142 126), (g39142 127), (g39142 128), (g39142 129), (g39142 130), (g39142 131), (g39142 132), (g39142 133), (g39142 134), (g39142 135), (g39142 136), (g39142 137), (g39142 138), (g39142 139), (g39142 140), (g39142 141), (g39142 142)], []⟩ ∧ Step c w C39143 w39144 [] ∧ kq39145 ≤ k34741 ∧ (Ft C39143 [0] w39144 (fun w_ => (Kd.ptr 47 k47).K w_ x34727 [v34728])) ∧ (Own C39143 11 w39144 (Kd.int .i64) 3 (.slice A23610 t23604.length cp23611) t23604) ∧ blazonlaw13_OrderSorts.l4 kq39145 t23604 x34727 x34731 x39141 = some r) ?step k34741 _ _ ?init)
       case init =>
        exact ⟨_, 0, (fun q_ => List.getD [(g34732 0), (g34732 1), (g34732 2), undef, (g34732 4), (g34732 5), undef, undef, undef, (g34732 9), (g34732 10), (g34732 11), (g34732 12), (g34732 13), (g34732 14), (g34732 15), (g34732 16), (g34732 17), (g34732 18), (g34732 19), (g34732 20), (g34732 21), (g34732 22), (g34732 23), (g34732 24), (g34732 25), (g34732 26), (g34732 27), (g34732 28), .int .i64 x34731, .slice A23610 t23604.length cp23611, .int .i64 (t23604.length : Int), .bool true, (g34732 33), (g34732 34), (g34732 35), (g34732 36), (g34732 37), (g34732 38), (g34732 39), (g34732 40), (g34732 41), (g34732 42), (g34732 43), (g34732 44), (g34732 45), (g34732 46), (g34732 47), (g34732 48), (g34732 49), (g34732 50), (g34732 51), (g34732 52), (g34732 53), (g34732 54), (g34732 55), (g34732 56), (g34732 57), (g34732 58), (g34732 59), (g34732 60), (g34732 61), (g34732 62), (g34732 63), (g34732 64), (g34732 65), (g34732 66), (g34732 67), (g34732 68), (g34732 69), (g34732 70), (g34732 71), (g34732 72), (g34732 73), (g34732 74), (g34732 75), (g34732 76), (g34732 77), (g34732 78), (g34732 79), (g34732 80), (g34732 81), (g34732 82), (g34732 83), (g34732 84), (g34732 85), (g34732 86), (g34732 87), (g34732 88), (g34732 89), (g34732 90), (g34732 91), (g34732 92), (g34732 93), (g34732 94), (g34732 95), (g34732 96), (g34732 97), (g34732 98), (g34732 99), (g34732 100), (g34732 101), (g34732 102), (g34732 103), (g34732 104), (g34732 105), (g34732 106), (g34732 107), (g34732 108), (g34732 109), (g34732 110), (g34732 111), (g34732 112), (g34732 113), (g34732 114), (g34732 115), (g34732 116), (g34732 117), (g34732 118), (g34732 119), (g34732 120), (g34732 121), (g34732 122), (g34732 123), (g34732 124), (g34732 125), (g34732 126), (g34732 127), (g34732 128), (g34732 129), (g34732 130), (g34732 131), (g34732 132), (g34732 133), (g34732 134), (g34732 135), (g34732 136), (g34732 137), (g34732 138), (g34732 139), (g34732 140), (g34732 141), (g34732 142)] q_ undef), rfl, HS34736, Nat.le_refl _, HJ34729, HJ34730, H⟩
       case step =>
        intro kq39145 ih39148 a39149 w39144 hr39150
        obtain ⟨C39143, x39141, g39142, rfl, HS39146, hk39147, HJ39139, HJ39140, H⟩ := hr39150
        refine looped_round ?_
        cases kq39145 with
        | zero => exact absurd H (by simp [blazonlaw13_OrderSorts.l4])
        | succ k39151 =>
         simp only [blazonlaw13_OrderSorts.l4] at H
         refine wp_seq_k fun K39152 hK39152 => ?_
         refine wp_seq_k fun K39153 hK39153 => ?_
         refine wl_region ?_
         refine st (.int .i64 x39141) rfl rfl (xr_move (.int .i64 x39141) rfl rfl) ?_
         simp only [ls0, ls1]
         refine st (.slice A23610 t23604.length cp23611) rfl rfl (xr_move (.slice A23610 t23604.length cp23611) rfl rfl) ?_
         simp only [ls0, ls1]
         refine st (.int .i64 (t23604.length : Int)) rfl rfl (xr_builtin #[.slice A23610 t23604.length cp23611] (.int .i64 (t23604.length : Int)) rfl (by simp only [List.map_toArray, List.map_cons, List.map_nil]; first | done | rfl) (by first | rfl | (go_simp; done) | (go_simp; rfl) | (go_simp; exact i64_w _) | (go_simp; exact i32_w _))) ?_
         simp only [ls0, ls1]
         refine st (.bool (decide (x39141 < (t23604.length : Int)))) rfl rfl (xr_bin (.int .i64 x39141) (.int .i64 (t23604.length : Int)) (.bool (decide (x39141 < (t23604.length : Int)))) rfl rfl rfl (B.lss_i64 x39141 (t23604.length : Int))) ?_
         simp only [ls0, ls1]
         refine wl_end ?_
         (try simp only [Act.put, List.setIfInBounds_toArray, ls0, ls1])
         refine hK39153 _ _ ?_
         (try clear hK39153 K39153)
         by_cases c39154 : x39141 < (t23604.length : Int)
         ·rw [if_pos c39154] at H
          (try rw [(decide_eq_true c39154)])
          (try simp only [Bool.not_true, Bool.not_false])
          refine wp_cond_true rfl ?_
          refine wp_skip ?_
          (try simp only [Act.put, List.setIfInBounds_toArray, ls0, ls1])
          refine hK39152 _ _ ?_
          (try clear hK39152 K39152)
          refine wp_seq_k fun K39155 hK39155 => ?_
          refine wp_block ?_
          refine wp_seq_k fun K39156 hK39156 => ?_
          refine wp_seq_k fun K39259 hK39259 => ?_
          (try simp only [Act.put, List.setIfInBounds_toArray, ls0, ls1])
          refine al_start #[false, false, false, false, false, false, false, false, false, false, false, false, false, false, false, false, false, false, false, false, false, false, false, false, false, false, false, false, false, false, false, false, false, false, false, false, false, false, false, false, false, false, false] rfl rfl rfl (fun w_ => (Kd.int .i64).C w_ A23610 t23604.length t23604) (Ft.now ((HJ39140.ft)).drew) [] ?_
          replace HJ39139 := HJ39139.drew
          replace HJ39140 := HJ39140.drew
          replace HS39146 := Step.ofDrew HS39146
          generalize w39144.drew = w39308 at *
          refine al_pure 0 41 (v34728) #[true, false, false, false, false, false, false, false, false, false, false, false, false, false, false, false, false, false, false, false, false, false, false, false, false, false, false, false, false, false, false, false, false, false, false, false, false, false, false, false, false, false, false] rfl rfl (by kernel_rfl) (fun _ _ _ h_ => h_) rfl (fun w_ => xr_move (v34728) rfl rfl) ?_
          simp only [ls0, ls1]
          refine al_pure 1 42 (.slice A23610 t23604.length cp23611) #[true, true, false, false, false, false, false, false, false, false, false, false, false, false, false, false, false, false, false, false, false, false, false, false, false, false, false, false, false, false, false, false, false, false, false, false, false, false, false, false, false, false, false] rfl rfl (by kernel_rfl) (fun _ _ _ h_ => h_) rfl (fun w_ => xr_move (.slice A23610 t23604.length cp23611) rfl rfl) ?_
          simp only [ls0, ls1]
          refine al_pure 2 43 (.int .i64 x34731) #[true, true, true, false, false, false, false, false, false, false, false, false, false, false, false, false, false, false, false, false, false, false, false, false, false, false, false, false, false, false, false, false, false, false, false, false, false, false, false, false, false, false, false] rfl rfl (by kernel_rfl) (fun _ _ _ h_ => h_) rfl (fun w_ => xr_move (.int .i64 x34731) rfl rfl) ?_
          simp only [ls0, ls1]
          by_cases c39309 : 0 ≤ x34731
          ·rw [if_pos c39309] at H
           by_cases c39310 : x34731 < (t23604.length : Int)
           ·rw [if_pos c39310] at H
            obtain ⟨g39311, hA39312⟩ := HJ39140.form (pos_of (j := x34731) (by first | assumption | decide) (by first | assumption | omega))
            refine al_pure 3 44 (.pointer (some ((⟨g39311, 0, none⟩ : Addr).add ((x34731 : Int).toNat * 1)))) #[true, true, true, true, false, false, false, false, false, false, false, false, false, false, false, false, false, false, false, false, false, false, false, false, false, false, false, false, false, false, false, false, false, false, false, false, false, false, false, false, false, false, false] rfl rfl (by kernel_rfl) (fun _ _ _ h_ => h_) rfl (fun w_ => xr_indexAddr (.slice A23610 t23604.length cp23611) (.int .i64 x34731) (.pointer (some ((⟨g39311, 0, none⟩ : Addr).add ((x34731 : Int).toNat * 1)))) rfl rfl rfl (index_at Try.underlying38 info3 hA39312 (by first | assumption | decide | omega) (by first | assumption | decide | omega))) ?_
            simp only [ls0, ls1]
            refine al_pure 5 46 (.slice A23610 t23604.length cp23611) #[true, true, true, true, false, true, false, false, false, false, false, false, false, false, false, false, false, false, false, false, false, false, false, false, false, false, false, false, false, false, false, false, false, false, false, false, false, false, false, false, false, false, false] rfl rfl (by kernel_rfl) (fun _ _ _ h_ => h_) rfl (fun w_ => xr_move (.slice A23610 t23604.length cp23611) rfl rfl) ?_
            simp only [ls0, ls1]
            refine al_pure 6 47 (.int .i64 x39141) #[true, true, true, true, false, true, true, false, false, false, false, false, false, false, false, false, false, false, false, false, false, false, false, false, false, false, false, false, false, false, false, false, false, false, false, false, false, false, false, false, false, false, false] rfl rfl (by kernel_rfl) (fun _ _ _ h_ => h_) rfl (fun w_ => xr_move (.int .i64 x39141) rfl rfl) ?_
            simp only [ls0, ls1]
            by_cases c39313 : 0 ≤ x39141
            ·rw [if_pos c39313] at H
             obtain ⟨g39314, hA39315⟩ := HJ39140.form (pos_of (j := x39141) (by first | assumption | decide) (by first | assumption | omega))
             refine al_pure 7 48 (.pointer (some ((⟨g39314, 0, none⟩ : Addr).add ((x39141 : Int).toNat * 1)))) #[true, true, true, true, false, true, true, true, false, false, false, false, false, false, false, false, false, false, false, false, false, false, false, false, false, false, false, false, false, false, false, false, false, false, false, false, false, false, false, false, false, false, false] rfl rfl (by kernel_rfl) (fun _ _ _ h_ => h_) rfl (fun w_ => xr_indexAddr (.slice A23610 t23604.length cp23611) (.int .i64 x39141) (.pointer (some ((⟨g39314, 0, none⟩ : Addr).add ((x39141 : Int).toNat * 1)))) rfl rfl rfl (index_at Try.underlying38 info3 hA39315 (by first | assumption | decide | omega) (by first | assumption | decide | omega))) ?_
             simp only [ls0, ls1]
             refine al_take 4 45 (.int .i64 (rd t23604 x34731)) #[true, true, true, true, true, true, true, true, false, false, false, false, false, false, false, false, false, false, false, false, false, false, false, false, false, false, false, false, false, false, false, false, false, false, false, false, false, false, false, false, false, false, false] rfl rfl (by kernel_rfl) (fun _ _ _ h_ => h_) rfl (fun w_ hS_ => xr_load (.pointer (some ((⟨g39311, 0, none⟩ : Addr).add ((x34731 : Int).toNat * 1)))) (.int .i64 (rd t23604 x34731)) rfl rfl (load_int Try.underlying3 rfl hA39312 hS_ (by first | assumption | decide | omega) (by first | assumption | decide | omega))) (Ft.now (HJ39140.ft)) ?_
             simp only [ls0, ls1]
             refine al_take 8 49 (.int .i64 (rd t23604 x39141)) #[true, true, true, true, true, true, true, true, true, false, false, false, false, false, false, false, false, false, false, false, false, false, false, false, false, false, false, false, false, false, false, false, false, false, false, false, false, false, false, false, false, false, false] rfl rfl (by kernel_rfl) (fun _ _ _ h_ => h_) rfl (fun w_ hS_ => xr_load (.pointer (some ((⟨g39314, 0, none⟩ : Addr).add ((x39141 : Int).toNat * 1)))) (.int .i64 (rd t23604 x39141)) rfl rfl (load_int Try.underlying3 rfl hA39315 hS_ (by first | assumption | decide | omega) (by first | assumption | decide | omega))) (Ft.now (HJ39140.ft)) ?_
             simp only [ls0, ls1]
             obtain ⟨t39316, A39317, H⟩ := Option.bind_eq_some_iff.mp H
             (try dsimp only at H)
             refine al_one 9 #[true, true, true, true, true, true, true, true, true, true, false, false, false, false, false, false, false, false, false, false, false, false, false, false, false, false, false, false, false, false, false, false, false, false, false, false, false, false, false, false, false, false, false] rfl rfl (by kernel_rfl) rfl (fun K_ hK_ => ?_)
             refine goes_ Try.func11 (by kernel_rfl) rfl #[v34728, .int .i64 (rd t23604 x34731), .int .i64 (rd t23604 x39141)] rfl rfl rfl (by rw [map_ev]; simp only [List.map_toArray, List.map_cons, List.map_nil]; first | done | rfl) ?_
             refine (order_Order_Most.calls v34728 x34727 (rd t23604 x34731) (rd t23604 x39141) t39316  (fun z_ => pal [(0, 0)] (C39143 z_)) w39308 (fun _ => pal_lt rfl _) (Ft.arg HJ39139 rfl) A39317).mono ?_
             rintro _ w39319 ⟨C39320, rfl, hs39321⟩
             refine ⟨_, rfl, ?_⟩
             replace hs39321 := Step.lift (U := [(0, 0)]) hs39321 [] rfl rfl
             generalize up C39143 C39320 w39308.heap.size [(0, 0)] = C39320_ at hs39321
             replace HJ39139 := HJ39139.thru hs39321 rfl
             replace HJ39140 := HJ39140.thru hs39321 rfl
             replace HS39146 := HS39146.trans hs39321 hc rfl
             refine hK_ _ _ (Ft.now (HJ39140.ft)) ?_
             clear hK_ K_
             (try simp only [Act.put, List.setIfInBounds_toArray, ls0, ls1])
             refine al_pure 10 51 (.bool t39316) #[true, true, true, true, true, true, true, true, true, true, true, false, false, false, false, false, false, false, false, false, false, false, false, false, false, false, false, false, false, false, false, false, false, false, false, false, false, false, false, false, false, false, false] rfl rfl (by kernel_rfl) (fun _ _ _ h_ => h_) rfl (fun w_ => xr_move (.bool t39316) rfl rfl) ?_
             simp only [ls0, ls1]
             by_cases c39322 : t39316 = true
             ·rw [if_pos c39322] at H
              (try rw [c39322])
              (try simp only [Bool.not_true, Bool.not_false])
              refine al_pure 11 52 (v34728) #[true, true, true, true, true, true, true, true, true, true, true, true, false, false, false, false, false, false, false, false, false, false, false, false, false, false, false, false, false, false, false, false, false, false, false, false, false, false, false, false, false, false, false] rfl rfl (by kernel_rfl) (fun _ _ _ h_ => h_) (guard_on 10 true 51 rfl rfl rfl) (fun w_ => xr_move (v34728) rfl rfl) ?_
              simp only [ls0, ls1]
              refine al_pure 12 53 (.slice A23610 t23604.length cp23611) #[true, true, true, true, true, true, true, true, true, true, true, true, true, false, false, false, false, false, false, false, false, false, false, false, false, false, false, false, false, false, false, false, false, false, false, false, false, false, false, false, false, false, false] rfl rfl (by kernel_rfl) (fun _ _ _ h_ => h_) (guard_on 10 true 51 rfl rfl rfl) (fun w_ => xr_move (.slice A23610 t23604.length cp23611) rfl rfl) ?_
              simp only [ls0, ls1]
              refine al_pure 13 54 (.int .i64 x39141) #[true, true, true, true, true, true, true, true, true, true, true, true, true, true, false, false, false, false, false, false, false, false, false, false, false, false, false, false, false, false, false, false, false, false, false, false, false, false, false, false, false, false, false] rfl rfl (by kernel_rfl) (fun _ _ _ h_ => h_) (guard_on 10 true 51 rfl rfl rfl) (fun w_ => xr_move (.int .i64 x39141) rfl rfl) ?_
              simp only [ls0, ls1]
              obtain ⟨g39323, hA39324⟩ := HJ39140.form (pos_of (j := x39141) (by first | assumption | decide) (by first | assumption | omega))
              refine al_pure 14 55 (.pointer (some ((⟨g39323, 0, none⟩ : Addr).add ((x39141 : Int).toNat * 1)))) #[true, true, true, true, true, true, true, true, true, true, true, true, true, true, true, false, false, false, false, false, false, false, false, false, false, false, false, false, false, false, false, false, false, false, false, false, false, false, false, false, false, false, false] rfl rfl (by kernel_rfl) (fun _ _ _ h_ => h_) (guard_on 10 true 51 rfl rfl rfl) (fun w_ => xr_indexAddr (.slice A23610 t23604.length cp23611) (.int .i64 x39141) (.pointer (some ((⟨g39323, 0, none⟩ : Addr).add ((x39141 : Int).toNat * 1)))) rfl rfl rfl (index_at Try.underlying38 info3 hA39324 (by first | assumption | decide | omega) (by first | assumption | decide | omega))) ?_
              simp only [ls0, ls1]
              refine al_pure 16 57 (.slice A23610 t23604.length cp23611) #[true, true, true, true, true, true, true, true, true, true, true, true, true, true, true, false, true, false, false, false, false, false, false, false, false, false, false, false, false, false, false, false, false, false, false, false, false, false, false, false, false, false, false] rfl rfl (by kernel_rfl) (fun _ _ _ h_ => h_) (guard_on 10 true 51 rfl rfl rfl) (fun w_ => xr_move (.slice A23610 t23604.length cp23611) rfl rfl) ?_
              simp only [ls0, ls1]
              refine al_pure 17 58 (.int .i64 x34731) #[true, true, true, true, true, true, true, true, true, true, true, true, true, true, true, false, true, true, false, false, false, false, false, false, false, false, false, false, false, false, false, false, false, false, false, false, false, false, false, false, false, false, false] rfl rfl (by kernel_rfl) (fun _ _ _ h_ => h_) (guard_on 10 true 51 rfl rfl rfl) (fun w_ => xr_move (.int .i64 x34731) rfl rfl) ?_
              simp only [ls0, ls1]
              obtain ⟨g39325, hA39326⟩ := HJ39140.form (pos_of (j := x34731) (by first | assumption | decide) (by first | assumption | omega))
              refine al_pure 18 59 (.pointer (some ((⟨g39325, 0, none⟩ : Addr).add ((x34731 : Int).toNat * 1)))) #[true, true, true, true, true, true, true, true, true, true, true, true, true, true, true, false, true, true, true, false, false, false, false, false, false, false, false, false, false, false, false, false, false, false, false, false, false, false, false, false, false, false, false] rfl rfl (by kernel_rfl) (fun _ _ _ h_ => h_) (guard_on 10 true 51 rfl rfl rfl) (fun w_ => xr_indexAddr (.slice A23610 t23604.length cp23611) (.int .i64 x34731) (.pointer (some ((⟨g39325, 0, none⟩ : Addr).add ((x34731 : Int).toNat * 1)))) rfl rfl rfl (index_at Try.underlying38 info3 hA39326 (by first | assumption | decide | omega) (by first | assumption | decide | omega))) ?_
              simp only [ls0, ls1]
              refine al_pure 21 62 (.int .i64 x34731) #[true, true, true, true, true, true, true, true, true, true, true, true, true, true, true, false, true, true, true, false, false, true, false, false, false, false, false, false, false, false, false, false, false, false, false, false, false, false, false, false, false, false, false] rfl rfl (by kernel_rfl) (fun _ _ _ h_ => h_) (guard_on 10 true 51 rfl rfl rfl) (fun w_ => xr_move (.int .i64 x34731) rfl rfl) ?_
              simp only [ls0, ls1]
              refine al_pure 22 63 (.int .i64 x39141) #[true, true, true, true, true, true, true, true, true, true, true, true, true, true, true, false, true, true, true, false, false, true, true, false, false, false, false, false, false, false, false, false, false, false, false, false, false, false, false, false, false, false, false] rfl rfl (by kernel_rfl) (fun _ _ _ h_ => h_) (guard_on 10 true 51 rfl rfl rfl) (fun w_ => xr_move (.int .i64 x39141) rfl rfl) ?_
              simp only [ls0, ls1]
              refine al_pure 23 64 (.bool (decide (x34731 = x39141))) #[true, true, true, true, true, true, true, true, true, true, true, true, true, true, true, false, true, true, true, false, false, true, true, true, false, false, false, false, false, false, false, false, false, false, false, false, false, false, false, false, false, false, false] rfl rfl (by kernel_rfl) (fun _ _ _ h_ => h_) (guard_on 10 true 51 rfl rfl rfl) (fun w_ => xr_bin (.int .i64 x34731) (.int .i64 x39141) (.bool (decide (x34731 = x39141))) rfl rfl rfl (B.eql_i64 x34731 x39141)) ?_
              simp only [ls0, ls1]
              refine al_take 15 56 (.int .i64 (rd t23604 x39141)) #[true, true, true, true, true, true, true, true, true, true, true, true, true, true, true, true, true, true, true, false, false, true, true, true, false, false, false, false, false, false, false, false, false, false, false, false, false, false, false, false, false, false, false] rfl rfl (by kernel_rfl) (fun _ _ _ h_ => h_) (guard_on 10 true 51 rfl rfl rfl) (fun w_ hS_ => xr_load (.pointer (some ((⟨g39323, 0, none⟩ : Addr).add ((x39141 : Int).toNat * 1)))) (.int .i64 (rd t23604 x39141)) rfl rfl (load_int Try.underlying3 rfl hA39324 hS_ (by first | assumption | decide | omega) (by first | assumption | decide | omega))) (Ft.now (HJ39140.ft)) ?_
              simp only [ls0, ls1]
              refine al_take 19 60 (.int .i64 (rd t23604 x34731)) #[true, true, true, true, true, true, true, true, true, true, true, true, true, true, true, true, true, true, true, true, false, true, true, true, false, false, false, false, false, false, false, false, false, false, false, false, false, false, false, false, false, false, false] rfl rfl (by kernel_rfl) (fun _ _ _ h_ => h_) (guard_on 10 true 51 rfl rfl rfl) (fun w_ hS_ => xr_load (.pointer (some ((⟨g39325, 0, none⟩ : Addr).add ((x34731 : Int).toNat * 1)))) (.int .i64 (rd t23604 x34731)) rfl rfl (load_int Try.underlying3 rfl hA39326 hS_ (by first | assumption | decide | omega) (by first | assumption | decide | omega))) (Ft.now (HJ39140.ft)) ?_
              simp only [ls0, ls1]
              obtain ⟨t39327, A39328, H⟩ := Option.bind_eq_some_iff.mp H
              (try dsimp only at H)
              refine al_one 20 #[true, true, true, true, true, true, true, true, true, true, true, true, true, true, true, true, true, true, true, true, true, true, true, true, false, false, false, false, false, false, false, false, false, false, false, false, false, false, false, false, false, false, false] rfl rfl (by kernel_rfl) rfl (fun K_ hK_ => ?_)
              refine goes_ Try.func11 (by kernel_rfl) rfl #[v34728, .int .i64 (rd t23604 x39141), .int .i64 (rd t23604 x34731)] (guard_on 10 true 51 rfl rfl rfl) rfl rfl (by rw [map_ev]; simp only [List.map_toArray, List.map_cons, List.map_nil]; first | done | rfl) ?_
              refine (order_Order_Most.calls v34728 x34727 (rd t23604 x39141) (rd t23604 x34731) t39327  (fun z_ => pal [(0, 0)] (C39320_ z_)) w39319 (fun _ => pal_lt rfl _) (Ft.arg HJ39139 rfl) A39328).mono ?_
              rintro _ w39330 ⟨C39331, rfl, hs39332⟩
              refine ⟨_, rfl, ?_⟩
              replace hs39332 := Step.lift (U := [(0, 0)]) hs39332 [] rfl rfl
              generalize up C39320_ C39331 w39319.heap.size [(0, 0)] = C39331_ at hs39332
              replace HJ39139 := HJ39139.thru hs39332 rfl
              replace HJ39140 := HJ39140.thru hs39332 rfl
              replace HS39146 := HS39146.trans hs39332 hc rfl
              refine hK_ _ _ (Ft.now (HJ39140.ft)) ?_
              clear hK_ K_
              (try simp only [Act.put, List.setIfInBounds_toArray, ls0, ls1])
              refine al_pure 24 65 (.bool (!decide (t39327 = (decide (x34731 = x39141))))) #[true, true, true, true, true, true, true, true, true, true, true, true, true, true, true, true, true, true, true, true, true, true, true, true, true, false, false, false, false, false, false, false, false, false, false, false, false, false, false, false, false, false, false] rfl rfl (by kernel_rfl) (fun _ _ _ h_ => h_) (guard_on 10 true 51 rfl rfl rfl) (fun w_ => xr_bin (.bool t39327) (.bool (decide (x34731 = x39141))) (.bool (!decide (t39327 = (decide (x34731 = x39141))))) rfl rfl rfl (B.neq_bool Try.underlying4 t39327 (decide (x34731 = x39141)))) ?_
              simp only [ls0, ls1]
              refine al_pure 25 66 (.bool (!decide (t39327 = (decide (x34731 = x39141))))) #[true, true, true, true, true, true, true, true, true, true, true, true, true, true, true, true, true, true, true, true, true, true, true, true, true, true, false, false, false, false, false, false, false, false, false, false, false, false, false, false, false, false, false] rfl rfl (by kernel_rfl) (fun _ _ _ h_ => h_) rfl (fun w_ => xr_pick true (.bool (!decide (t39327 = (decide (x34731 = x39141))))) rfl rfl rfl) ?_
              simp only [ls0, ls1]
              refine al_pure 26 67 (.bool (!decide (t39327 = (decide (x34731 = x39141))))) #[true, true, true, true, true, true, true, true, true, true, true, true, true, true, true, true, true, true, true, true, true, true, true, true, true, true, true, false, false, false, false, false, false, false, false, false, false, false, false, false, false, false, false] rfl rfl (by kernel_rfl) (fun _ _ _ h_ => h_) rfl (fun w_ => xr_move (.bool (!decide (t39327 = (decide (x34731 = x39141))))) rfl rfl) ?_
              simp only [ls0, ls1]
              by_cases c39333 : t39327 = (decide (x34731 = x39141))
              ·rw [if_pos c39333] at H
               (try rw [(decide_eq_true c39333)])
               (try simp only [Bool.not_true, Bool.not_false])
               refine al_pure 27 68 (v34728) #[true, true, true, true, true, true, true, true, true, true, true, true, true, true, true, true, true, true, true, true, true, true, true, true, true, true, true, true, false, false, false, false, false, false, false, false, false, false, false, false, false, false, false] rfl rfl (by kernel_rfl) (fun _ _ _ h_ => h_) (guard_on 26 false 67 rfl rfl rfl) (fun w_ => xr_move (v34728) rfl rfl) ?_
               simp only [ls0, ls1]
               refine al_pure 28 69 (.slice A23610 t23604.length cp23611) #[true, true, true, true, true, true, true, true, true, true, true, true, true, true, true, true, true, true, true, true, true, true, true, true, true, true, true, true, true, false, false, false, false, false, false, false, false, false, false, false, false, false, false] rfl rfl (by kernel_rfl) (fun _ _ _ h_ => h_) (guard_on 26 false 67 rfl rfl rfl) (fun w_ => xr_move (.slice A23610 t23604.length cp23611) rfl rfl) ?_
               simp only [ls0, ls1]
               refine al_pure 29 70 (.int .i64 x39141) #[true, true, true, true, true, true, true, true, true, true, true, true, true, true, true, true, true, true, true, true, true, true, true, true, true, true, true, true, true, true, false, false, false, false, false, false, false, false, false, false, false, false, false] rfl rfl (by kernel_rfl) (fun _ _ _ h_ => h_) (guard_on 26 false 67 rfl rfl rfl) (fun w_ => xr_move (.int .i64 x39141) rfl rfl) ?_
               simp only [ls0, ls1]
               obtain ⟨g39334, hA39335⟩ := HJ39140.form (pos_of (j := x39141) (by first | assumption | decide) (by first | assumption | omega))
               refine al_pure 30 71 (.pointer (some ((⟨g39334, 0, none⟩ : Addr).add ((x39141 : Int).toNat * 1)))) #[true, true, true, true, true, true, true, true, true, true, true, true, true, true, true, true, true, true, true, true, true, true, true, true, true, true, true, true, true, true, true, false, false, false, false, false, false, false, false, false, false, false, false] rfl rfl (by kernel_rfl) (fun _ _ _ h_ => h_) (guard_on 26 false 67 rfl rfl rfl) (fun w_ => xr_indexAddr (.slice A23610 t23604.length cp23611) (.int .i64 x39141) (.pointer (some ((⟨g39334, 0, none⟩ : Addr).add ((x39141 : Int).toNat * 1)))) rfl rfl rfl (index_at Try.underlying38 info3 hA39335 (by first | assumption | decide | omega) (by first | assumption | decide | omega))) ?_
               simp only [ls0, ls1]
               refine al_pure 32 73 (.slice A23610 t23604.length cp23611) #[true, true, true, true, true, true, true, true, true, true, true, true, true, true, true, true, true, true, true, true, true, true, true, true, true, true, true, true, true, true, true, false, true, false, false, false, false, false, false, false, false, false, false] rfl rfl (by kernel_rfl) (fun _ _ _ h_ => h_) (guard_on 26 false 67 rfl rfl rfl) (fun w_ => xr_move (.slice A23610 t23604.length cp23611) rfl rfl) ?_
               simp only [ls0, ls1]
               refine al_pure 33 74 (.int .i64 x34731) #[true, true, true, true, true, true, true, true, true, true, true, true, true, true, true, true, true, true, true, true, true, true, true, true, true, true, true, true, true, true, true, false, true, true, false, false, false, false, false, false, false, false, false] rfl rfl (by kernel_rfl) (fun _ _ _ h_ => h_) (guard_on 26 false 67 rfl rfl rfl) (fun w_ => xr_move (.int .i64 x34731) rfl rfl) ?_
               simp only [ls0, ls1]
               obtain ⟨g39336, hA39337⟩ := HJ39140.form (pos_of (j := x34731) (by first | assumption | decide) (by first | assumption | omega))
               refine al_pure 34 75 (.pointer (some ((⟨g39336, 0, none⟩ : Addr).add ((x34731 : Int).toNat * 1)))) #[true, true, true, true, true, true, true, true, true, true, true, true, true, true, true, true, true, true, true, true, true, true, true, true, true, true, true, true, true, true, true, false, true, true, true, false, false, false, false, false, false, false, false] rfl rfl (by kernel_rfl) (fun _ _ _ h_ => h_) (guard_on 26 false 67 rfl rfl rfl) (fun w_ => xr_indexAddr (.slice A23610 t23604.length cp23611) (.int .i64 x34731) (.pointer (some ((⟨g39336, 0, none⟩ : Addr).add ((x34731 : Int).toNat * 1)))) rfl rfl rfl (index_at Try.underlying38 info3 hA39337 (by first | assumption | decide | omega) (by first | assumption | decide | omega))) ?_
               simp only [ls0, ls1]
               refine al_take 31 72 (.int .i64 (rd t23604 x39141)) #[true, true, true, true, true, true, true, true, true, true, true, true, true, true, true, true, true, true, true, true, true, true, true, true, true, true, true, true, true, true, true, true, true, true, true, false, false, false, false, false, false, false, false] rfl rfl (by kernel_rfl) (fun _ _ _ h_ => h_) (guard_on 26 false 67 rfl rfl rfl) (fun w_ hS_ => xr_load (.pointer (some ((⟨g39334, 0, none⟩ : Addr).add ((x39141 : Int).toNat * 1)))) (.int .i64 (rd t23604 x39141)) rfl rfl (load_int Try.underlying3 rfl hA39335 hS_ (by first | assumption | decide | omega) (by first | assumption | decide | omega))) (Ft.now (HJ39140.ft)) ?_
               simp only [ls0, ls1]
               refine al_take 35 76 (.int .i64 (rd t23604 x34731)) #[true, true, true, true, true, true, true, true, true, true, true, true, true, true, true, true, true, true, true, true, true, true, true, true, true, true, true, true, true, true, true, true, true, true, true, true, false, false, false, false, false, false, false] rfl rfl (by kernel_rfl) (fun _ _ _ h_ => h_) (guard_on 26 false 67 rfl rfl rfl) (fun w_ hS_ => xr_load (.pointer (some ((⟨g39336, 0, none⟩ : Addr).add ((x34731 : Int).toNat * 1)))) (.int .i64 (rd t23604 x34731)) rfl rfl (load_int Try.underlying3 rfl hA39337 hS_ (by first | assumption | decide | omega) (by first | assumption | decide | omega))) (Ft.now (HJ39140.ft)) ?_
               simp only [ls0, ls1]
               obtain ⟨t39338, A39339, H⟩ := Option.bind_eq_some_iff.mp H
               (try dsimp only at H)
               refine al_one 36 #[true, true, true, true, true, true, true, true, true, true, true, true, true, true, true, true, true, true, true, true, true, true, true, true, true, true, true, true, true, true, true, true, true, true, true, true, true, false, false, false, false, false, false] rfl rfl (by kernel_rfl) rfl (fun K_ hK_ => ?_)
               refine goes_ Try.func11 (by kernel_rfl) rfl #[v34728, .int .i64 (rd t23604 x39141), .int .i64 (rd t23604 x34731)] (guard_on 26 false 67 rfl rfl rfl) rfl rfl (by rw [map_ev]; simp only [List.map_toArray, List.map_cons, List.map_nil]; first | done | rfl) ?_
               refine (order_Order_Most.calls v34728 x34727 (rd t23604 x39141) (rd t23604 x34731) t39338  (fun z_ => pal [(0, 0)] (C39331_ z_)) w39330 (fun _ => pal_lt rfl _) (Ft.arg HJ39139 rfl) A39339).mono ?_
               rintro _ w39341 ⟨C39342, rfl, hs39343⟩
               refine ⟨_, rfl, ?_⟩
               replace hs39343 := Step.lift (U := [(0, 0)]) hs39343 [] rfl rfl
               generalize up C39331_ C39342 w39330.heap.size [(0, 0)] = C39342_ at hs39343
               replace HJ39139 := HJ39139.thru hs39343 rfl
               replace HJ39140 := HJ39140.thru hs39343 rfl
               replace HS39146 := HS39146.trans hs39343 hc rfl
               refine hK_ _ _ (Ft.now (HJ39140.ft)) ?_
               clear hK_ K_
               (try simp only [Act.put, List.setIfInBounds_toArray, ls0, ls1])
               refine al_pure 37 78 (.bool t39338) #[true, true, true, true, true, true, true, true, true, true, true, true, true, true, true, true, true, true, true, true, true, true, true, true, true, true, true, true, true, true, true, true, true, true, true, true, true, true, false, false, false, false, false] rfl rfl (by kernel_rfl) (fun _ _ _ h_ => h_) (guard_on 26 false 67 rfl rfl rfl) (fun w_ => xr_move (.bool t39338) rfl rfl) ?_
               simp only [ls0, ls1]
               by_cases c39344 : t39338 = true
               ·rw [if_pos c39344] at H
                (try rw [c39344])
                (try simp only [Bool.not_true, Bool.not_false])
                refine al_pure 38 79 (.int .i64 x39141) #[true, true, true, true, true, true, true, true, true, true, true, true, true, true, true, true, true, true, true, true, true, true, true, true, true, true, true, true, true, true, true, true, true, true, true, true, true, true, true, false, false, false, false] rfl rfl (by kernel_rfl) (fun _ _ _ h_ => h_) (guard_on 37 true 78 rfl rfl rfl) (fun w_ => xr_move (.int .i64 x39141) rfl rfl) ?_
                simp only [ls0, ls1]
                refine al_pure 39 80 (.int .i64 x34731) #[true, true, true, true, true, true, true, true, true, true, true, true, true, true, true, true, true, true, true, true, true, true, true, true, true, true, true, true, true, true, true, true, true, true, true, true, true, true, true, true, false, false, false] rfl rfl (by kernel_rfl) (fun _ _ _ h_ => h_) (guard_on 37 true 78 rfl rfl rfl) (fun w_ => xr_move (.int .i64 x34731) rfl rfl) ?_
                simp only [ls0, ls1]
                refine al_pure 40 81 (.bool (decide (x39141 > x34731))) #[true, true, true, true, true, true, true, true, true, true, true, true, true, true, true, true, true, true, true, true, true, true, true, true, true, true, true, true, true, true, true, true, true, true, true, true, true, true, true, true, true, false, false] rfl rfl (by kernel_rfl) (fun _ _ _ h_ => h_) (guard_on 37 true 78 rfl rfl rfl) (fun w_ => xr_bin (.int .i64 x39141) (.int .i64 x34731) (.bool (decide (x39141 > x34731))) rfl rfl rfl (B.gtr_i64 x39141 x34731)) ?_
                simp only [ls0, ls1]
                refine al_pure 41 82 (.bool (decide (x39141 > x34731))) #[true, true, true, true, true, true, true, true, true, true, true, true, true, true, true, true, true, true, true, true, true, true, true, true, true, true, true, true, true, true, true, true, true, true, true, true, true, true, true, true, true, true, false] rfl rfl (by kernel_rfl) (fun _ _ _ h_ => h_) (guard_on 26 false 67 rfl rfl rfl) (fun w_ => xr_pick true (.bool (decide (x39141 > x34731))) rfl rfl rfl) ?_
                simp only [ls0, ls1]
                refine al_pure 42 83 (.bool (decide (x39141 > x34731))) #[true, true, true, true, true, true, true, true, true, true, true, true, true, true, true, true, true, true, true, true, true, true, true, true, true, true, true, true, true, true, true, true, true, true, true, true, true, true, true, true, true, true, true] rfl rfl (by kernel_rfl) (fun _ _ _ h_ => h_) rfl (fun w_ => xr_pick false (.bool (decide (x39141 > x34731))) rfl rfl rfl) ?_
                simp only [ls0, ls1]
                refine al_end (by kernel_rfl) ?_
                (try simp only [Act.put, List.setIfInBounds_toArray, ls0, ls1])
                refine hK39259 _ _ ?_
                (try clear hK39259 K39259)
                by_cases c39345 : x39141 > x34731
                ·rw [if_pos c39345] at H
                 (try rw [(decide_eq_true c39345)])
                 (try simp only [Bool.not_true, Bool.not_false])
                 refine wp_cond_true rfl ?_
                 refine wp_seq_k fun K39346 hK39346 => ?_
                 refine wl_region ?_
                 refine st (.bool false) rfl rfl (xr_assign (.bool false) rfl rfl) ?_
                 simp only [ls0, ls1]
                 refine wl_end ?_
                 (try simp only [Act.put, List.setIfInBounds_toArray, ls0, ls1])
                 refine hK39346 _ _ ?_
                 (try clear hK39346 K39346)
                 refine wp_ret ?_
                 (try simp only [Exit.inBlock, Exit.then, Exit.noGoto])
                 (try simp only [Act.put, List.setIfInBounds_toArray, ls0, ls1])
                 obtain rfl := Option.some.inj H
                 refine bodyPost_ret (results_tmp rfl _ _ _) rfl ?_
                 exact ⟨_, rfl, HS39146⟩
                ·rw [if_neg c39345] at H
                 (try rw [(decide_eq_false c39345)])
                 (try simp only [Bool.not_true, Bool.not_false])
                 refine wp_cond_false rfl ?_
                 refine wp_skip ?_
                 (try simp only [Act.put, List.setIfInBounds_toArray, ls0, ls1])
                 refine hK39156 _ _ ?_
                 (try clear hK39156 K39156)
                 refine wp_seq_k fun K39347 hK39347 => ?_
                 refine wl_region ?_
                 refine st (.int .i64 0) rfl rfl (xr_assign (.int .i64 0) rfl rfl) ?_
                 simp only [ls0, ls1]
                 refine wl_end ?_
                 (try simp only [Act.put, List.setIfInBounds_toArray, ls0, ls1])
                 refine hK39347 _ _ ?_
                 (try clear hK39347 K39347)
                 refine wp_block ?_
                 (try simp only [Act.put, List.setIfInBounds_toArray, ls0, ls1])
                 refine wp_looped (looped_ind (fun kq39454 a_ w39453 => ∃ (C39452 : Nat → Nat) (x39450 : Int) (g39451 : Nat → Value), a_ = ⟨#[(g39451 0), (g39451 1), (g39451 2), v34728, (g39451 4), (g39451 5), .slice A23610 t23604.length cp23611, .int .i64 x34731, .int .i64 x39141, .int .i64 x39450, (g39451 10), (g39451 11), (g39451 12), (g39451 13), (g39451 14), (g39451 15), (g39451 16), (g39451 17), (g39451 18), (g39451 19), (g39451 20), (g39451 21), (g39451 22), (g39451 23), (g39451 24), (g39451 25), (g39451 26), (g39451 27), (g39451 28), (g39451 29), (g39451 30), (g39451 31), (g39451 32), (g39451 33), (g39451 34), (g39451 35), (g39451 36), (g39451 37), (g39451 38), (g39451 39), (g39451 40), (g39451 41), (g39451 42), (g39451 43), (g39451 44), (g39451 45), (g39451 46), (g39451 47), (g39451 48), (g39451 49), (g39451 50), (g39451 51), v34728, .slice A23610 t23604.length cp23611, .int .i64 x39141, (g39451 55), .int .i64 (rd t23604 x39141), .slice A23610 t23604.length cp23611, .int .i64 x34731, (g39451 59), .int .i64 (rd t23604 x34731), .bool t39327, .int .i64 x34731, .int .i64 x39141, .bool (decide (x34731 = x39141)), .bool false, (g39451 66), (g39451 67), v34728, .slice A23610 t23604.length cp23611, .int .i64 x39141, (g39451 71), .int .i64 (rd t23604 x39141), .slice A23610 t23604.length cp23611, .int .i64 x34731, (g39451 75), .int .i64 (rd t23604 x34731), .bool true, .bool true, .int .i64 x39141, .int .i64 x34731, .bool false, .bool false, (g39451 83), (g39451 84), (g39451 85), (g39451 86), (g39451 87), (g39451 88), (g39451 89), (g39451 90), (g39451 91), (g39451 92), (g39451 93), (g39451 94), (g39451 95), (g39451 96), (g39451 97), (g39451 98), (g39451 99), (g39451 100), (g39451 101), (g39451 102), (g39451 103), (g39451 104), (g39451 105), (g39451 106), (g39451 107), (g39451 108), (g39451 109), (g39451 110), (g39451 111), (g39451 112), (g39451 113), (g39451 114), (g39451 115), (g39451 116), (g39451 117), (g39451 118), (g39451 119), (g39451 120), (g39451 121), (g39451 122), (g39451 123), (g39451 124), (g39451 125), (g39451 126), (g39451 127), (g39451 128), (g39451 129), (g39451 130), (g39451 131), (g39451 132), (g39451 133), (g39451 134), (g39451 135), (g39451 136), (g39451 137), (g39451 138), (g39451 139), (g39451 140), (g39451 141), (g39451 142)], []⟩ ∧ Step c w C39452 w39453 [] ∧ kq39454 ≤ k39151 ∧ (Ft C39452 [0] w39453 (fun w_ => (Kd.ptr 47 k47).K w_ x34727 [v34728])) ∧ (Own C39452 11 w39453 (Kd.int .i64) 3 (.slice A23610 t23604.length cp23611) t23604) ∧ blazonlaw13_OrderSorts.l0 kq39454 t23604 x34727 x34731 x39141 x39450 = some r) ?step k39151 _ _ ?init)
                 case init =>
                  exact ⟨_, 0, (fun q_ => List.getD [(g39142 0), (g39142 1), (g39142 2), undef, (g39142 4), (g39142 5), undef, undef, undef, undef, (g39142 10), (g39142 11), (g39142 12), (g39142 13), (g39142 14), (g39142 15), (g39142 16), (g39142 17), (g39142 18), (g39142 19), (g39142 20), (g39142 21), (g39142 22), (g39142 23), (g39142 24), (g39142 25), (g39142 26), (g39142 27), (g39142 28), (g39142 29), (g39142 30), (g39142 31), (g39142 32), (g39142 33), (g39142 34), .int .i64 x39141, .slice A23610 t23604.length cp23611, .int .i64 (t23604.length : Int), .bool true, (g39142 39), (g39142 40), v34728, .slice A23610 t23604.length cp23611, .int .i64 x34731, .pointer (some ((⟨g39311, 0, none⟩ : Addr).add ((x34731 : Int).toNat * 1))), .int .i64 (rd t23604 x34731), .slice A23610 t23604.length cp23611, .int .i64 x39141, .pointer (some ((⟨g39314, 0, none⟩ : Addr).add ((x39141 : Int).toNat * 1))), .int .i64 (rd t23604 x39141), .bool true, .bool true, undef, undef, undef, .pointer (some ((⟨g39323, 0, none⟩ : Addr).add ((x39141 : Int).toNat * 1))), undef, undef, undef, .pointer (some ((⟨g39325, 0, none⟩ : Addr).add ((x34731 : Int).toNat * 1))), undef, undef, undef, undef, undef, undef, .bool false, .bool false, undef, undef, undef, .pointer (some ((⟨g39334, 0, none⟩ : Addr).add ((x39141 : Int).toNat * 1))), undef, undef, undef, .pointer (some ((⟨g39336, 0, none⟩ : Addr).add ((x34731 : Int).toNat * 1))), undef, undef, undef, undef, undef, undef, undef, .bool false, (g39142 84), (g39142 85), (g39142 86), (g39142 87), (g39142 88), (g39142 89), (g39142 90), (g39142 91), (g39142 92), (g39142 93), (g39142 94), (g39142 95), (g39142 96), (g39142 97), (g39142 98), (g39142 99), (g39142 100), (g39142 101), (g39142 102), (g39142 103), (g39142 104), (g39142 105), (g39142 106), (g39142 107), (g39142 108), (g39142 109), (g39142 110), (g39142 111), (g39142 112), (g39142 113), (g39142 114), (g39142 115), (g39142 116), (g39142 117), (g39142 118), (g39142 119), (g39142 120), (g39142 121), (g39142 122), (g39142 123), (g39142 124), (g39142 125), (g39142 126), (g39142 127), (g39142 128), (g39142 129), (g39142 130), (g39142 131), (g39142 132), (g39142 133), (g39142 134), (g39142 135), (g39142 136), (g39142 137), (g39142 138), (g39142 139), (g39142 140), (g39142 141), (g39142 142)] q_ undef), rfl, HS39146, Nat.le_refl _, HJ39139, HJ39140, H⟩
                 case step =>
                  intro kq39454 ih39457 a39458 w39453 hr39459
                  obtain ⟨C39452, x39450, g39451, rfl, HS39455, hk39456, HJ39448, HJ39449, H⟩ := hr39459
                  refine looped_round ?_
                  cases kq39454 with
                  | zero => exact absurd H (by simp [blazonlaw13_OrderSorts.l0])
                  | succ k39460 =>
                   simp only [blazonlaw13_OrderSorts.l0] at H
                   refine wp_seq_k fun K39461 hK39461 => ?_
                   refine wp_seq_k fun K39462 hK39462 => ?_
                   refine wl_region ?_
                   refine st (.int .i64 x39450) rfl rfl (xr_move (.int .i64 x39450) rfl rfl) ?_
                   simp only [ls0, ls1]
                   refine st (.slice A23610 t23604.length cp23611) rfl rfl (xr_move (.slice A23610 t23604.length cp23611) rfl rfl) ?_
                   simp only [ls0, ls1]
                   refine st (.int .i64 (t23604.length : Int)) rfl rfl (xr_builtin #[.slice A23610 t23604.length cp23611] (.int .i64 (t23604.length : Int)) rfl (by simp only [List.map_toArray, List.map_cons, List.map_nil]; first | done | rfl) (by first | rfl | (go_simp; done) | (go_simp; rfl) | (go_simp; exact i64_w _) | (go_simp; exact i32_w _))) ?_
                   simp only [ls0, ls1]
                   refine st (.bool (decide (x39450 < (t23604.length : Int)))) rfl rfl (xr_bin (.int .i64 x39450) (.int .i64 (t23604.length : Int)) (.bool (decide (x39450 < (t23604.length : Int)))) rfl rfl rfl (B.lss_i64 x39450 (t23604.length : Int))) ?_
                   simp only [ls0, ls1]
                   refine wl_end ?_
                   (try simp only [Act.put, List.setIfInBounds_toArray, ls0, ls1])
                   refine hK39462 _ _ ?_
                   (try clear hK39462 K39462)
                   by_cases c39463 : x39450 < (t23604.length : Int)
                   ·rw [if_pos c39463] at H
                    (try rw [(decide_eq_true c39463)])
                    (try simp only [Bool.not_true, Bool.not_false])
                    refine wp_cond_true rfl ?_
                    refine wp_skip ?_
                    (try simp only [Act.put, List.setIfInBounds_toArray, ls0, ls1])
                    refine hK39461 _ _ ?_
                    (try clear hK39461 K39461)
                    refine wp_seq_k fun K39464 hK39464 => ?_
                    refine wp_block ?_
                    refine wp_seq_k fun K39465 hK39465 => ?_
                    refine wl_region ?_
                    refine st (v34728) rfl rfl (xr_move (v34728) rfl rfl) ?_
                    simp only [ls0, ls1]
                    refine st (.int .i64 x34731) rfl rfl (xr_move (.int .i64 x34731) rfl rfl) ?_
                    simp only [ls0, ls1]
                    refine st (.int .i64 x39141) rfl rfl (xr_move (.int .i64 x39141) rfl rfl) ?_
                    simp only [ls0, ls1]
                    obtain ⟨t39486, A39487, H⟩ := Option.bind_eq_some_iff.mp H
                    (try dsimp only at H)
                    refine st_call #[v34728, .int .i64 x34731, .int .i64 x39141] rfl rfl Try.func11 (by kernel_rfl) rfl rfl (by simp only [List.map_toArray, List.map_cons, List.map_nil]; first | done | rfl) ?_
                    refine (order_Order_Most.calls v34728 x34727 x34731 x39141 t39486  (fun z_ => pal [(0, 0)] (C39452 z_)) w39453 (fun _ => pal_lt rfl _) (Ft.arg HJ39448 rfl) A39487).mono ?_
                    rintro _ w39489 ⟨C39490, rfl, hs39491⟩
                    refine ⟨_, rfl, ?_⟩
                    replace hs39491 := Step.lift (U := [(0, 0)]) hs39491 [] rfl rfl
                    generalize up C39452 C39490 w39453.heap.size [(0, 0)] = C39490_ at hs39491
                    replace HJ39448 := HJ39448.thru hs39491 rfl
                    replace HJ39449 := HJ39449.thru hs39491 rfl
                    replace HS39455 := HS39455.trans hs39491 hc rfl
                    (try simp only [Act.put, List.setIfInBounds_toArray, ls0, ls1])
                    refine st (.bool t39486) rfl rfl (xr_move (.bool t39486) rfl rfl) ?_
                    simp only [ls0, ls1]
                    by_cases c39492 : t39486 = true
                    ·rw [if_pos c39492] at H
                     (try rw [c39492])
                     (try simp only [Bool.not_true, Bool.not_false])
                     refine on_guard (guard_on 4 true 94 rfl rfl rfl) ?_
                     refine st (v34728) rfl rfl (xr_move (v34728) rfl rfl) ?_
                     simp only [ls0, ls1]
                     refine on_guard (guard_on 4 true 94 rfl rfl rfl) ?_
                     refine st (.int .i64 x39141) rfl rfl (xr_move (.int .i64 x39141) rfl rfl) ?_
                     simp only [ls0, ls1]
                     refine on_guard (guard_on 4 true 94 rfl rfl rfl) ?_
                     refine st (.int .i64 x39450) rfl rfl (xr_move (.int .i64 x39450) rfl rfl) ?_
                     simp only [ls0, ls1]
                     refine on_guard (guard_on 4 true 94 rfl rfl rfl) ?_
                     obtain ⟨t39493, A39494, H⟩ := Option.bind_eq_some_iff.mp H
                     (try dsimp only at H)
                     refine st_call #[v34728, .int .i64 x39141, .int .i64 x39450] rfl rfl Try.func11 (by kernel_rfl) rfl rfl (by simp only [List.map_toArray, List.map_cons, List.map_nil]; first | done | rfl) ?_
                     refine (order_Order_Most.calls v34728 x34727 x39141 x39450 t39493  (fun z_ => pal [(0, 0)] (C39490_ z_)) w39489 (fun _ => pal_lt rfl _) (Ft.arg HJ39448 rfl) A39494).mono ?_
                     rintro _ w39496 ⟨C39497, rfl, hs39498⟩
                     refine ⟨_, rfl, ?_⟩
                     replace hs39498 := Step.lift (U := [(0, 0)]) hs39498 [] rfl rfl
                     generalize up C39490_ C39497 w39489.heap.size [(0, 0)] = C39497_ at hs39498
                     replace HJ39448 := HJ39448.thru hs39498 rfl
                     replace HJ39449 := HJ39449.thru hs39498 rfl
                     replace HS39455 := HS39455.trans hs39498 hc rfl
                     (try simp only [Act.put, List.setIfInBounds_toArray, ls0, ls1])
                     refine st (.bool t39493) rfl rfl (xr_pick true (.bool t39493) rfl rfl rfl) ?_
                     simp only [ls0, ls1]
                     refine st (.bool t39493) rfl rfl (xr_move (.bool t39493) rfl rfl) ?_
                     simp only [ls0, ls1]
                     by_cases c39499 : t39493 = true
                     ·rw [if_pos c39499] at H
                      (try rw [c39499])
                      (try simp only [Bool.not_true, Bool.not_false])
                      refine on_guard (guard_on 10 true 100 rfl rfl rfl) ?_
                      refine st (v34728) rfl rfl (xr_move (v34728) rfl rfl) ?_
                      simp only [ls0, ls1]
                      refine on_guard (guard_on 10 true 100 rfl rfl rfl) ?_
                      refine st (.int .i64 x34731) rfl rfl (xr_move (.int .i64 x34731) rfl rfl) ?_
                      simp only [ls0, ls1]
                      refine on_guard (guard_on 10 true 100 rfl rfl rfl) ?_
                      refine st (.int .i64 x39450) rfl rfl (xr_move (.int .i64 x39450) rfl rfl) ?_
                      simp only [ls0, ls1]
                      refine on_guard (guard_on 10 true 100 rfl rfl rfl) ?_
                      obtain ⟨t39500, A39501, H⟩ := Option.bind_eq_some_iff.mp H
                      (try dsimp only at H)
                      refine st_call #[v34728, .int .i64 x34731, .int .i64 x39450] rfl rfl Try.func11 (by kernel_rfl) rfl rfl (by simp only [List.map_toArray, List.map_cons, List.map_nil]; first | done | rfl) ?_
                      refine (order_Order_Most.calls v34728 x34727 x34731 x39450 t39500  (fun z_ => pal [(0, 0)] (C39497_ z_)) w39496 (fun _ => pal_lt rfl _) (Ft.arg HJ39448 rfl) A39501).mono ?_
                      rintro _ w39503 ⟨C39504, rfl, hs39505⟩
                      refine ⟨_, rfl, ?_⟩
                      replace hs39505 := Step.lift (U := [(0, 0)]) hs39505 [] rfl rfl
                      generalize up C39497_ C39504 w39496.heap.size [(0, 0)] = C39504_ at hs39505
                      replace HJ39448 := HJ39448.thru hs39505 rfl
                      replace HJ39449 := HJ39449.thru hs39505 rfl
                      replace HS39455 := HS39455.trans hs39505 hc rfl
                      (try simp only [Act.put, List.setIfInBounds_toArray, ls0, ls1])
                      refine on_guard (guard_on 10 true 100 rfl rfl rfl) ?_
                      refine st (.bool (!t39500)) rfl rfl (xr_un (.bool t39500) (.bool (!t39500)) rfl rfl (by first | rfl | (go_simp; done) | (go_simp; rfl) | (go_simp; exact i64_w _) | (go_simp; exact i32_w _))) ?_
                      simp only [ls0, ls1]
                      refine st (.bool (!t39500)) rfl rfl (xr_pick true (.bool (!t39500)) rfl rfl rfl) ?_
                      simp only [ls0, ls1]
                      refine wl_end ?_
                      (try simp only [Act.put, List.setIfInBounds_toArray, ls0, ls1])
                      refine hK39465 _ _ ?_
                      (try clear hK39465 K39465)
                      by_cases c39506 : t39500 = true
                      ·rw [if_pos c39506] at H
                       (try rw [c39506])
                       (try simp only [Bool.not_true, Bool.not_false])
                       refine wp_cond_false rfl ?_
                       refine wp_skip ?_
                       (try simp only [Act.put, List.setIfInBounds_toArray, ls0, ls1])
                       refine hK39464 _ _ ?_
                       (try clear hK39464 K39464)
                       refine wl_region ?_
                       refine st (.int .i64 x39450) rfl rfl (xr_move (.int .i64 x39450) rfl rfl) ?_
                       simp only [ls0, ls1]
                       refine st (.int .i64 (wrap64 (x39450 + 1))) rfl rfl (xr_bin (.int .i64 x39450) (.int .i64 1) (.int .i64 (wrap64 (x39450 + 1))) rfl rfl rfl (B.add_i64 x39450 1)) ?_
                       simp only [ls0, ls1]
                       refine st (.int .i64 (wrap64 (x39450 + 1))) rfl rfl (xr_assign (.int .i64 (wrap64 (x39450 + 1))) rfl rfl) ?_
                       simp only [ls0, ls1]
                       refine wl_end ?_
                       (try simp only [Act.put, List.setIfInBounds_toArray, ls0, ls1])
                       exact ih39457 k39460 (by omega) _ _ ⟨_, wrap64 (x39450 + 1), (fun q_ => List.getD [(g39451 0), (g39451 1), (g39451 2), undef, (g39451 4), (g39451 5), undef, undef, undef, undef, (g39451 10), (g39451 11), (g39451 12), (g39451 13), (g39451 14), (g39451 15), (g39451 16), (g39451 17), (g39451 18), (g39451 19), (g39451 20), (g39451 21), (g39451 22), (g39451 23), (g39451 24), (g39451 25), (g39451 26), (g39451 27), (g39451 28), (g39451 29), (g39451 30), (g39451 31), (g39451 32), (g39451 33), (g39451 34), (g39451 35), (g39451 36), (g39451 37), (g39451 38), (g39451 39), (g39451 40), (g39451 41), (g39451 42), (g39451 43), (g39451 44), (g39451 45), (g39451 46), (g39451 47), (g39451 48), (g39451 49), (g39451 50), (g39451 51), undef, undef, undef, (g39451 55), undef, undef, undef, (g39451 59), undef, undef, undef, undef, undef, undef, (g39451 66), (g39451 67), undef, undef, undef, (g39451 71), undef, undef, undef, (g39451 75), undef, undef, undef, undef, undef, undef, undef, (g39451 83), .int .i64 x39450, .slice A23610 t23604.length cp23611, .int .i64 (t23604.length : Int), .bool true, .int .i64 x39450, .int .i64 (wrap64 (x39450 + 1)), v34728, .int .i64 x34731, .int .i64 x39141, .bool true, .bool true, v34728, .int .i64 x39141, .int .i64 x39450, .bool true, .bool true, .bool true, v34728, .int .i64 x34731, .int .i64 x39450, .bool true, .bool false, .bool false, (g39451 107), (g39451 108), (g39451 109), (g39451 110), (g39451 111), (g39451 112), (g39451 113), (g39451 114), (g39451 115), (g39451 116), (g39451 117), (g39451 118), (g39451 119), (g39451 120), (g39451 121), (g39451 122), (g39451 123), (g39451 124), (g39451 125), (g39451 126), (g39451 127), (g39451 128), (g39451 129), (g39451 130), (g39451 131), (g39451 132), (g39451 133), (g39451 134), (g39451 135), (g39451 136), (g39451 137), (g39451 138), (g39451 139), (g39451 140), (g39451 141), (g39451 142)] q_ undef), rfl, HS39455, (by omega), HJ39448, HJ39449, H⟩
                      ·rw [if_neg c39506] at H
                       (try rw [(Bool.eq_false_iff.mpr c39506)])
                       (try simp only [Bool.not_true, Bool.not_false])
                       refine wp_cond_true rfl ?_
                       refine wp_seq_k fun K39507 hK39507 => ?_
                       refine wl_region ?_
                       refine st (.bool false) rfl rfl (xr_assign (.bool false) rfl rfl) ?_
                       simp only [ls0, ls1]
                       refine wl_end ?_
                       (try simp only [Act.put, List.setIfInBounds_toArray, ls0, ls1])
                       refine hK39507 _ _ ?_
                       (try clear hK39507 K39507)
                       refine wp_ret ?_
                       (try simp only [Exit.inBlock, Exit.then, Exit.noGoto])
                       (try simp only [Act.put, List.setIfInBounds_toArray, ls0, ls1])
                       obtain rfl := Option.some.inj H
                       refine bodyPost_ret (results_tmp rfl _ _ _) rfl ?_
                       exact ⟨_, rfl, HS39455⟩
                     ·rw [if_neg c39499] at H
                      (try rw [(Bool.eq_false_iff.mpr c39499)])
                      (try simp only [Bool.not_true, Bool.not_false])
                      refine sk_guard (guard_off 10 true 100 rfl rfl false (by decide) rfl) rfl ?_
                      simp only [ls0, ls1]
                      refine sk_guard (guard_off 10 true 100 rfl rfl false (by decide) rfl) rfl ?_
                      simp only [ls0, ls1]
                      refine sk_guard (guard_off 10 true 100 rfl rfl false (by decide) rfl) rfl ?_
                      simp only [ls0, ls1]
                      refine sk_guard (guard_off 10 true 100 rfl rfl false (by decide) rfl) rfl ?_
                      simp only [ls0, ls1]
                      refine sk_guard (guard_off 10 true 100 rfl rfl false (by decide) rfl) rfl ?_
                      simp only [ls0, ls1]
                      refine st (.bool false) rfl rfl (xr_pick false (.bool false) rfl rfl rfl) ?_
                      simp only [ls0, ls1]
                      refine wl_end ?_
                      (try simp only [Act.put, List.setIfInBounds_toArray, ls0, ls1])
                      refine hK39465 _ _ ?_
                      (try clear hK39465 K39465)
                      refine wp_cond_false rfl ?_
                      refine wp_skip ?_
                      (try simp only [Act.put, List.setIfInBounds_toArray, ls0, ls1])
                      refine hK39464 _ _ ?_
                      (try clear hK39464 K39464)
                      refine wl_region ?_
                      refine st (.int .i64 x39450) rfl rfl (xr_move (.int .i64 x39450) rfl rfl) ?_
                      simp only [ls0, ls1]
                      refine st (.int .i64 (wrap64 (x39450 + 1))) rfl rfl (xr_bin (.int .i64 x39450) (.int .i64 1) (.int .i64 (wrap64 (x39450 + 1))) rfl rfl rfl (B.add_i64 x39450 1)) ?_
                      simp only [ls0, ls1]
                      refine st (.int .i64 (wrap64 (x39450 + 1))) rfl rfl (xr_assign (.int .i64 (wrap64 (x39450 + 1))) rfl rfl) ?_
                      simp only [ls0, ls1]
                      refine wl_end ?_
                      (try simp only [Act.put, List.setIfInBounds_toArray, ls0, ls1])
                      exact ih39457 k39460 (by omega) _ _ ⟨_, wrap64 (x39450 + 1), (fun q_ => List.getD [(g39451 0), (g39451 1), (g39451 2), undef, (g39451 4), (g39451 5), undef, undef, undef, undef, (g39451 10), (g39451 11), (g39451 12), (g39451 13), (g39451 14), (g39451 15), (g39451 16), (g39451 17), (g39451 18), (g39451 19), (g39451 20), (g39451 21), (g39451 22), (g39451 23), (g39451 24), (g39451 25), (g39451 26), (g39451 27), (g39451 28), (g39451 29), (g39451 30), (g39451 31), (g39451 32), (g39451 33), (g39451 34), (g39451 35), (g39451 36), (g39451 37), (g39451 38), (g39451 39), (g39451 40), (g39451 41), (g39451 42), (g39451 43), (g39451 44), (g39451 45), (g39451 46), (g39451 47), (g39451 48), (g39451 49), (g39451 50), (g39451 51), undef, undef, undef, (g39451 55), undef, undef, undef, (g39451 59), undef, undef, undef, undef, undef, undef, (g39451 66), (g39451 67), undef, undef, undef, (g39451 71), undef, undef, undef, (g39451 75), undef, undef, undef, undef, undef, undef, undef, (g39451 83), .int .i64 x39450, .slice A23610 t23604.length cp23611, .int .i64 (t23604.length : Int), .bool true, .int .i64 x39450, .int .i64 (wrap64 (x39450 + 1)), v34728, .int .i64 x34731, .int .i64 x39141, .bool true, .bool true, v34728, .int .i64 x39141, .int .i64 x39450, .bool false, .bool false, .bool false, undef, undef, undef, undef, undef, .bool false, (g39451 107), (g39451 108), (g39451 109), (g39451 110), (g39451 111), (g39451 112), (g39451 113), (g39451 114), (g39451 115), (g39451 116), (g39451 117), (g39451 118), (g39451 119), (g39451 120), (g39451 121), (g39451 122), (g39451 123), (g39451 124), (g39451 125), (g39451 126), (g39451 127), (g39451 128), (g39451 129), (g39451 130), (g39451 131), (g39451 132), (g39451 133), (g39451 134), (g39451 135), (g39451 136), (g39451 137), (g39451 138), (g39451 139), (g39451 140), (g39451 141), (g39451 142)] q_ undef), rfl, HS39455, (by omega), HJ39448, HJ39449, H⟩
                    ·rw [if_neg c39492] at H
                     (try rw [(Bool.eq_false_iff.mpr c39492)])
                     (try simp only [Bool.not_true, Bool.not_false])
                     refine sk_guard (guard_off 4 true 94 rfl rfl false (by decide) rfl) rfl ?_
                     simp only [ls0, ls1]
                     refine sk_guard (guard_off 4 true 94 rfl rfl false (by decide) rfl) rfl ?_
                     simp only [ls0, ls1]
                     refine sk_guard (guard_off 4 true 94 rfl rfl false (by decide) rfl) rfl ?_
                     simp only [ls0, ls1]
                     refine sk_guard (guard_off 4 true 94 rfl rfl false (by decide) rfl) rfl ?_
                     simp only [ls0, ls1]
                     refine st (.bool false) rfl rfl (xr_pick false (.bool false) rfl rfl rfl) ?_
                     simp only [ls0, ls1]
                     refine st (.bool false) rfl rfl (xr_move (.bool false) rfl rfl) ?_
                     simp only [ls0, ls1]
                     refine sk_guard (guard_off 10 true 100 rfl rfl false (by decide) rfl) rfl ?_
                     simp only [ls0, ls1]
                     refine sk_guard (guard_off 10 true 100 rfl rfl false (by decide) rfl) rfl ?_
                     simp only [ls0, ls1]
                     refine sk_guard (guard_off 10 true 100 rfl rfl false (by decide) rfl) rfl ?_
                     simp only [ls0, ls1]
                     refine sk_guard (guard_off 10 true 100 rfl rfl false (by decide) rfl) rfl ?_
                     simp only [ls0, ls1]
                     refine sk_guard (guard_off 10 true 100 rfl rfl false (by decide) rfl) rfl ?_
                     simp only [ls0, ls1]
                     refine st (.bool false) rfl rfl (xr_pick false (.bool false) rfl rfl rfl) ?_
                     simp only [ls0, ls1]
                     refine wl_end ?_
                     (try simp only [Act.put, List.setIfInBounds_toArray, ls0, ls1])
                     refine hK39465 _ _ ?_
                     (try clear hK39465 K39465)
                     refine wp_cond_false rfl ?_
                     refine wp_skip ?_
                     (try simp only [Act.put, List.setIfInBounds_toArray, ls0, ls1])
                     refine hK39464 _ _ ?_
                     (try clear hK39464 K39464)
                     refine wl_region ?_
                     refine st (.int .i64 x39450) rfl rfl (xr_move (.int .i64 x39450) rfl rfl) ?_
                     simp only [ls0, ls1]
                     refine st (.int .i64 (wrap64 (x39450 + 1))) rfl rfl (xr_bin (.int .i64 x39450) (.int .i64 1) (.int .i64 (wrap64 (x39450 + 1))) rfl rfl rfl (B.add_i64 x39450 1)) ?_
                     simp only [ls0, ls1]
                     refine st (.int .i64 (wrap64 (x39450 + 1))) rfl rfl (xr_assign (.int .i64 (wrap64 (x39450 + 1))) rfl rfl) ?_
                     simp only [ls0, ls1]
                     refine wl_end ?_
                     (try simp only [Act.put, List.setIfInBounds_toArray, ls0, ls1])
                     exact ih39457 k39460 (by omega) _ _ ⟨_, wrap64 (x39450 + 1), (fun q_ => List.getD [(g39451 0), (g39451 1), (g39451 2), undef, (g39451 4), (g39451 5), undef, undef, undef, undef, (g39451 10), (g39451 11), (g39451 12), (g39451 13), (g39451 14), (g39451 15), (g39451 16), (g39451 17), (g39451 18), (g39451 19), (g39451 20), (g39451 21), (g39451 22), (g39451 23), (g39451 24), (g39451 25), (g39451 26), (g39451 27), (g39451 28), (g39451 29), (g39451 30), (g39451 31), (g39451 32), (g39451 33), (g39451 34), (g39451 35), (g39451 36), (g39451 37), (g39451 38), (g39451 39), (g39451 40), (g39451 41), (g39451 42), (g39451 43), (g39451 44), (g39451 45), (g39451 46), (g39451 47), (g39451 48), (g39451 49), (g39451 50), (g39451 51), undef, undef, undef, (g39451 55), undef, undef, undef, (g39451 59), undef, undef, undef, undef, undef, undef, (g39451 66), (g39451 67), undef, undef, undef, (g39451 71), undef, undef, undef, (g39451 75), undef, undef, undef, undef, undef, undef, undef, (g39451 83), .int .i64 x39450, .slice A23610 t23604.length cp23611, .int .i64 (t23604.length : Int), .bool true, .int .i64 x39450, .int .i64 (wrap64 (x39450 + 1)), v34728, .int .i64 x34731, .int .i64 x39141, .bool false, .bool false, undef, undef, undef, undef, .bool false, .bool false, undef, undef, undef, undef, undef, .bool false, (g39451 107), (g39451 108), (g39451 109), (g39451 110), (g39451 111), (g39451 112), (g39451 113), (g39451 114), (g39451 115), (g39451 116), (g39451 117), (g39451 118), (g39451 119), (g39451 120), (g39451 121), (g39451 122), (g39451 123), (g39451 124), (g39451 125), (g39451 126), (g39451 127), (g39451 128), (g39451 129), (g39451 130), (g39451 131), (g39451 132), (g39451 133), (g39451 134), (g39451 135), (g39451 136), (g39451 137), (g39451 138), (g39451 139), (g39451 140), (g39451 141), (g39451 142)] q_ undef), rfl, HS39455, (by omega), HJ39448, HJ39449, H⟩
                   ·rw [if_neg c39463] at H
                    (try rw [(decide_eq_false c39463)])
                    (try simp only [Bool.not_true, Bool.not_false])
                    refine wp_cond_false rfl ?_
                    refine wp_exit ?_
                    (try simp only [Act.put, List.setIfInBounds_toArray, ls0, ls1])
                    refine hK39155 _ _ ?_
                    (try clear hK39155 K39155)
                    refine wl_region ?_
                    refine st (.int .i64 x39141) rfl rfl (xr_move (.int .i64 x39141) rfl rfl) ?_
                    simp only [ls0, ls1]
                    refine st (.int .i64 (wrap64 (x39141 + 1))) rfl rfl (xr_bin (.int .i64 x39141) (.int .i64 1) (.int .i64 (wrap64 (x39141 + 1))) rfl rfl rfl (B.add_i64 x39141 1)) ?_
                    simp only [ls0, ls1]
                    refine st (.int .i64 (wrap64 (x39141 + 1))) rfl rfl (xr_assign (.int .i64 (wrap64 (x39141 + 1))) rfl rfl) ?_
                    simp only [ls0, ls1]
                    refine wl_end ?_
                    (try simp only [Act.put, List.setIfInBounds_toArray, ls0, ls1])
                    exact ih39148 k39460 (by omega) _ _ ⟨_, wrap64 (x39141 + 1), (fun q_ => List.getD [(g39451 0), (g39451 1), (g39451 2), undef, (g39451 4), (g39451 5), undef, undef, undef, .int .i64 x39450, (g39451 10), (g39451 11), (g39451 12), (g39451 13), (g39451 14), (g39451 15), (g39451 16), (g39451 17), (g39451 18), (g39451 19), (g39451 20), (g39451 21), (g39451 22), (g39451 23), (g39451 24), (g39451 25), (g39451 26), (g39451 27), (g39451 28), (g39451 29), (g39451 30), (g39451 31), (g39451 32), (g39451 33), (g39451 34), (g39451 35), (g39451 36), (g39451 37), (g39451 38), .int .i64 x39141, .int .i64 (wrap64 (x39141 + 1)), (g39451 41), (g39451 42), (g39451 43), (g39451 44), (g39451 45), (g39451 46), (g39451 47), (g39451 48), (g39451 49), (g39451 50), (g39451 51), v34728, .slice A23610 t23604.length cp23611, .int .i64 x39141, (g39451 55), .int .i64 (rd t23604 x39141), .slice A23610 t23604.length cp23611, .int .i64 x34731, (g39451 59), .int .i64 (rd t23604 x34731), .bool t39327, .int .i64 x34731, .int .i64 x39141, .bool (decide (x34731 = x39141)), .bool false, (g39451 66), (g39451 67), v34728, .slice A23610 t23604.length cp23611, .int .i64 x39141, (g39451 71), .int .i64 (rd t23604 x39141), .slice A23610 t23604.length cp23611, .int .i64 x34731, (g39451 75), .int .i64 (rd t23604 x34731), .bool true, .bool true, .int .i64 x39141, .int .i64 x34731, .bool false, .bool false, (g39451 83), .int .i64 x39450, .slice A23610 t23604.length cp23611, .int .i64 (t23604.length : Int), .bool false, (g39451 88), (g39451 89), (g39451 90), (g39451 91), (g39451 92), (g39451 93), (g39451 94), (g39451 95), (g39451 96), (g39451 97), (g39451 98), (g39451 99), (g39451 100), (g39451 101), (g39451 102), (g39451 103), (g39451 104), (g39451 105), (g39451 106), (g39451 107), (g39451 108), (g39451 109), (g39451 110), (g39451 111), (g39451 112), (g39451 113), (g39451 114), (g39451 115), (g39451 116), (g39451 117), (g39451 118), (g39451 119), (g39451 120), (g39451 121), (g39451 122), (g39451 123), (g39451 124), (g39451 125), (g39451 126), (g39451 127), (g39451 128), (g39451 129), (g39451 130), (g39451 131), (g39451 132), (g39451 133), (g39451 134), (g39451 135), (g39451 136), (g39451 137), (g39451 138), (g39451 139), (g39451 140), (g39451 141), (g39451 142)] q_ undef), rfl, HS39455, (by omega), HJ39448, HJ39449, H⟩
               ·rw [if_neg c39344] at H
                (try rw [(Bool.eq_false_iff.mpr c39344)])
                (try simp only [Bool.not_true, Bool.not_false])
                refine al_off 38 79 #[true, true, true, true, true, true, true, true, true, true, true, true, true, true, true, true, true, true, true, true, true, true, true, true, true, true, true, true, true, true, true, true, true, true, true, true, true, true, true, false, false, false, false] rfl rfl (by kernel_rfl) (fun _ _ _ h_ => h_) (guard_off 37 true 78 rfl rfl false (by decide) rfl) ?_
                simp only [ls0, ls1]
                refine al_off 39 80 #[true, true, true, true, true, true, true, true, true, true, true, true, true, true, true, true, true, true, true, true, true, true, true, true, true, true, true, true, true, true, true, true, true, true, true, true, true, true, true, true, false, false, false] rfl rfl (by kernel_rfl) (fun _ _ _ h_ => h_) (guard_off 37 true 78 rfl rfl false (by decide) rfl) ?_
                simp only [ls0, ls1]
                refine al_off 40 81 #[true, true, true, true, true, true, true, true, true, true, true, true, true, true, true, true, true, true, true, true, true, true, true, true, true, true, true, true, true, true, true, true, true, true, true, true, true, true, true, true, true, false, false] rfl rfl (by kernel_rfl) (fun _ _ _ h_ => h_) (guard_off 37 true 78 rfl rfl false (by decide) rfl) ?_
                simp only [ls0, ls1]
                refine al_pure 41 82 (.bool false) #[true, true, true, true, true, true, true, true, true, true, true, true, true, true, true, true, true, true, true, true, true, true, true, true, true, true, true, true, true, true, true, true, true, true, true, true, true, true, true, true, true, true, false] rfl rfl (by kernel_rfl) (fun _ _ _ h_ => h_) (guard_on 26 false 67 rfl rfl rfl) (fun w_ => xr_pick false (.bool false) rfl rfl rfl) ?_
                simp only [ls0, ls1]
                refine al_pure 42 83 (.bool false) #[true, true, true, true, true, true, true, true, true, true, true, true, true, true, true, true, true, true, true, true, true, true, true, true, true, true, true, true, true, true, true, true, true, true, true, true, true, true, true, true, true, true, true] rfl rfl (by kernel_rfl) (fun _ _ _ h_ => h_) rfl (fun w_ => xr_pick false (.bool false) rfl rfl rfl) ?_
                simp only [ls0, ls1]
                refine al_end (by kernel_rfl) ?_
                (try simp only [Act.put, List.setIfInBounds_toArray, ls0, ls1])
                refine hK39259 _ _ ?_
                (try clear hK39259 K39259)
                refine wp_cond_false rfl ?_
                refine wp_skip ?_
                (try simp only [Act.put, List.setIfInBounds_toArray, ls0, ls1])
                refine hK39156 _ _ ?_
                (try clear hK39156 K39156)
                refine wp_seq_k fun K39508 hK39508 => ?_
                refine wl_region ?_
                refine st (.int .i64 0) rfl rfl (xr_assign (.int .i64 0) rfl rfl) ?_
                simp only [ls0, ls1]
                refine wl_end ?_
                (try simp only [Act.put, List.setIfInBounds_toArray, ls0, ls1])
                refine hK39508 _ _ ?_
                (try clear hK39508 K39508)
                refine wp_block ?_
                (try simp only [Act.put, List.setIfInBounds_toArray, ls0, ls1])
                refine wp_looped (looped_ind (fun kq39615 a_ w39614 => ∃ (C39613 : Nat → Nat) (x39611 : Int) (g39612 : Nat → Value), a_ = ⟨#[(g39612 0), (g39612 1), (g39612 2), v34728, (g39612 4), (g39612 5), .slice A23610 t23604.length cp23611, .int .i64 x34731, .int .i64 x39141, .int .i64 x39611, (g39612 10), (g39612 11), (g39612 12), (g39612 13), (g39612 14), (g39612 15), (g39612 16), (g39612 17), (g39612 18), (g39612 19), (g39612 20), (g39612 21), (g39612 22), (g39612 23), (g39612 24), (g39612 25), (g39612 26), (g39612 27), (g39612 28), (g39612 29), (g39612 30), (g39612 31), (g39612 32), (g39612 33), (g39612 34), (g39612 35), (g39612 36), (g39612 37), (g39612 38), (g39612 39), (g39612 40), (g39612 41), (g39612 42), (g39612 43), (g39612 44), (g39612 45), (g39612 46), (g39612 47), (g39612 48), (g39612 49), (g39612 50), (g39612 51), v34728, .slice A23610 t23604.length cp23611, .int .i64 x39141, (g39612 55), .int .i64 (rd t23604 x39141), .slice A23610 t23604.length cp23611, .int .i64 x34731, (g39612 59), .int .i64 (rd t23604 x34731), .bool t39327, .int .i64 x34731, .int .i64 x39141, .bool (decide (x34731 = x39141)), .bool false, (g39612 66), (g39612 67), v34728, .slice A23610 t23604.length cp23611, .int .i64 x39141, (g39612 71), .int .i64 (rd t23604 x39141), .slice A23610 t23604.length cp23611, .int .i64 x34731, (g39612 75), .int .i64 (rd t23604 x34731), .bool false, .bool false, (g39612 79), (g39612 80), (g39612 81), .bool false, (g39612 83), (g39612 84), (g39612 85), (g39612 86), (g39612 87), (g39612 88), (g39612 89), (g39612 90), (g39612 91), (g39612 92), (g39612 93), (g39612 94), (g39612 95), (g39612 96), (g39612 97), (g39612 98), (g39612 99), (g39612 100), (g39612 101), (g39612 102), (g39612 103), (g39612 104), (g39612 105), (g39612 106), (g39612 107), (g39612 108), (g39612 109), (g39612 110), (g39612 111), (g39612 112), (g39612 113), (g39612 114), (g39612 115), (g39612 116), (g39612 117), (g39612 118), (g39612 119), (g39612 120), (g39612 121), (g39612 122), (g39612 123), (g39612 124), (g39612 125), (g39612 126), (g39612 127), (g39612 128), (g39612 129), (g39612 130), (g39612 131), (g39612 132), (g39612 133), (g39612 134), (g39612 135), (g39612 136), (g39612 137), (g39612 138), (g39612 139), (g39612 140), (g39612 141), (g39612 142)], []⟩ ∧ Step c w C39613 w39614 [] ∧ kq39615 ≤ k39151 ∧ (Ft C39613 [0] w39614 (fun w_ => (Kd.ptr 47 k47).K w_ x34727 [v34728])) ∧ (Own C39613 11 w39614 (Kd.int .i64) 3 (.slice A23610 t23604.length cp23611) t23604) ∧ blazonlaw13_OrderSorts.l1 kq39615 t23604 x34727 x34731 x39141 x39611 = some r) ?step k39151 _ _ ?init)
                case init =>
                 exact ⟨_, 0, (fun q_ => List.getD [(g39142 0), (g39142 1), (g39142 2), undef, (g39142 4), (g39142 5), undef, undef, undef, undef, (g39142 10), (g39142 11), (g39142 12), (g39142 13), (g39142 14), (g39142 15), (g39142 16), (g39142 17), (g39142 18), (g39142 19), (g39142 20), (g39142 21), (g39142 22), (g39142 23), (g39142 24), (g39142 25), (g39142 26), (g39142 27), (g39142 28), (g39142 29), (g39142 30), (g39142 31), (g39142 32), (g39142 33), (g39142 34), .int .i64 x39141, .slice A23610 t23604.length cp23611, .int .i64 (t23604.length : Int), .bool true, (g39142 39), (g39142 40), v34728, .slice A23610 t23604.length cp23611, .int .i64 x34731, .pointer (some ((⟨g39311, 0, none⟩ : Addr).add ((x34731 : Int).toNat * 1))), .int .i64 (rd t23604 x34731), .slice A23610 t23604.length cp23611, .int .i64 x39141, .pointer (some ((⟨g39314, 0, none⟩ : Addr).add ((x39141 : Int).toNat * 1))), .int .i64 (rd t23604 x39141), .bool true, .bool true, undef, undef, undef, .pointer (some ((⟨g39323, 0, none⟩ : Addr).add ((x39141 : Int).toNat * 1))), undef, undef, undef, .pointer (some ((⟨g39325, 0, none⟩ : Addr).add ((x34731 : Int).toNat * 1))), undef, undef, undef, undef, undef, undef, .bool false, .bool false, undef, undef, undef, .pointer (some ((⟨g39334, 0, none⟩ : Addr).add ((x39141 : Int).toNat * 1))), undef, undef, undef, .pointer (some ((⟨g39336, 0, none⟩ : Addr).add ((x34731 : Int).toNat * 1))), undef, undef, undef, undef, undef, undef, undef, .bool false, (g39142 84), (g39142 85), (g39142 86), (g39142 87), (g39142 88), (g39142 89), (g39142 90), (g39142 91), (g39142 92), (g39142 93), (g39142 94), (g39142 95), (g39142 96), (g39142 97), (g39142 98), (g39142 99), (g39142 100), (g39142 101), (g39142 102), (g39142 103), (g39142 104), (g39142 105), (g39142 106), (g39142 107), (g39142 108), (g39142 109), (g39142 110), (g39142 111), (g39142 112), (g39142 113), (g39142 114), (g39142 115), (g39142 116), (g39142 117), (g39142 118), (g39142 119), (g39142 120), (g39142 121), (g39142 122), (g39142 123), (g39142 124), (g39142 125), (g39142 126), (g39142 127), (g39142 128), (g39142 129), (g39142 130), (g39142 131), (g39142 132), (g39142 133), (g39142 134), (g39142 135), (g39142 136), (g39142 137), (g39142 138), (g39142 139), (g39142 140), (g39142 141), (g39142 142)] q_ undef), rfl, HS39146, Nat.le_refl _, HJ39139, HJ39140, H⟩
                case step =>
                 intro kq39615 ih39618 a39619 w39614 hr39620
                 obtain ⟨C39613, x39611, g39612, rfl, HS39616, hk39617, HJ39609, HJ39610, H⟩ := hr39620
                 refine looped_round ?_
                 cases kq39615 with
                 | zero => exact absurd H (by simp [blazonlaw13_OrderSorts.l1])
                 | succ k39621 =>
                  simp only [blazonlaw13_OrderSorts.l1] at H
                  refine wp_seq_k fun K39622 hK39622 => ?_
                  refine wp_seq_k fun K39623 hK39623 => ?_
                  refine wl_region ?_
                  refine st (.int .i64 x39611) rfl rfl (xr_move (.int .i64 x39611) rfl rfl) ?_
                  simp only [ls0, ls1]
                  refine st (.slice A23610 t23604.length cp23611) rfl rfl (xr_move (.slice A23610 t23604.length cp23611) rfl rfl) ?_
                  simp only [ls0, ls1]
                  refine st (.int .i64 (t23604.length : Int)) rfl rfl (xr_builtin #[.slice A23610 t23604.length cp23611] (.int .i64 (t23604.length : Int)) rfl (by simp only [List.map_toArray, List.map_cons, List.map_nil]; first | done | rfl) (by first | rfl | (go_simp; done) | (go_simp; rfl) | (go_simp; exact i64_w _) | (go_simp; exact i32_w _))) ?_
                  simp only [ls0, ls1]
                  refine st (.bool (decide (x39611 < (t23604.length : Int)))) rfl rfl (xr_bin (.int .i64 x39611) (.int .i64 (t23604.length : Int)) (.bool (decide (x39611 < (t23604.length : Int)))) rfl rfl rfl (B.lss_i64 x39611 (t23604.length : Int))) ?_
                  simp only [ls0, ls1]
                  refine wl_end ?_
                  (try simp only [Act.put, List.setIfInBounds_toArray, ls0, ls1])
                  refine hK39623 _ _ ?_
                  (try clear hK39623 K39623)
                  by_cases c39624 : x39611 < (t23604.length : Int)
                  ·rw [if_pos c39624] at H
                   (try rw [(decide_eq_true c39624)])
                   (try simp only [Bool.not_true, Bool.not_false])
                   refine wp_cond_true rfl ?_
                   refine wp_skip ?_
                   (try simp only [Act.put, List.setIfInBounds_toArray, ls0, ls1])
                   refine hK39622 _ _ ?_
                   (try clear hK39622 K39622)
                   refine wp_seq_k fun K39625 hK39625 => ?_
                   refine wp_block ?_
                   refine wp_seq_k fun K39626 hK39626 => ?_
                   refine wl_region ?_
                   refine st (v34728) rfl rfl (xr_move (v34728) rfl rfl) ?_
                   simp only [ls0, ls1]
                   refine st (.int .i64 x34731) rfl rfl (xr_move (.int .i64 x34731) rfl rfl) ?_
                   simp only [ls0, ls1]
                   refine st (.int .i64 x39141) rfl rfl (xr_move (.int .i64 x39141) rfl rfl) ?_
                   simp only [ls0, ls1]
                   obtain ⟨t39647, A39648, H⟩ := Option.bind_eq_some_iff.mp H
                   (try dsimp only at H)
                   refine st_call #[v34728, .int .i64 x34731, .int .i64 x39141] rfl rfl Try.func11 (by kernel_rfl) rfl rfl (by simp only [List.map_toArray, List.map_cons, List.map_nil]; first | done | rfl) ?_
                   refine (order_Order_Most.calls v34728 x34727 x34731 x39141 t39647  (fun z_ => pal [(0, 0)] (C39613 z_)) w39614 (fun _ => pal_lt rfl _) (Ft.arg HJ39609 rfl) A39648).mono ?_
                   rintro _ w39650 ⟨C39651, rfl, hs39652⟩
                   refine ⟨_, rfl, ?_⟩
                   replace hs39652 := Step.lift (U := [(0, 0)]) hs39652 [] rfl rfl
                   generalize up C39613 C39651 w39614.heap.size [(0, 0)] = C39651_ at hs39652
                   replace HJ39609 := HJ39609.thru hs39652 rfl
                   replace HJ39610 := HJ39610.thru hs39652 rfl
                   replace HS39616 := HS39616.trans hs39652 hc rfl
                   (try simp only [Act.put, List.setIfInBounds_toArray, ls0, ls1])
                   refine st (.bool t39647) rfl rfl (xr_move (.bool t39647) rfl rfl) ?_
                   simp only [ls0, ls1]
                   by_cases c39653 : t39647 = true
                   ·rw [if_pos c39653] at H
                    (try rw [c39653])
                    (try simp only [Bool.not_true, Bool.not_false])
                    refine on_guard (guard_on 4 true 94 rfl rfl rfl) ?_
                    refine st (v34728) rfl rfl (xr_move (v34728) rfl rfl) ?_
                    simp only [ls0, ls1]
                    refine on_guard (guard_on 4 true 94 rfl rfl rfl) ?_
                    refine st (.int .i64 x39141) rfl rfl (xr_move (.int .i64 x39141) rfl rfl) ?_
                    simp only [ls0, ls1]
                    refine on_guard (guard_on 4 true 94 rfl rfl rfl) ?_
                    refine st (.int .i64 x39611) rfl rfl (xr_move (.int .i64 x39611) rfl rfl) ?_
                    simp only [ls0, ls1]
                    refine on_guard (guard_on 4 true 94 rfl rfl rfl) ?_
                    obtain ⟨t39654, A39655, H⟩ := Option.bind_eq_some_iff.mp H
                    (try dsimp only at H)
                    refine st_call #[v34728, .int .i64 x39141, .int .i64 x39611] rfl rfl Try.func11 (by kernel_rfl) rfl rfl (by simp only [List.map_toArray, List.map_cons, List.map_nil]; first | done | rfl) ?_
                    refine (order_Order_Most.calls v34728 x34727 x39141 x39611 t39654  (fun z_ => pal [(0, 0)] (C39651_ z_)) w39650 (fun _ => pal_lt rfl _) (Ft.arg HJ39609 rfl) A39655).mono ?_
                    rintro _ w39657 ⟨C39658, rfl, hs39659⟩
                    refine ⟨_, rfl, ?_⟩
                    replace hs39659 := Step.lift (U := [(0, 0)]) hs39659 [] rfl rfl
                    generalize up C39651_ C39658 w39650.heap.size [(0, 0)] = C39658_ at hs39659
                    replace HJ39609 := HJ39609.thru hs39659 rfl
                    replace HJ39610 := HJ39610.thru hs39659 rfl
                    replace HS39616 := HS39616.trans hs39659 hc rfl
                    (try simp only [Act.put, List.setIfInBounds_toArray, ls0, ls1])
                    refine st (.bool t39654) rfl rfl (xr_pick true (.bool t39654) rfl rfl rfl) ?_
                    simp only [ls0, ls1]
                    refine st (.bool t39654) rfl rfl (xr_move (.bool t39654) rfl rfl) ?_
                    simp only [ls0, ls1]
                    by_cases c39660 : t39654 = true
                    ·rw [if_pos c39660] at H
                     (try rw [c39660])
                     (try simp only [Bool.not_true, Bool.not_false])
                     refine on_guard (guard_on 10 true 100 rfl rfl rfl) ?_
                     refine st (v34728) rfl rfl (xr_move (v34728) rfl rfl) ?_
                     simp only [ls0, ls1]
                     refine on_guard (guard_on 10 true 100 rfl rfl rfl) ?_
                     refine st (.int .i64 x34731) rfl rfl (xr_move (.int .i64 x34731) rfl rfl) ?_
                     simp only [ls0, ls1]
                     refine on_guard (guard_on 10 true 100 rfl rfl rfl) ?_
                     refine st (.int .i64 x39611) rfl rfl (xr_move (.int .i64 x39611) rfl rfl) ?_
                     simp only [ls0, ls1]
                     refine on_guard (guard_on 10 true 100 rfl rfl rfl) ?_
                     obtain ⟨t39661, A39662, H⟩ := Option.bind_eq_some_iff.mp H
                     (try dsimp only at H)
                     refine st_call #[v34728, .int .i64 x34731, .int .i64 x39611] rfl rfl Try.func11 (by kernel_rfl) rfl rfl (by simp only [List.map_toArray, List.map_cons, List.map_nil]; first | done | rfl) ?_
                     refine (order_Order_Most.calls v34728 x34727 x34731 x39611 t39661  (fun z_ => pal [(0, 0)] (C39658_ z_)) w39657 (fun _ => pal_lt rfl _) (Ft.arg HJ39609 rfl) A39662).mono ?_
                     rintro _ w39664 ⟨C39665, rfl, hs39666⟩
                     refine ⟨_, rfl, ?_⟩
                     replace hs39666 := Step.lift (U := [(0, 0)]) hs39666 [] rfl rfl
                     generalize up C39658_ C39665 w39657.heap.size [(0, 0)] = C39665_ at hs39666
                     replace HJ39609 := HJ39609.thru hs39666 rfl
                     replace HJ39610 := HJ39610.thru hs39666 rfl
                     replace HS39616 := HS39616.trans hs39666 hc rfl
                     (try simp only [Act.put, List.setIfInBounds_toArray, ls0, ls1])
                     refine on_guard (guard_on 10 true 100 rfl rfl rfl) ?_
                     refine st (.bool (!t39661)) rfl rfl (xr_un (.bool t39661) (.bool (!t39661)) rfl rfl (by first | rfl | (go_simp; done) | (go_simp; rfl) | (go_simp; exact i64_w _) | (go_simp; exact i32_w _))) ?_
                     simp only [ls0, ls1]
                     refine st (.bool (!t39661)) rfl rfl (xr_pick true (.bool (!t39661)) rfl rfl rfl) ?_
                     simp only [ls0, ls1]
                     refine wl_end ?_
                     (try simp only [Act.put, List.setIfInBounds_toArray, ls0, ls1])
                     refine hK39626 _ _ ?_
                     (try clear hK39626 K39626)
                     by_cases c39667 : t39661 = true
                     ·rw [if_pos c39667] at H
                      (try rw [c39667])
                      (try simp only [Bool.not_true, Bool.not_false])
                      refine wp_cond_false rfl ?_
                      refine wp_skip ?_
                      (try simp only [Act.put, List.setIfInBounds_toArray, ls0, ls1])
                      refine hK39625 _ _ ?_
                      (try clear hK39625 K39625)
                      refine wl_region ?_
                      refine st (.int .i64 x39611) rfl rfl (xr_move (.int .i64 x39611) rfl rfl) ?_
                      simp only [ls0, ls1]
                      refine st (.int .i64 (wrap64 (x39611 + 1))) rfl rfl (xr_bin (.int .i64 x39611) (.int .i64 1) (.int .i64 (wrap64 (x39611 + 1))) rfl rfl rfl (B.add_i64 x39611 1)) ?_
                      simp only [ls0, ls1]
                      refine st (.int .i64 (wrap64 (x39611 + 1))) rfl rfl (xr_assign (.int .i64 (wrap64 (x39611 + 1))) rfl rfl) ?_
                      simp only [ls0, ls1]
                      refine wl_end ?_
                      (try simp only [Act.put, List.setIfInBounds_toArray, ls0, ls1])
                      exact ih39618 k39621 (by omega) _ _ ⟨_, wrap64 (x39611 + 1), (fun q_ => List.getD [(g39612 0), (g39612 1), (g39612 2), undef, (g39612 4), (g39612 5), undef, undef, undef, undef, (g39612 10), (g39612 11), (g39612 12), (g39612 13), (g39612 14), (g39612 15), (g39612 16), (g39612 17), (g39612 18), (g39612 19), (g39612 20), (g39612 21), (g39612 22), (g39612 23), (g39612 24), (g39612 25), (g39612 26), (g39612 27), (g39612 28), (g39612 29), (g39612 30), (g39612 31), (g39612 32), (g39612 33), (g39612 34), (g39612 35), (g39612 36), (g39612 37), (g39612 38), (g39612 39), (g39612 40), (g39612 41), (g39612 42), (g39612 43), (g39612 44), (g39612 45), (g39612 46), (g39612 47), (g39612 48), (g39612 49), (g39612 50), (g39612 51), undef, undef, undef, (g39612 55), undef, undef, undef, (g39612 59), undef, undef, undef, undef, undef, undef, (g39612 66), (g39612 67), undef, undef, undef, (g39612 71), undef, undef, undef, (g39612 75), undef, undef, undef, (g39612 79), (g39612 80), (g39612 81), undef, (g39612 83), .int .i64 x39611, .slice A23610 t23604.length cp23611, .int .i64 (t23604.length : Int), .bool true, .int .i64 x39611, .int .i64 (wrap64 (x39611 + 1)), v34728, .int .i64 x34731, .int .i64 x39141, .bool true, .bool true, v34728, .int .i64 x39141, .int .i64 x39611, .bool true, .bool true, .bool true, v34728, .int .i64 x34731, .int .i64 x39611, .bool true, .bool false, .bool false, (g39612 107), (g39612 108), (g39612 109), (g39612 110), (g39612 111), (g39612 112), (g39612 113), (g39612 114), (g39612 115), (g39612 116), (g39612 117), (g39612 118), (g39612 119), (g39612 120), (g39612 121), (g39612 122), (g39612 123), (g39612 124), (g39612 125), (g39612 126), (g39612 127), (g39612 128), (g39612 129), (g39612 130), (g39612 131), (g39612 132), (g39612 133), (g39612 134), (g39612 135), (g39612 136), (g39612 137), (g39612 138), (g39612 139), (g39612 140), (g39612 141), (g39612 142)] q_ undef), rfl, HS39616, (by omega), HJ39609, HJ39610, H⟩
                     ·rw [if_neg c39667] at H
                      (try rw [(Bool.eq_false_iff.mpr c39667)])
                      (try simp only [Bool.not_true, Bool.not_false])
                      refine wp_cond_true rfl ?_
                      refine wp_seq_k fun K39668 hK39668 => ?_
                      refine wl_region ?_
                      refine st (.bool false) rfl rfl (xr_assign (.bool false) rfl rfl) ?_
                      simp only [ls0, ls1]
                      refine wl_end ?_
                      (try simp only [Act.put, List.setIfInBounds_toArray, ls0, ls1])
                      refine hK39668 _ _ ?_
                      (try clear hK39668 K39668)
                      refine wp_ret ?_
                      (try simp only [Exit.inBlock, Exit.then, Exit.noGoto])
                      (try simp only [Act.put, List.setIfInBounds_toArray, ls0, ls1])
                      obtain rfl := Option.some.inj H
                      refine bodyPost_ret (results_tmp rfl _ _ _) rfl ?_
                      exact ⟨_, rfl, HS39616⟩
                    ·rw [if_neg c39660] at H
                     (try rw [(Bool.eq_false_iff.mpr c39660)])
                     (try simp only [Bool.not_true, Bool.not_false])
                     refine sk_guard (guard_off 10 true 100 rfl rfl false (by decide) rfl) rfl ?_
                     simp only [ls0, ls1]
                     refine sk_guard (guard_off 10 true 100 rfl rfl false (by decide) rfl) rfl ?_
                     simp only [ls0, ls1]
                     refine sk_guard (guard_off 10 true 100 rfl rfl false (by decide) rfl) rfl ?_
                     simp only [ls0, ls1]
                     refine sk_guard (guard_off 10 true 100 rfl rfl false (by decide) rfl) rfl ?_
                     simp only [ls0, ls1]
                     refine sk_guard (guard_off 10 true 100 rfl rfl false (by decide) rfl) rfl ?_
                     simp only [ls0, ls1]
                     refine st (.bool false) rfl rfl (xr_pick false (.bool false) rfl rfl rfl) ?_
                     simp only [ls0, ls1]
                     refine wl_end ?_
                     (try simp only [Act.put, List.setIfInBounds_toArray, ls0, ls1])
                     refine hK39626 _ _ ?_
                     (try clear hK39626 K39626)
                     refine wp_cond_false rfl ?_
                     refine wp_skip ?_
                     (try simp only [Act.put, List.setIfInBounds_toArray, ls0, ls1])
                     refine hK39625 _ _ ?_
                     (try clear hK39625 K39625)
                     refine wl_region ?_
                     refine st (.int .i64 x39611) rfl rfl (xr_move (.int .i64 x39611) rfl rfl) ?_
                     simp only [ls0, ls1]
                     refine st (.int .i64 (wrap64 (x39611 + 1))) rfl rfl (xr_bin (.int .i64 x39611) (.int .i64 1) (.int .i64 (wrap64 (x39611 + 1))) rfl rfl rfl (B.add_i64 x39611 1)) ?_
                     simp only [ls0, ls1]
                     refine st (.int .i64 (wrap64 (x39611 + 1))) rfl rfl (xr_assign (.int .i64 (wrap64 (x39611 + 1))) rfl rfl) ?_
                     simp only [ls0, ls1]
                     refine wl_end ?_
                     (try simp only [Act.put, List.setIfInBounds_toArray, ls0, ls1])
                     exact ih39618 k39621 (by omega) _ _ ⟨_, wrap64 (x39611 + 1), (fun q_ => List.getD [(g39612 0), (g39612 1), (g39612 2), undef, (g39612 4), (g39612 5), undef, undef, undef, undef, (g39612 10), (g39612 11), (g39612 12), (g39612 13), (g39612 14), (g39612 15), (g39612 16), (g39612 17), (g39612 18), (g39612 19), (g39612 20), (g39612 21), (g39612 22), (g39612 23), (g39612 24), (g39612 25), (g39612 26), (g39612 27), (g39612 28), (g39612 29), (g39612 30), (g39612 31), (g39612 32), (g39612 33), (g39612 34), (g39612 35), (g39612 36), (g39612 37), (g39612 38), (g39612 39), (g39612 40), (g39612 41), (g39612 42), (g39612 43), (g39612 44), (g39612 45), (g39612 46), (g39612 47), (g39612 48), (g39612 49), (g39612 50), (g39612 51), undef, undef, undef, (g39612 55), undef, undef, undef, (g39612 59), undef, undef, undef, undef, undef, undef, (g39612 66), (g39612 67), undef, undef, undef, (g39612 71), undef, undef, undef, (g39612 75), undef, undef, undef, (g39612 79), (g39612 80), (g39612 81), undef, (g39612 83), .int .i64 x39611, .slice A23610 t23604.length cp23611, .int .i64 (t23604.length : Int), .bool true, .int .i64 x39611, .int .i64 (wrap64 (x39611 + 1)), v34728, .int .i64 x34731, .int .i64 x39141, .bool true, .bool true, v34728, .int .i64 x39141, .int .i64 x39611, .bool false, .bool false, .bool false, undef, undef, undef, undef, undef, .bool false, (g39612 107), (g39612 108), (g39612 109), (g39612 110), (g39612 111), (g39612 112), (g39612 113), (g39612 114), (g39612 115), (g39612 116), (g39612 117), (g39612 118), (g39612 119), (g39612 120), (g39612 121), (g39612 122), (g39612 123), (g39612 124), (g39612 125), (g39612 126), (g39612 127), (g39612 128), (g39612 129), (g39612 130), (g39612 131), (g39612 132), (g39612 133), (g39612 134), (g39612 135), (g39612 136), (g39612 137), (g39612 138), (g39612 139), (g39612 140), (g39612 141), (g39612 142)] q_ undef), rfl, HS39616, (by omega), HJ39609, HJ39610, H⟩
                   ·rw [if_neg c39653] at H
                    (try rw [(Bool.eq_false_iff.mpr c39653)])
                    (try simp only [Bool.not_true, Bool.not_false])
                    refine sk_guard (guard_off 4 true 94 rfl rfl false (by decide) rfl) rfl ?_
                    simp only [ls0, ls1]
                    refine sk_guard (guard_off 4 true 94 rfl rfl false (by decide) rfl) rfl ?_
                    simp only [ls0, ls1]
                    refine sk_guard (guard_off 4 true 94 rfl rfl false (by decide) rfl) rfl ?_
                    simp only [ls0, ls1]
                    refine sk_guard (guard_off 4 true 94 rfl rfl false (by decide) rfl) rfl ?_
                    simp only [ls0, ls1]
                    refine st (.bool false) rfl rfl (xr_pick false (.bool false) rfl rfl rfl) ?_
                    simp only [ls0, ls1]
                    refine st (.bool false) rfl rfl (xr_move (.bool false) rfl rfl) ?_
                    simp only [ls0, ls1]
                    refine sk_guard (guard_off 10 true 100 rfl rfl false (by decide) rfl) rfl ?_
                    simp only [ls0, ls1]
                    refine sk_guard (guard_off 10 true 100 rfl rfl false (by decide) rfl) rfl ?_
                    simp only [ls0, ls1]
                    refine sk_guard (guard_off 10 true 100 rfl rfl false (by decide) rfl) rfl ?_
                    simp only [ls0, ls1]
                    refine sk_guard (guard_off 10 true 100 rfl rfl false (by decide) rfl) rfl ?_
                    simp only [ls0, ls1]
                    refine sk_guard (guard_off 10 true 100 rfl rfl false (by decide) rfl) rfl ?_
                    simp only [ls0, ls1]
                    refine st (.bool false) rfl rfl (xr_pick false (.bool false) rfl rfl rfl) ?_
                    simp only [ls0, ls1]
                    refine wl_end ?_
                    (try simp only [Act.put, List.setIfInBounds_toArray, ls0, ls1])
                    refine hK39626 _ _ ?_
                    (try clear hK39626 K39626)
                    refine wp_cond_false rfl ?_
                    refine wp_skip ?_
                    (try simp only [Act.put, List.setIfInBounds_toArray, ls0, ls1])
                    refine hK39625 _ _ ?_
                    (try clear hK39625 K39625)
                    refine wl_region ?_
                    refine st (.int .i64 x39611) rfl rfl (xr_move (.int .i64 x39611) rfl rfl) ?_
                    simp only [ls0, ls1]
                    refine st (.int .i64 (wrap64 (x39611 + 1))) rfl rfl (xr_bin (.int .i64 x39611) (.int .i64 1) (.int .i64 (wrap64 (x39611 + 1))) rfl rfl rfl (B.add_i64 x39611 1)) ?_
                    simp only [ls0, ls1]
                    refine st (.int .i64 (wrap64 (x39611 + 1))) rfl rfl (xr_assign (.int .i64 (wrap64 (x39611 + 1))) rfl rfl) ?_
                    simp only [ls0, ls1]
                    refine wl_end ?_
                    (try simp only [Act.put, List.setIfInBounds_toArray, ls0, ls1])
                    exact ih39618 k39621 (by omega) _ _ ⟨_, wrap64 (x39611 + 1), (fun q_ => List.getD [(g39612 0), (g39612 1), (g39612 2), undef, (g39612 4), (g39612 5), undef, undef, undef, undef, (g39612 10), (g39612 11), (g39612 12), (g39612 13), (g39612 14), (g39612 15), (g39612 16), (g39612 17), (g39612 18), (g39612 19), (g39612 20), (g39612 21), (g39612 22), (g39612 23), (g39612 24), (g39612 25), (g39612 26), (g39612 27), (g39612 28), (g39612 29), (g39612 30), (g39612 31), (g39612 32), (g39612 33), (g39612 34), (g39612 35), (g39612 36), (g39612 37), (g39612 38), (g39612 39), (g39612 40), (g39612 41), (g39612 42), (g39612 43), (g39612 44), (g39612 45), (g39612 46), (g39612 47), (g39612 48), (g39612 49), (g39612 50), (g39612 51), undef, undef, undef, (g39612 55), undef, undef, undef, (g39612 59), undef, undef, undef, undef, undef, undef, (g39612 66), (g39612 67), undef, undef, undef, (g39612 71), undef, undef, undef, (g39612 75), undef, undef, undef, (g39612 79), (g39612 80), (g39612 81), undef, (g39612 83), .int .i64 x39611, .slice A23610 t23604.length cp23611, .int .i64 (t23604.length : Int), .bool true, .int .i64 x39611, .int .i64 (wrap64 (x39611 + 1)), v34728, .int .i64 x34731, .int .i64 x39141, .bool false, .bool false, undef, undef, undef, undef, .bool false, .bool false, undef, undef, undef, undef, undef, .bool false, (g39612 107), (g39612 108), (g39612 109), (g39612 110), (g39612 111), (g39612 112), (g39612 113), (g39612 114), (g39612 115), (g39612 116), (g39612 117), (g39612 118), (g39612 119), (g39612 120), (g39612 121), (g39612 122), (g39612 123), (g39612 124), (g39612 125), (g39612 126), (g39612 127), (g39612 128), (g39612 129), (g39612 130), (g39612 131), (g39612 132), (g39612 133), (g39612 134), (g39612 135), (g39612 136), (g39612 137), (g39612 138), (g39612 139), (g39612 140), (g39612 141), (g39612 142)] q_ undef), rfl, HS39616, (by omega), HJ39609, HJ39610, H⟩
                  ·rw [if_neg c39624] at H
                   (try rw [(decide_eq_false c39624)])
                   (try simp only [Bool.not_true, Bool.not_false])
                   refine wp_cond_false rfl ?_
                   refine wp_exit ?_
                   (try simp only [Act.put, List.setIfInBounds_toArray, ls0, ls1])
                   refine hK39155 _ _ ?_
                   (try clear hK39155 K39155)
                   refine wl_region ?_
                   refine st (.int .i64 x39141) rfl rfl (xr_move (.int .i64 x39141) rfl rfl) ?_
                   simp only [ls0, ls1]
                   refine st (.int .i64 (wrap64 (x39141 + 1))) rfl rfl (xr_bin (.int .i64 x39141) (.int .i64 1) (.int .i64 (wrap64 (x39141 + 1))) rfl rfl rfl (B.add_i64 x39141 1)) ?_
                   simp only [ls0, ls1]
                   refine st (.int .i64 (wrap64 (x39141 + 1))) rfl rfl (xr_assign (.int .i64 (wrap64 (x39141 + 1))) rfl rfl) ?_
                   simp only [ls0, ls1]
                   refine wl_end ?_
                   (try simp only [Act.put, List.setIfInBounds_toArray, ls0, ls1])
                   exact ih39148 k39621 (by omega) _ _ ⟨_, wrap64 (x39141 + 1), (fun q_ => List.getD [(g39612 0), (g39612 1), (g39612 2), undef, (g39612 4), (g39612 5), undef, undef, undef, .int .i64 x39611, (g39612 10), (g39612 11), (g39612 12), (g39612 13), (g39612 14), (g39612 15), (g39612 16), (g39612 17), (g39612 18), (g39612 19), (g39612 20), (g39612 21), (g39612 22), (g39612 23), (g39612 24), (g39612 25), (g39612 26), (g39612 27), (g39612 28), (g39612 29), (g39612 30), (g39612 31), (g39612 32), (g39612 33), (g39612 34), (g39612 35), (g39612 36), (g39612 37), (g39612 38), .int .i64 x39141, .int .i64 (wrap64 (x39141 + 1)), (g39612 41), (g39612 42), (g39612 43), (g39612 44), (g39612 45), (g39612 46), (g39612 47), (g39612 48), (g39612 49), (g39612 50), (g39612 51), v34728, .slice A23610 t23604.length cp23611, .int .i64 x39141, (g39612 55), .int .i64 (rd t23604 x39141), .slice A23610 t23604.length cp23611, .int .i64 x34731, (g39612 59), .int .i64 (rd t23604 x34731), .bool t39327, .int .i64 x34731, .int .i64 x39141, .bool (decide (x34731 = x39141)), .bool false, (g39612 66), (g39612 67), v34728, .slice A23610 t23604.length cp23611, .int .i64 x39141, (g39612 71), .int .i64 (rd t23604 x39141), .slice A23610 t23604.length cp23611, .int .i64 x34731, (g39612 75), .int .i64 (rd t23604 x34731), .bool false, .bool false, (g39612 79), (g39612 80), (g39612 81), .bool false, (g39612 83), .int .i64 x39611, .slice A23610 t23604.length cp23611, .int .i64 (t23604.length : Int), .bool false, (g39612 88), (g39612 89), (g39612 90), (g39612 91), (g39612 92), (g39612 93), (g39612 94), (g39612 95), (g39612 96), (g39612 97), (g39612 98), (g39612 99), (g39612 100), (g39612 101), (g39612 102), (g39612 103), (g39612 104), (g39612 105), (g39612 106), (g39612 107), (g39612 108), (g39612 109), (g39612 110), (g39612 111), (g39612 112), (g39612 113), (g39612 114), (g39612 115), (g39612 116), (g39612 117), (g39612 118), (g39612 119), (g39612 120), (g39612 121), (g39612 122), (g39612 123), (g39612 124), (g39612 125), (g39612 126), (g39612 127), (g39612 128), (g39612 129), (g39612 130), (g39612 131), (g39612 132), (g39612 133), (g39612 134), (g39612 135), (g39612 136), (g39612 137), (g39612 138), (g39612 139), (g39612 140), (g39612 141), (g39612 142)] q_ undef), rfl, HS39616, (by omega), HJ39609, HJ39610, H⟩
              ·rw [if_neg c39333] at H
               (try rw [(decide_eq_false c39333)])
               (try simp only [Bool.not_true, Bool.not_false])
               refine al_off 27 68 #[true, true, true, true, true, true, true, true, true, true, true, true, true, true, true, true, true, true, true, true, true, true, true, true, true, true, true, true, false, false, false, false, false, false, false, false, false, false, false, false, false, false, false] rfl rfl (by kernel_rfl) (fun _ _ _ h_ => h_) (guard_off 26 false 67 rfl rfl true (by decide) rfl) ?_
               simp only [ls0, ls1]
               refine al_off 28 69 #[true, true, true, true, true, true, true, true, true, true, true, true, true, true, true, true, true, true, true, true, true, true, true, true, true, true, true, true, true, false, false, false, false, false, false, false, false, false, false, false, false, false, false] rfl rfl (by kernel_rfl) (fun _ _ _ h_ => h_) (guard_off 26 false 67 rfl rfl true (by decide) rfl) ?_
               simp only [ls0, ls1]
               refine al_off 29 70 #[true, true, true, true, true, true, true, true, true, true, true, true, true, true, true, true, true, true, true, true, true, true, true, true, true, true, true, true, true, true, false, false, false, false, false, false, false, false, false, false, false, false, false] rfl rfl (by kernel_rfl) (fun _ _ _ h_ => h_) (guard_off 26 false 67 rfl rfl true (by decide) rfl) ?_
               simp only [ls0, ls1]
               refine al_off 30 71 #[true, true, true, true, true, true, true, true, true, true, true, true, true, true, true, true, true, true, true, true, true, true, true, true, true, true, true, true, true, true, true, false, false, false, false, false, false, false, false, false, false, false, false] rfl rfl (by kernel_rfl) (fun _ _ _ h_ => h_) (guard_off 26 false 67 rfl rfl true (by decide) rfl) ?_
               simp only [ls0, ls1]
               refine al_off 31 72 #[true, true, true, true, true, true, true, true, true, true, true, true, true, true, true, true, true, true, true, true, true, true, true, true, true, true, true, true, true, true, true, true, false, false, false, false, false, false, false, false, false, false, false] rfl rfl (by kernel_rfl) (fun _ _ _ h_ => h_) (guard_off 26 false 67 rfl rfl true (by decide) rfl) ?_
               simp only [ls0, ls1]
               refine al_off 32 73 #[true, true, true, true, true, true, true, true, true, true, true, true, true, true, true, true, true, true, true, true, true, true, true, true, true, true, true, true, true, true, true, true, true, false, false, false, false, false, false, false, false, false, false] rfl rfl (by kernel_rfl) (fun _ _ _ h_ => h_) (guard_off 26 false 67 rfl rfl true (by decide) rfl) ?_
               simp only [ls0, ls1]
               refine al_off 33 74 #[true, true, true, true, true, true, true, true, true, true, true, true, true, true, true, true, true, true, true, true, true, true, true, true, true, true, true, true, true, true, true, true, true, true, false, false, false, false, false, false, false, false, false] rfl rfl (by kernel_rfl) (fun _ _ _ h_ => h_) (guard_off 26 false 67 rfl rfl true (by decide) rfl) ?_
               simp only [ls0, ls1]
               refine al_off 34 75 #[true, true, true, true, true, true, true, true, true, true, true, true, true, true, true, true, true, true, true, true, true, true, true, true, true, true, true, true, true, true, true, true, true, true, true, false, false, false, false, false, false, false, false] rfl rfl (by kernel_rfl) (fun _ _ _ h_ => h_) (guard_off 26 false 67 rfl rfl true (by decide) rfl) ?_
               simp only [ls0, ls1]
               refine al_off 35 76 #[true, true, true, true, true, true, true, true, true, true, true, true, true, true, true, true, true, true, true, true, true, true, true, true, true, true, true, true, true, true, true, true, true, true, true, true, false, false, false, false, false, false, false] rfl rfl (by kernel_rfl) (fun _ _ _ h_ => h_) (guard_off 26 false 67 rfl rfl true (by decide) rfl) ?_
               simp only [ls0, ls1]
               refine al_off 36 77 #[true, true, true, true, true, true, true, true, true, true, true, true, true, true, true, true, true, true, true, true, true, true, true, true, true, true, true, true, true, true, true, true, true, true, true, true, true, false, false, false, false, false, false] rfl rfl (by kernel_rfl) (fun _ _ _ h_ => h_) (guard_off 26 false 67 rfl rfl true (by decide) rfl) ?_
               simp only [ls0, ls1]
               refine al_off 37 78 #[true, true, true, true, true, true, true, true, true, true, true, true, true, true, true, true, true, true, true, true, true, true, true, true, true, true, true, true, true, true, true, true, true, true, true, true, true, true, false, false, false, false, false] rfl rfl (by kernel_rfl) (fun _ _ _ h_ => h_) (guard_off 26 false 67 rfl rfl true (by decide) rfl) ?_
               simp only [ls0, ls1]
               refine al_off 38 79 #[true, true, true, true, true, true, true, true, true, true, true, true, true, true, true, true, true, true, true, true, true, true, true, true, true, true, true, true, true, true, true, true, true, true, true, true, true, true, true, false, false, false, false] rfl rfl (by kernel_rfl) (fun _ _ _ h_ => h_) (guard_und 37 true 78 rfl rfl rfl) ?_
               simp only [ls0, ls1]
               refine al_off 39 80 #[true, true, true, true, true, true, true, true, true, true, true, true, true, true, true, true, true, true, true, true, true, true, true, true, true, true, true, true, true, true, true, true, true, true, true, true, true, true, true, true, false, false, false] rfl rfl (by kernel_rfl) (fun _ _ _ h_ => h_) (guard_und 37 true 78 rfl rfl rfl) ?_
               simp only [ls0, ls1]
               refine al_off 40 81 #[true, true, true, true, true, true, true, true, true, true, true, true, true, true, true, true, true, true, true, true, true, true, true, true, true, true, true, true, true, true, true, true, true, true, true, true, true, true, true, true, true, false, false] rfl rfl (by kernel_rfl) (fun _ _ _ h_ => h_) (guard_und 37 true 78 rfl rfl rfl) ?_
               simp only [ls0, ls1]
               refine al_off 41 82 #[true, true, true, true, true, true, true, true, true, true, true, true, true, true, true, true, true, true, true, true, true, true, true, true, true, true, true, true, true, true, true, true, true, true, true, true, true, true, true, true, true, true, false] rfl rfl (by kernel_rfl) (fun _ _ _ h_ => h_) (guard_off 26 false 67 rfl rfl true (by decide) rfl) ?_
               simp only [ls0, ls1]
               refine al_pure 42 83 (.bool true) #[true, true, true, true, true, true, true, true, true, true, true, true, true, true, true, true, true, true, true, true, true, true, true, true, true, true, true, true, true, true, true, true, true, true, true, true, true, true, true, true, true, true, true] rfl rfl (by kernel_rfl) (fun _ _ _ h_ => h_) rfl (fun w_ => xr_pick true (.bool true) rfl rfl rfl) ?_
               simp only [ls0, ls1]
               refine al_end (by kernel_rfl) ?_
               (try simp only [Act.put, List.setIfInBounds_toArray, ls0, ls1])
               refine hK39259 _ _ ?_
               (try clear hK39259 K39259)
               refine wp_cond_true rfl ?_
               refine wp_seq_k fun K39669 hK39669 => ?_
               refine wl_region ?_
               refine st (.bool false) rfl rfl (xr_assign (.bool false) rfl rfl) ?_
               simp only [ls0, ls1]
               refine wl_end ?_
               (try simp only [Act.put, List.setIfInBounds_toArray, ls0, ls1])
               refine hK39669 _ _ ?_
               (try clear hK39669 K39669)
               refine wp_ret ?_
               (try simp only [Exit.inBlock, Exit.then, Exit.noGoto])
               (try simp only [Act.put, List.setIfInBounds_toArray, ls0, ls1])
               obtain rfl := Option.some.inj H
               refine bodyPost_ret (results_tmp rfl _ _ _) rfl ?_
               exact ⟨_, rfl, HS39146⟩
             ·rw [if_neg c39322] at H
              (try rw [(Bool.eq_false_iff.mpr c39322)])
              (try simp only [Bool.not_true, Bool.not_false])
              refine al_off 11 52 #[true, true, true, true, true, true, true, true, true, true, true, true, false, false, false, false, false, false, false, false, false, false, false, false, false, false, false, false, false, false, false, false, false, false, false, false, false, false, false, false, false, false, false] rfl rfl (by kernel_rfl) (fun _ _ _ h_ => h_) (guard_off 10 true 51 rfl rfl false (by decide) rfl) ?_
              simp only [ls0, ls1]
              refine al_off 12 53 #[true, true, true, true, true, true, true, true, true, true, true, true, true, false, false, false, false, false, false, false, false, false, false, false, false, false, false, false, false, false, false, false, false, false, false, false, false, false, false, false, false, false, false] rfl rfl (by kernel_rfl) (fun _ _ _ h_ => h_) (guard_off 10 true 51 rfl rfl false (by decide) rfl) ?_
              simp only [ls0, ls1]
              refine al_off 13 54 #[true, true, true, true, true, true, true, true, true, true, true, true, true, true, false, false, false, false, false, false, false, false, false, false, false, false, false, false, false, false, false, false, false, false, false, false, false, false, false, false, false, false, false] rfl rfl (by kernel_rfl) (fun _ _ _ h_ => h_) (guard_off 10 true 51 rfl rfl false (by decide) rfl) ?_
              simp only [ls0, ls1]
              refine al_off 14 55 #[true, true, true, true, true, true, true, true, true, true, true, true, true, true, true, false, false, false, false, false, false, false, false, false, false, false, false, false, false, false, false, false, false, false, false, false, false, false, false, false, false, false, false] rfl rfl (by kernel_rfl) (fun _ _ _ h_ => h_) (guard_off 10 true 51 rfl rfl false (by decide) rfl) ?_
              simp only [ls0, ls1]
              refine al_off 15 56 #[true, true, true, true, true, true, true, true, true, true, true, true, true, true, true, true, false, false, false, false, false, false, false, false, false, false, false, false, false, false, false, false, false, false, false, false, false, false, false, false, false, false, false] rfl rfl (by kernel_rfl) (fun _ _ _ h_ => h_) (guard_off 10 true 51 rfl rfl false (by decide) rfl) ?_
              simp only [ls0, ls1]
              refine al_off 16 57 #[true, true, true, true, true, true, true, true, true, true, true, true, true, true, true, true, true, false, false, false, false, false, false, false, false, false, false, false, false, false, false, false, false, false, false, false, false, false, false, false, false, false, false] rfl rfl (by kernel_rfl) (fun _ _ _ h_ => h_) (guard_off 10 true 51 rfl rfl false (by decide) rfl) ?_
              simp only [ls0, ls1]
              refine al_off 17 58 #[true, true, true, true, true, true, true, true, true, true, true, true, true, true, true, true, true, true, false, false, false, false, false, false, false, false, false, false, false, false, false, false, false, false, false, false, false, false, false, false, false, false, false] rfl rfl (by kernel_rfl) (fun _ _ _ h_ => h_) (guard_off 10 true 51 rfl rfl false (by decide) rfl) ?_
              simp only [ls0, ls1]
              refine al_off 18 59 #[true, true, true, true, true, true, true, true, true, true, true, true, true, true, true, true, true, true, true, false, false, false, false, false, false, false, false, false, false, false, false, false, false, false, false, false, false, false, false, false, false, false, false] rfl rfl (by kernel_rfl) (fun _ _ _ h_ => h_) (guard_off 10 true 51 rfl rfl false (by decide) rfl) ?_
              simp only [ls0, ls1]
              refine al_off 19 60 #[true, true, true, true, true, true, true, true, true, true, true, true, true, true, true, true, true, true, true, true, false, false, false, false, false, false, false, false, false, false, false, false, false, false, false, false, false, false, false, false, false, false, false] rfl rfl (by kernel_rfl) (fun _ _ _ h_ => h_) (guard_off 10 true 51 rfl rfl false (by decide) rfl) ?_
              simp only [ls0, ls1]
              refine al_off 20 61 #[true, true, true, true, true, true, true, true, true, true, true, true, true, true, true, true, true, true, true, true, true, false, false, false, false, false, false, false, false, false, false, false, false, false, false, false, false, false, false, false, false, false, false] rfl rfl (by kernel_rfl) (fun _ _ _ h_ => h_) (guard_off 10 true 51 rfl rfl false (by decide) rfl) ?_
              simp only [ls0, ls1]
              refine al_off 21 62 #[true, true, true, true, true, true, true, true, true, true, true, true, true, true, true, true, true, true, true, true, true, true, false, false, false, false, false, false, false, false, false, false, false, false, false, false, false, false, false, false, false, false, false] rfl rfl (by kernel_rfl) (fun _ _ _ h_ => h_) (guard_off 10 true 51 rfl rfl false (by decide) rfl) ?_
              simp only [ls0, ls1]
              refine al_off 22 63 #[true, true, true, true, true, true, true, true, true, true, true, true, true, true, true, true, true, true, true, true, true, true, true, false, false, false, false, false, false, false, false, false, false, false, false, false, false, false, false, false, false, false, false] rfl rfl (by kernel_rfl) (fun _ _ _ h_ => h_) (guard_off 10 true 51 rfl rfl false (by decide) rfl) ?_
              simp only [ls0, ls1]
              refine al_off 23 64 #[true, true, true, true, true, true, true, true, true, true, true, true, true, true, true, true, true, true, true, true, true, true, true, true, false, false, false, false, false, false, false, false, false, false, false, false, false, false, false, false, false, false, false] rfl rfl (by kernel_rfl) (fun _ _ _ h_ => h_) (guard_off 10 true 51 rfl rfl false (by decide) rfl) ?_
              simp only [ls0, ls1]
              refine al_off 24 65 #[true, true, true, true, true, true, true, true, true, true, true, true, true, true, true, true, true, true, true, true, true, true, true, true, true, false, false, false, false, false, false, false, false, false, false, false, false, false, false, false, false, false, false] rfl rfl (by kernel_rfl) (fun _ _ _ h_ => h_) (guard_off 10 true 51 rfl rfl false (by decide) rfl) ?_
              simp only [ls0, ls1]
              refine al_pure 25 66 (.bool false) #[true, true, true, true, true, true, true, true, true, true, true, true, true, true, true, true, true, true, true, true, true, true, true, true, true, true, false, false, false, false, false, false, false, false, false, false, false, false, false, false, false, false, false] rfl rfl (by kernel_rfl) (fun _ _ _ h_ => h_) rfl (fun w_ => xr_pick false (.bool false) rfl rfl rfl) ?_
              simp only [ls0, ls1]
              refine al_pure 26 67 (.bool false) #[true, true, true, true, true, true, true, true, true, true, true, true, true, true, true, true, true, true, true, true, true, true, true, true, true, true, true, false, false, false, false, false, false, false, false, false, false, false, false, false, false, false, false] rfl rfl (by kernel_rfl) (fun _ _ _ h_ => h_) rfl (fun w_ => xr_move (.bool false) rfl rfl) ?_
              simp only [ls0, ls1]
              refine al_pure 27 68 (v34728) #[true, true, true, true, true, true, true, true, true, true, true, true, true, true, true, true, true, true, true, true, true, true, true, true, true, true, true, true, false, false, false, false, false, false, false, false, false, false, false, false, false, false, false] rfl rfl (by kernel_rfl) (fun _ _ _ h_ => h_) (guard_on 26 false 67 rfl rfl rfl) (fun w_ => xr_move (v34728) rfl rfl) ?_
              simp only [ls0, ls1]
              refine al_pure 28 69 (.slice A23610 t23604.length cp23611) #[true, true, true, true, true, true, true, true, true, true, true, true, true, true, true, true, true, true, true, true, true, true, true, true, true, true, true, true, true, false, false, false, false, false, false, false, false, false, false, false, false, false, false] rfl rfl (by kernel_rfl) (fun _ _ _ h_ => h_) (guard_on 26 false 67 rfl rfl rfl) (fun w_ => xr_move (.slice A23610 t23604.length cp23611) rfl rfl) ?_
              simp only [ls0, ls1]
              refine al_pure 29 70 (.int .i64 x39141) #[true, true, true, true, true, true, true, true, true, true, true, true, true, true, true, true, true, true, true, true, true, true, true, true, true, true, true, true, true, true, false, false, false, false, false, false, false, false, false, false, false, false, false] rfl rfl (by kernel_rfl) (fun _ _ _ h_ => h_) (guard_on 26 false 67 rfl rfl rfl) (fun w_ => xr_move (.int .i64 x39141) rfl rfl) ?_
              simp only [ls0, ls1]
              obtain ⟨g39670, hA39671⟩ := HJ39140.form (pos_of (j := x39141) (by first | assumption | decide) (by first | assumption | omega))
              refine al_pure 30 71 (.pointer (some ((⟨g39670, 0, none⟩ : Addr).add ((x39141 : Int).toNat * 1)))) #[true, true, true, true, true, true, true, true, true, true, true, true, true, true, true, true, true, true, true, true, true, true, true, true, true, true, true, true, true, true, true, false, false, false, false, false, false, false, false, false, false, false, false] rfl rfl (by kernel_rfl) (fun _ _ _ h_ => h_) (guard_on 26 false 67 rfl rfl rfl) (fun w_ => xr_indexAddr (.slice A23610 t23604.length cp23611) (.int .i64 x39141) (.pointer (some ((⟨g39670, 0, none⟩ : Addr).add ((x39141 : Int).toNat * 1)))) rfl rfl rfl (index_at Try.underlying38 info3 hA39671 (by first | assumption | decide | omega) (by first | assumption | decide | omega))) ?_
              simp only [ls0, ls1]
              refine al_pure 32 73 (.slice A23610 t23604.length cp23611) #[true, true, true, true, true, true, true, true, true, true, true, true, true, true, true, true, true, true, true, true, true, true, true, true, true, true, true, true, true, true, true, false, true, false, false, false, false, false, false, false, false, false, false] rfl rfl (by kernel_rfl) (fun _ _ _ h_ => h_) (guard_on 26 false 67 rfl rfl rfl) (fun w_ => xr_move (.slice A23610 t23604.length cp23611) rfl rfl) ?_
              simp only [ls0, ls1]
              refine al_pure 33 74 (.int .i64 x34731) #[true, true, true, true, true, true, true, true, true, true, true, true, true, true, true, true, true, true, true, true, true, true, true, true, true, true, true, true, true, true, true, false, true, true, false, false, false, false, false, false, false, false, false] rfl rfl (by kernel_rfl) (fun _ _ _ h_ => h_) (guard_on 26 false 67 rfl rfl rfl) (fun w_ => xr_move (.int .i64 x34731) rfl rfl) ?_
              simp only [ls0, ls1]
              obtain ⟨g39672, hA39673⟩ := HJ39140.form (pos_of (j := x34731) (by first | assumption | decide) (by first | assumption | omega))
              refine al_pure 34 75 (.pointer (some ((⟨g39672, 0, none⟩ : Addr).add ((x34731 : Int).toNat * 1)))) #[true, true, true, true, true, true, true, true, true, true, true, true, true, true, true, true, true, true, true, true, true, true, true, true, true, true, true, true, true, true, true, false, true, true, true, false, false, false, false, false, false, false, false] rfl rfl (by kernel_rfl) (fun _ _ _ h_ => h_) (guard_on 26 false 67 rfl rfl rfl) (fun w_ => xr_indexAddr (.slice A23610 t23604.length cp23611) (.int .i64 x34731) (.pointer (some ((⟨g39672, 0, none⟩ : Addr).add ((x34731 : Int).toNat * 1)))) rfl rfl rfl (index_at Try.underlying38 info3 hA39673 (by first | assumption | decide | omega) (by first | assumption | decide | omega))) ?_
              simp only [ls0, ls1]
              refine al_take 31 72 (.int .i64 (rd t23604 x39141)) #[true, true, true, true, true, true, true, true, true, true, true, true, true, true, true, true, true, true, true, true, true, true, true, true, true, true, true, true, true, true, true, true, true, true, true, false, false, false, false, false, false, false, false] rfl rfl (by kernel_rfl) (fun _ _ _ h_ => h_) (guard_on 26 false 67 rfl rfl rfl) (fun w_ hS_ => xr_load (.pointer (some ((⟨g39670, 0, none⟩ : Addr).add ((x39141 : Int).toNat * 1)))) (.int .i64 (rd t23604 x39141)) rfl rfl (load_int Try.underlying3 rfl hA39671 hS_ (by first | assumption | decide | omega) (by first | assumption | decide | omega))) (Ft.now (HJ39140.ft)) ?_
              simp only [ls0, ls1]
              refine al_take 35 76 (.int .i64 (rd t23604 x34731)) #[true, true, true, true, true, true, true, true, true, true, true, true, true, true, true, true, true, true, true, true, true, true, true, true, true, true, true, true, true, true, true, true, true, true, true, true, false, false, false, false, false, false, false] rfl rfl (by kernel_rfl) (fun _ _ _ h_ => h_) (guard_on 26 false 67 rfl rfl rfl) (fun w_ hS_ => xr_load (.pointer (some ((⟨g39672, 0, none⟩ : Addr).add ((x34731 : Int).toNat * 1)))) (.int .i64 (rd t23604 x34731)) rfl rfl (load_int Try.underlying3 rfl hA39673 hS_ (by first | assumption | decide | omega) (by first | assumption | decide | omega))) (Ft.now (HJ39140.ft)) ?_
              simp only [ls0, ls1]
              obtain ⟨t39674, A39675, H⟩ := Option.bind_eq_some_iff.mp H
              (try dsimp only at H)
              refine al_one 36 #[true, true, true, true, true, true, true, true, true, true, true, true, true, true, true, true, true, true, true, true, true, true, true, true, true, true, true, true, true, true, true, true, true, true, true, true, true, false, false, false, false, false, false] rfl rfl (by kernel_rfl) rfl (fun K_ hK_ => ?_)
              refine goes_ Try.func11 (by kernel_rfl) rfl #[v34728, .int .i64 (rd t23604 x39141), .int .i64 (rd t23604 x34731)] (guard_on 26 false 67 rfl rfl rfl) rfl rfl (by rw [map_ev]; simp only [List.map_toArray, List.map_cons, List.map_nil]; first | done | rfl) ?_
              refine (order_Order_Most.calls v34728 x34727 (rd t23604 x39141) (rd t23604 x34731) t39674  (fun z_ => pal [(0, 0)] (C39320_ z_)) w39319 (fun _ => pal_lt rfl _) (Ft.arg HJ39139 rfl) A39675).mono ?_
              rintro _ w39677 ⟨C39678, rfl, hs39679⟩
              refine ⟨_, rfl, ?_⟩
              replace hs39679 := Step.lift (U := [(0, 0)]) hs39679 [] rfl rfl
              generalize up C39320_ C39678 w39319.heap.size [(0, 0)] = C39678_ at hs39679
              replace HJ39139 := HJ39139.thru hs39679 rfl
              replace HJ39140 := HJ39140.thru hs39679 rfl
              replace HS39146 := HS39146.trans hs39679 hc rfl
              refine hK_ _ _ (Ft.now (HJ39140.ft)) ?_
              clear hK_ K_
              (try simp only [Act.put, List.setIfInBounds_toArray, ls0, ls1])
              refine al_pure 37 78 (.bool t39674) #[true, true, true, true, true, true, true, true, true, true, true, true, true, true, true, true, true, true, true, true, true, true, true, true, true, true, true, true, true, true, true, true, true, true, true, true, true, true, false, false, false, false, false] rfl rfl (by kernel_rfl) (fun _ _ _ h_ => h_) (guard_on 26 false 67 rfl rfl rfl) (fun w_ => xr_move (.bool t39674) rfl rfl) ?_
              simp only [ls0, ls1]
              by_cases c39680 : t39674 = true
              ·rw [if_pos c39680] at H
               (try rw [c39680])
               (try simp only [Bool.not_true, Bool.not_false])
               refine al_pure 38 79 (.int .i64 x39141) #[true, true, true, true, true, true, true, true, true, true, true, true, true, true, true, true, true, true, true, true, true, true, true, true, true, true, true, true, true, true, true, true, true, true, true, true, true, true, true, false, false, false, false] rfl rfl (by kernel_rfl) (fun _ _ _ h_ => h_) (guard_on 37 true 78 rfl rfl rfl) (fun w_ => xr_move (.int .i64 x39141) rfl rfl) ?_
               simp only [ls0, ls1]
               refine al_pure 39 80 (.int .i64 x34731) #[true, true, true, true, true, true, true, true, true, true, true, true, true, true, true, true, true, true, true, true, true, true, true, true, true, true, true, true, true, true, true, true, true, true, true, true, true, true, true, true, false, false, false] rfl rfl (by kernel_rfl) (fun _ _ _ h_ => h_) (guard_on 37 true 78 rfl rfl rfl) (fun w_ => xr_move (.int .i64 x34731) rfl rfl) ?_
               simp only [ls0, ls1]
               refine al_pure 40 81 (.bool (decide (x39141 > x34731))) #[true, true, true, true, true, true, true, true, true, true, true, true, true, true, true, true, true, true, true, true, true, true, true, true, true, true, true, true, true, true, true, true, true, true, true, true, true, true, true, true, true, false, false] rfl rfl (by kernel_rfl) (fun _ _ _ h_ => h_) (guard_on 37 true 78 rfl rfl rfl) (fun w_ => xr_bin (.int .i64 x39141) (.int .i64 x34731) (.bool (decide (x39141 > x34731))) rfl rfl rfl (B.gtr_i64 x39141 x34731)) ?_
               simp only [ls0, ls1]
               refine al_pure 41 82 (.bool (decide (x39141 > x34731))) #[true, true, true, true, true, true, true, true, true, true, true, true, true, true, true, true, true, true, true, true, true, true, true, true, true, true, true, true, true, true, true, true, true, true, true, true, true, true, true, true, true, true, false] rfl rfl (by kernel_rfl) (fun _ _ _ h_ => h_) (guard_on 26 false 67 rfl rfl rfl) (fun w_ => xr_pick true (.bool (decide (x39141 > x34731))) rfl rfl rfl) ?_
               simp only [ls0, ls1]
               refine al_pure 42 83 (.bool (decide (x39141 > x34731))) #[true, true, true, true, true, true, true, true, true, true, true, true, true, true, true, true, true, true, true, true, true, true, true, true, true, true, true, true, true, true, true, true, true, true, true, true, true, true, true, true, true, true, true] rfl rfl (by kernel_rfl) (fun _ _ _ h_ => h_) rfl (fun w_ => xr_pick false (.bool (decide (x39141 > x34731))) rfl rfl rfl) ?_
               simp only [ls0, ls1]
               refine al_end (by kernel_rfl) ?_
               (try simp only [Act.put, List.setIfInBounds_toArray, ls0, ls1])
               refine hK39259 _ _ ?_
               (try clear hK39259 K39259)
               by_cases c39681 : x39141 > x34731
               ·rw [if_pos c39681] at H
                (try rw [(decide_eq_true c39681)])
                (try simp only [Bool.not_true, Bool.not_false])
                refine wp_cond_true rfl ?_
                refine wp_seq_k fun K39682 hK39682 => ?_
                refine wl_region ?_
                refine st (.bool false) rfl rfl (xr_assign (.bool false) rfl rfl) ?_
                simp only [ls0, ls1]
                refine wl_end ?_
                (try simp only [Act.put, List.setIfInBounds_toArray, ls0, ls1])
                refine hK39682 _ _ ?_
                (try clear hK39682 K39682)
                refine wp_ret ?_
                (try simp only [Exit.inBlock, Exit.then, Exit.noGoto])
                (try simp only [Act.put, List.setIfInBounds_toArray, ls0, ls1])
                obtain rfl := Option.some.inj H
                refine bodyPost_ret (results_tmp rfl _ _ _) rfl ?_
                exact ⟨_, rfl, HS39146⟩
               ·rw [if_neg c39681] at H
                (try rw [(decide_eq_false c39681)])
                (try simp only [Bool.not_true, Bool.not_false])
                refine wp_cond_false rfl ?_
                refine wp_skip ?_
                (try simp only [Act.put, List.setIfInBounds_toArray, ls0, ls1])
                refine hK39156 _ _ ?_
                (try clear hK39156 K39156)
                refine wp_seq_k fun K39683 hK39683 => ?_
                refine wl_region ?_
                refine st (.int .i64 0) rfl rfl (xr_assign (.int .i64 0) rfl rfl) ?_
                simp only [ls0, ls1]
                refine wl_end ?_
                (try simp only [Act.put, List.setIfInBounds_toArray, ls0, ls1])
                refine hK39683 _ _ ?_
                (try clear hK39683 K39683)
                refine wp_block ?_
                (try simp only [Act.put, List.setIfInBounds_toArray, ls0, ls1])
                refine wp_looped (looped_ind (fun kq39790 a_ w39789 => ∃ (C39788 : Nat → Nat) (x39786 : Int) (g39787 : Nat → Value), a_ = ⟨#[(g39787 0), (g39787 1), (g39787 2), v34728, (g39787 4), (g39787 5), .slice A23610 t23604.length cp23611, .int .i64 x34731, .int .i64 x39141, .int .i64 x39786, (g39787 10), (g39787 11), (g39787 12), (g39787 13), (g39787 14), (g39787 15), (g39787 16), (g39787 17), (g39787 18), (g39787 19), (g39787 20), (g39787 21), (g39787 22), (g39787 23), (g39787 24), (g39787 25), (g39787 26), (g39787 27), (g39787 28), (g39787 29), (g39787 30), (g39787 31), (g39787 32), (g39787 33), (g39787 34), (g39787 35), (g39787 36), (g39787 37), (g39787 38), (g39787 39), (g39787 40), (g39787 41), (g39787 42), (g39787 43), (g39787 44), (g39787 45), (g39787 46), (g39787 47), (g39787 48), (g39787 49), (g39787 50), (g39787 51), (g39787 52), (g39787 53), (g39787 54), (g39787 55), (g39787 56), (g39787 57), (g39787 58), (g39787 59), (g39787 60), (g39787 61), (g39787 62), (g39787 63), (g39787 64), (g39787 65), (g39787 66), (g39787 67), v34728, .slice A23610 t23604.length cp23611, .int .i64 x39141, (g39787 71), .int .i64 (rd t23604 x39141), .slice A23610 t23604.length cp23611, .int .i64 x34731, (g39787 75), .int .i64 (rd t23604 x34731), .bool true, .bool true, .int .i64 x39141, .int .i64 x34731, .bool false, .bool false, (g39787 83), (g39787 84), (g39787 85), (g39787 86), (g39787 87), (g39787 88), (g39787 89), (g39787 90), (g39787 91), (g39787 92), (g39787 93), (g39787 94), (g39787 95), (g39787 96), (g39787 97), (g39787 98), (g39787 99), (g39787 100), (g39787 101), (g39787 102), (g39787 103), (g39787 104), (g39787 105), (g39787 106), (g39787 107), (g39787 108), (g39787 109), (g39787 110), (g39787 111), (g39787 112), (g39787 113), (g39787 114), (g39787 115), (g39787 116), (g39787 117), (g39787 118), (g39787 119), (g39787 120), (g39787 121), (g39787 122), (g39787 123), (g39787 124), (g39787 125), (g39787 126), (g39787 127), (g39787 128), (g39787 129), (g39787 130), (g39787 131), (g39787 132), (g39787 133), (g39787 134), (g39787 135), (g39787 136), (g39787 137), (g39787 138), (g39787 139), (g39787 140), (g39787 141), (g39787 142)], []⟩ ∧ Step c w C39788 w39789 [] ∧ kq39790 ≤ k39151 ∧ (Ft C39788 [0] w39789 (fun w_ => (Kd.ptr 47 k47).K w_ x34727 [v34728])) ∧ (Own C39788 11 w39789 (Kd.int .i64) 3 (.slice A23610 t23604.length cp23611) t23604) ∧ blazonlaw13_OrderSorts.l2 kq39790 t23604 x34727 x34731 x39141 x39786 = some r) ?step k39151 _ _ ?init)
                case init =>
                 exact ⟨_, 0, (fun q_ => List.getD [(g39142 0), (g39142 1), (g39142 2), undef, (g39142 4), (g39142 5), undef, undef, undef, undef, (g39142 10), (g39142 11), (g39142 12), (g39142 13), (g39142 14), (g39142 15), (g39142 16), (g39142 17), (g39142 18), (g39142 19), (g39142 20), (g39142 21), (g39142 22), (g39142 23), (g39142 24), (g39142 25), (g39142 26), (g39142 27), (g39142 28), (g39142 29), (g39142 30), (g39142 31), (g39142 32), (g39142 33), (g39142 34), .int .i64 x39141, .slice A23610 t23604.length cp23611, .int .i64 (t23604.length : Int), .bool true, (g39142 39), (g39142 40), v34728, .slice A23610 t23604.length cp23611, .int .i64 x34731, .pointer (some ((⟨g39311, 0, none⟩ : Addr).add ((x34731 : Int).toNat * 1))), .int .i64 (rd t23604 x34731), .slice A23610 t23604.length cp23611, .int .i64 x39141, .pointer (some ((⟨g39314, 0, none⟩ : Addr).add ((x39141 : Int).toNat * 1))), .int .i64 (rd t23604 x39141), .bool false, .bool false, undef, undef, undef, undef, undef, undef, undef, undef, undef, undef, undef, undef, undef, undef, .bool false, .bool false, undef, undef, undef, .pointer (some ((⟨g39670, 0, none⟩ : Addr).add ((x39141 : Int).toNat * 1))), undef, undef, undef, .pointer (some ((⟨g39672, 0, none⟩ : Addr).add ((x34731 : Int).toNat * 1))), undef, undef, undef, undef, undef, undef, undef, .bool false, (g39142 84), (g39142 85), (g39142 86), (g39142 87), (g39142 88), (g39142 89), (g39142 90), (g39142 91), (g39142 92), (g39142 93), (g39142 94), (g39142 95), (g39142 96), (g39142 97), (g39142 98), (g39142 99), (g39142 100), (g39142 101), (g39142 102), (g39142 103), (g39142 104), (g39142 105), (g39142 106), (g39142 107), (g39142 108), (g39142 109), (g39142 110), (g39142 111), (g39142 112), (g39142 113), (g39142 114), (g39142 115), (g39142 116), (g39142 117), (g39142 118), (g39142 119), (g39142 120), (g39142 121), (g39142 122), (g39142 123), (g39142 124), (g39142 125), (g39142 126), (g39142 127), (g39142 128), (g39142 129), (g39142 130), (g39142 131), (g39142 132), (g39142 133), (g39142 134), (g39142 135), (g39142 136), (g39142 137), (g39142 138), (g39142 139), (g39142 140), (g39142 141), (g39142 142)] q_ undef), rfl, HS39146, Nat.le_refl _, HJ39139, HJ39140, H⟩
                case step =>
                 intro kq39790 ih39793 a39794 w39789 hr39795
                 obtain ⟨C39788, x39786, g39787, rfl, HS39791, hk39792, HJ39784, HJ39785, H⟩ := hr39795
                 refine looped_round ?_
                 cases kq39790 with
                 | zero => exact absurd H (by simp [blazonlaw13_OrderSorts.l2])
                 | succ k39796 =>
                  simp only [blazonlaw13_OrderSorts.l2] at H
                  refine wp_seq_k fun K39797 hK39797 => ?_
                  refine wp_seq_k fun K39798 hK39798 => ?_
                  refine wl_region ?_
                  refine st (.int .i64 x39786) rfl rfl (xr_move (.int .i64 x39786) rfl rfl) ?_
                  simp only [ls0, ls1]
                  refine st (.slice A23610 t23604.length cp23611) rfl rfl (xr_move (.slice A23610 t23604.length cp23611) rfl rfl) ?_
                  simp only [ls0, ls1]
                  refine st (.int .i64 (t23604.length : Int)) rfl rfl (xr_builtin #[.slice A23610 t23604.length cp23611] (.int .i64 (t23604.length : Int)) rfl (by simp only [List.map_toArray, List.map_cons, List.map_nil]; first | done | rfl) (by first | rfl | (go_simp; done) | (go_simp; rfl) | (go_simp; exact i64_w _) | (go_simp; exact i32_w _))) ?_
                  simp only [ls0, ls1]
                  refine st (.bool (decide (x39786 < (t23604.length : Int)))) rfl rfl (xr_bin (.int .i64 x39786) (.int .i64 (t23604.length : Int)) (.bool (decide (x39786 < (t23604.length : Int)))) rfl rfl rfl (B.lss_i64 x39786 (t23604.length : Int))) ?_
                  simp only [ls0, ls1]
                  refine wl_end ?_
                  (try simp only [Act.put, List.setIfInBounds_toArray, ls0, ls1])
                  refine hK39798 _ _ ?_
                  (try clear hK39798 K39798)
                  by_cases c39799 : x39786 < (t23604.length : Int)
                  ·rw [if_pos c39799] at H
                   (try rw [(decide_eq_true c39799)])
                   (try simp only [Bool.not_true, Bool.not_false])
                   refine wp_cond_true rfl ?_
                   refine wp_skip ?_
                   (try simp only [Act.put, List.setIfInBounds_toArray, ls0, ls1])
                   refine hK39797 _ _ ?_
                   (try clear hK39797 K39797)
                   refine wp_seq_k fun K39800 hK39800 => ?_
                   refine wp_block ?_
                   refine wp_seq_k fun K39801 hK39801 => ?_
                   refine wl_region ?_
                   refine st (v34728) rfl rfl (xr_move (v34728) rfl rfl) ?_
                   simp only [ls0, ls1]
                   refine st (.int .i64 x34731) rfl rfl (xr_move (.int .i64 x34731) rfl rfl) ?_
                   simp only [ls0, ls1]
                   refine st (.int .i64 x39141) rfl rfl (xr_move (.int .i64 x39141) rfl rfl) ?_
                   simp only [ls0, ls1]
                   obtain ⟨t39822, A39823, H⟩ := Option.bind_eq_some_iff.mp H
                   (try dsimp only at H)
                   refine st_call #[v34728, .int .i64 x34731, .int .i64 x39141] rfl rfl Try.func11 (by kernel_rfl) rfl rfl (by simp only [List.map_toArray, List.map_cons, List.map_nil]; first | done | rfl) ?_
                   refine (order_Order_Most.calls v34728 x34727 x34731 x39141 t39822  (fun z_ => pal [(0, 0)] (C39788 z_)) w39789 (fun _ => pal_lt rfl _) (Ft.arg HJ39784 rfl) A39823).mono ?_
                   rintro _ w39825 ⟨C39826, rfl, hs39827⟩
                   refine ⟨_, rfl, ?_⟩
                   replace hs39827 := Step.lift (U := [(0, 0)]) hs39827 [] rfl rfl
                   generalize up C39788 C39826 w39789.heap.size [(0, 0)] = C39826_ at hs39827
                   replace HJ39784 := HJ39784.thru hs39827 rfl
                   replace HJ39785 := HJ39785.thru hs39827 rfl
                   replace HS39791 := HS39791.trans hs39827 hc rfl
                   (try simp only [Act.put, List.setIfInBounds_toArray, ls0, ls1])
                   refine st (.bool t39822) rfl rfl (xr_move (.bool t39822) rfl rfl) ?_
                   simp only [ls0, ls1]
                   by_cases c39828 : t39822 = true
                   ·rw [if_pos c39828] at H
                    (try rw [c39828])
                    (try simp only [Bool.not_true, Bool.not_false])
                    refine on_guard (guard_on 4 true 94 rfl rfl rfl) ?_
                    refine st (v34728) rfl rfl (xr_move (v34728) rfl rfl) ?_
                    simp only [ls0, ls1]
                    refine on_guard (guard_on 4 true 94 rfl rfl rfl) ?_
                    refine st (.int .i64 x39141) rfl rfl (xr_move (.int .i64 x39141) rfl rfl) ?_
                    simp only [ls0, ls1]
                    refine on_guard (guard_on 4 true 94 rfl rfl rfl) ?_
                    refine st (.int .i64 x39786) rfl rfl (xr_move (.int .i64 x39786) rfl rfl) ?_
                    simp only [ls0, ls1]
                    refine on_guard (guard_on 4 true 94 rfl rfl rfl) ?_
                    obtain ⟨t39829, A39830, H⟩ := Option.bind_eq_some_iff.mp H
                    (try dsimp only at H)
                    refine st_call #[v34728, .int .i64 x39141, .int .i64 x39786] rfl rfl Try.func11 (by kernel_rfl) rfl rfl (by simp only [List.map_toArray, List.map_cons, List.map_nil]; first | done | rfl) ?_
                    refine (order_Order_Most.calls v34728 x34727 x39141 x39786 t39829  (fun z_ => pal [(0, 0)] (C39826_ z_)) w39825 (fun _ => pal_lt rfl _) (Ft.arg HJ39784 rfl) A39830).mono ?_
                    rintro _ w39832 ⟨C39833, rfl, hs39834⟩
                    refine ⟨_, rfl, ?_⟩
                    replace hs39834 := Step.lift (U := [(0, 0)]) hs39834 [] rfl rfl
                    generalize up C39826_ C39833 w39825.heap.size [(0, 0)] = C39833_ at hs39834
                    replace HJ39784 := HJ39784.thru hs39834 rfl
                    replace HJ39785 := HJ39785.thru hs39834 rfl
                    replace HS39791 := HS39791.trans hs39834 hc rfl
                    (try simp only [Act.put, List.setIfInBounds_toArray, ls0, ls1])
                    refine st (.bool t39829) rfl rfl (xr_pick true (.bool t39829) rfl rfl rfl) ?_
                    simp only [ls0, ls1]
                    refine st (.bool t39829) rfl rfl (xr_move (.bool t39829) rfl rfl) ?_
                    simp only [ls0, ls1]
                    by_cases c39835 : t39829 = true
                    ·rw [if_pos c39835] at H
                     (try rw [c39835])
                     (try simp only [Bool.not_true, Bool.not_false])
                     refine on_guard (guard_on 10 true 100 rfl rfl rfl) ?_
                     refine st (v34728) rfl rfl (xr_move (v34728) rfl rfl) ?_
                     simp only [ls0, ls1]
                     refine on_guard (guard_on 10 true 100 rfl rfl rfl) ?_
                     refine st (.int .i64 x34731) rfl rfl (xr_move (.int .i64 x34731) rfl rfl) ?_
                     simp only [ls0, ls1]
                     refine on_guard (guard_on 10 true 100 rfl rfl rfl) ?_
                     refine st (.int .i64 x39786) rfl rfl (xr_move (.int .i64 x39786) rfl rfl) ?_
                     simp only [ls0, ls1]
                     refine on_guard (guard_on 10 true 100 rfl rfl rfl) ?_
                     obtain ⟨t39836, A39837, H⟩ := Option.bind_eq_some_iff.mp H
                     (try dsimp only at H)
                     refine st_call #[v34728, .int .i64 x34731, .int .i64 x39786] rfl rfl Try.func11 (by kernel_rfl) rfl rfl (by simp only [List.map_toArray, List.map_cons, List.map_nil]; first | done | rfl) ?_
                     refine (order_Order_Most.calls v34728 x34727 x34731 x39786 t39836  (fun z_ => pal [(0, 0)] (C39833_ z_)) w39832 (fun _ => pal_lt rfl _) (Ft.arg HJ39784 rfl) A39837).mono ?_
                     rintro _ w39839 ⟨C39840, rfl, hs39841⟩
                     refine ⟨_, rfl, ?_⟩
                     replace hs39841 := Step.lift (U := [(0, 0)]) hs39841 [] rfl rfl
                     generalize up C39833_ C39840 w39832.heap.size [(0, 0)] = C39840_ at hs39841
                     replace HJ39784 := HJ39784.thru hs39841 rfl
                     replace HJ39785 := HJ39785.thru hs39841 rfl
                     replace HS39791 := HS39791.trans hs39841 hc rfl
                     (try simp only [Act.put, List.setIfInBounds_toArray, ls0, ls1])
                     refine on_guard (guard_on 10 true 100 rfl rfl rfl) ?_
                     refine st (.bool (!t39836)) rfl rfl (xr_un (.bool t39836) (.bool (!t39836)) rfl rfl (by first | rfl | (go_simp; done) | (go_simp; rfl) | (go_simp; exact i64_w _) | (go_simp; exact i32_w _))) ?_
                     simp only [ls0, ls1]
                     refine st (.bool (!t39836)) rfl rfl (xr_pick true (.bool (!t39836)) rfl rfl rfl) ?_
                     simp only [ls0, ls1]
                     refine wl_end ?_
                     (try simp only [Act.put, List.setIfInBounds_toArray, ls0, ls1])
                     refine hK39801 _ _ ?_
                     (try clear hK39801 K39801)
                     by_cases c39842 : t39836 = true
                     ·rw [if_pos c39842] at H
                      (try rw [c39842])
                      (try simp only [Bool.not_true, Bool.not_false])
                      refine wp_cond_false rfl ?_
                      refine wp_skip ?_
                      (try simp only [Act.put, List.setIfInBounds_toArray, ls0, ls1])
                      refine hK39800 _ _ ?_
                      (try clear hK39800 K39800)
                      refine wl_region ?_
                      refine st (.int .i64 x39786) rfl rfl (xr_move (.int .i64 x39786) rfl rfl) ?_
                      simp only [ls0, ls1]
                      refine st (.int .i64 (wrap64 (x39786 + 1))) rfl rfl (xr_bin (.int .i64 x39786) (.int .i64 1) (.int .i64 (wrap64 (x39786 + 1))) rfl rfl rfl (B.add_i64 x39786 1)) ?_
                      simp only [ls0, ls1]
                      refine st (.int .i64 (wrap64 (x39786 + 1))) rfl rfl (xr_assign (.int .i64 (wrap64 (x39786 + 1))) rfl rfl) ?_
                      simp only [ls0, ls1]
                      refine wl_end ?_
                      (try simp only [Act.put, List.setIfInBounds_toArray, ls0, ls1])
                      exact ih39793 k39796 (by omega) _ _ ⟨_, wrap64 (x39786 + 1), (fun q_ => List.getD [(g39787 0), (g39787 1), (g39787 2), undef, (g39787 4), (g39787 5), undef, undef, undef, undef, (g39787 10), (g39787 11), (g39787 12), (g39787 13), (g39787 14), (g39787 15), (g39787 16), (g39787 17), (g39787 18), (g39787 19), (g39787 20), (g39787 21), (g39787 22), (g39787 23), (g39787 24), (g39787 25), (g39787 26), (g39787 27), (g39787 28), (g39787 29), (g39787 30), (g39787 31), (g39787 32), (g39787 33), (g39787 34), (g39787 35), (g39787 36), (g39787 37), (g39787 38), (g39787 39), (g39787 40), (g39787 41), (g39787 42), (g39787 43), (g39787 44), (g39787 45), (g39787 46), (g39787 47), (g39787 48), (g39787 49), (g39787 50), (g39787 51), (g39787 52), (g39787 53), (g39787 54), (g39787 55), (g39787 56), (g39787 57), (g39787 58), (g39787 59), (g39787 60), (g39787 61), (g39787 62), (g39787 63), (g39787 64), (g39787 65), (g39787 66), (g39787 67), undef, undef, undef, (g39787 71), undef, undef, undef, (g39787 75), undef, undef, undef, undef, undef, undef, undef, (g39787 83), .int .i64 x39786, .slice A23610 t23604.length cp23611, .int .i64 (t23604.length : Int), .bool true, .int .i64 x39786, .int .i64 (wrap64 (x39786 + 1)), v34728, .int .i64 x34731, .int .i64 x39141, .bool true, .bool true, v34728, .int .i64 x39141, .int .i64 x39786, .bool true, .bool true, .bool true, v34728, .int .i64 x34731, .int .i64 x39786, .bool true, .bool false, .bool false, (g39787 107), (g39787 108), (g39787 109), (g39787 110), (g39787 111), (g39787 112), (g39787 113), (g39787 114), (g39787 115), (g39787 116), (g39787 117), (g39787 118), (g39787 119), (g39787 120), (g39787 121), (g39787 122), (g39787 123), (g39787 124), (g39787 125), (g39787 126), (g39787 127), (g39787 128), (g39787 129), (g39787 130), (g39787 131), (g39787 132), (g39787 133), (g39787 134), (g39787 135), (g39787 136), (g39787 137), (g39787 138), (g39787 139), (g39787 140), (g39787 141), (g39787 142)] q_ undef), rfl, HS39791, (by omega), HJ39784, HJ39785, H⟩
                     ·rw [if_neg c39842] at H
                      (try rw [(Bool.eq_false_iff.mpr c39842)])
                      (try simp only [Bool.not_true, Bool.not_false])
                      refine wp_cond_true rfl ?_
                      refine wp_seq_k fun K39843 hK39843 => ?_
                      refine wl_region ?_
                      refine st (.bool false) rfl rfl (xr_assign (.bool false) rfl rfl) ?_
                      simp only [ls0, ls1]
                      refine wl_end ?_
                      (try simp only [Act.put, List.setIfInBounds_toArray, ls0, ls1])
                      refine hK39843 _ _ ?_
                      (try clear hK39843 K39843)
                      refine wp_ret ?_
                      (try simp only [Exit.inBlock, Exit.then, Exit.noGoto])
                      (try simp only [Act.put, List.setIfInBounds_toArray, ls0, ls1])
                      obtain rfl := Option.some.inj H
                      refine bodyPost_ret (results_tmp rfl _ _ _) rfl ?_
                      exact ⟨_, rfl, HS39791⟩
                    ·rw [if_neg c39835] at H
                     (try rw [(Bool.eq_false_iff.mpr c39835)])
                     (try simp only [Bool.not_true, Bool.not_false])
                     refine sk_guard (guard_off 10 true 100 rfl rfl false (by decide) rfl) rfl ?_
                     simp only [ls0, ls1]
                     refine sk_guard (guard_off 10 true 100 rfl rfl false (by decide) rfl) rfl ?_
                     simp only [ls0, ls1]
                     refine sk_guard (guard_off 10 true 100 rfl rfl false (by decide) rfl) rfl ?_
                     simp only [ls0, ls1]
                     refine sk_guard (guard_off 10 true 100 rfl rfl false (by decide) rfl) rfl ?_
                     simp only [ls0, ls1]
                     refine sk_guard (guard_off 10 true 100 rfl rfl false (by decide) rfl) rfl ?_
                     simp only [ls0, ls1]
                     refine st (.bool false) rfl rfl (xr_pick false (.bool false) rfl rfl rfl) ?_
                     simp only [ls0, ls1]
                     refine wl_end ?_
                     (try simp only [Act.put, List.setIfInBounds_toArray, ls0, ls1])
                     refine hK39801 _ _ ?_
                     (try clear hK39801 K39801)
                     refine wp_cond_false rfl ?_
                     refine wp_skip ?_
                     (try simp only [Act.put, List.setIfInBounds_toArray, ls0, ls1])
                     refine hK39800 _ _ ?_
                     (try clear hK39800 K39800)
                     refine wl_region ?_
                     refine st (.int .i64 x39786) rfl rfl (xr_move (.int .i64 x39786) rfl rfl) ?_
                     simp only [ls0, ls1]
                     refine st (.int .i64 (wrap64 (x39786 + 1))) rfl rfl (xr_bin (.int .i64 x39786) (.int .i64 1) (.int .i64 (wrap64 (x39786 + 1))) rfl rfl rfl (B.add_i64 x39786 1)) ?_
                     simp only [ls0, ls1]
                     refine st (.int .i64 (wrap64 (x39786 + 1))) rfl rfl (xr_assign (.int .i64 (wrap64 (x39786 + 1))) rfl rfl) ?_
                     simp only [ls0, ls1]
                     refine wl_end ?_
                     (try simp only [Act.put, List.setIfInBounds_toArray, ls0, ls1])
                     exact ih39793 k39796 (by omega) _ _ ⟨_, wrap64 (x39786 + 1), (fun q_ => List.getD [(g39787 0), (g39787 1), (g39787 2), undef, (g39787 4), (g39787 5), undef, undef, undef, undef, (g39787 10), (g39787 11), (g39787 12), (g39787 13), (g39787 14), (g39787 15), (g39787 16), (g39787 17), (g39787 18), (g39787 19), (g39787 20), (g39787 21), (g39787 22), (g39787 23), (g39787 24), (g39787 25), (g39787 26), (g39787 27), (g39787 28), (g39787 29), (g39787 30), (g39787 31), (g39787 32), (g39787 33), (g39787 34), (g39787 35), (g39787 36), (g39787 37), (g39787 38), (g39787 39), (g39787 40), (g39787 41), (g39787 42), (g39787 43), (g39787 44), (g39787 45), (g39787 46), (g39787 47), (g39787 48), (g39787 49), (g39787 50), (g39787 51), (g39787 52), (g39787 53), (g39787 54), (g39787 55), (g39787 56), (g39787 57), (g39787 58), (g39787 59), (g39787 60), (g39787 61), (g39787 62), (g39787 63), (g39787 64), (g39787 65), (g39787 66), (g39787 67), undef, undef, undef, (g39787 71), undef, undef, undef, (g39787 75), undef, undef, undef, undef, undef, undef, undef, (g39787 83), .int .i64 x39786, .slice A23610 t23604.length cp23611, .int .i64 (t23604.length : Int), .bool true, .int .i64 x39786, .int .i64 (wrap64 (x39786 + 1)), v34728, .int .i64 x34731, .int .i64 x39141, .bool true, .bool true, v34728, .int .i64 x39141, .int .i64 x39786, .bool false, .bool false, .bool false, undef, undef, undef, undef, undef, .bool false, (g39787 107), (g39787 108), (g39787 109), (g39787 110), (g39787 111), (g39787 112), (g39787 113), (g39787 114), (g39787 115), (g39787 116), (g39787 117), (g39787 118), (g39787 119), (g39787 120), (g39787 121), (g39787 122), (g39787 123), (g39787 124), (g39787 125), (g39787 126), (g39787 127), (g39787 128), (g39787 129), (g39787 130), (g39787 131), (g39787 132), (g39787 133), (g39787 134), (g39787 135), (g39787 136), (g39787 137), (g39787 138), (g39787 139), (g39787 140), (g39787 141), (g39787 142)] q_ undef), rfl, HS39791, (by omega), HJ39784, HJ39785, H⟩
                   ·rw [if_neg c39828] at H
                    (try rw [(Bool.eq_false_iff.mpr c39828)])
                    (try simp only [Bool.not_true, Bool.not_false])
                    refine sk_guard (guard_off 4 true 94 rfl rfl false (by decide) rfl) rfl ?_
                    simp only [ls0, ls1]
                    refine sk_guard (guard_off 4 true 94 rfl rfl false (by decide) rfl) rfl ?_
                    simp only [ls0, ls1]
                    refine sk_guard (guard_off 4 true 94 rfl rfl false (by decide) rfl) rfl ?_
                    simp only [ls0, ls1]
                    refine sk_guard (guard_off 4 true 94 rfl rfl false (by decide) rfl) rfl ?_
                    simp only [ls0, ls1]
                    refine st (.bool false) rfl rfl (xr_pick false (.bool false) rfl rfl rfl) ?_
                    simp only [ls0, ls1]
                    refine st (.bool false) rfl rfl (xr_move (.bool false) rfl rfl) ?_
                    simp only [ls0, ls1]
                    refine sk_guard (guard_off 10 true 100 rfl rfl false (by decide) rfl) rfl ?_
                    simp only [ls0, ls1]
                    refine sk_guard (guard_off 10 true 100 rfl rfl false (by decide) rfl) rfl ?_
                    simp only [ls0, ls1]
                    refine sk_guard (guard_off 10 true 100 rfl rfl false (by decide) rfl) rfl ?_
                    simp only [ls0, ls1]
                    refine sk_guard (guard_off 10 true 100 rfl rfl false (by decide) rfl) rfl ?_
                    simp only [ls0, ls1]
                    refine sk_guard (guard_off 10 true 100 rfl rfl false (by decide) rfl) rfl ?_
                    simp only [ls0, ls1]
                    refine st (.bool false) rfl rfl (xr_pick false (.bool false) rfl rfl rfl) ?_
                    simp only [ls0, ls1]
                    refine wl_end ?_
                    (try simp only [Act.put, List.setIfInBounds_toArray, ls0, ls1])
                    refine hK39801 _ _ ?_
                    (try clear hK39801 K39801)
                    refine wp_cond_false rfl ?_
                    refine wp_skip ?_
                    (try simp only [Act.put, List.setIfInBounds_toArray, ls0, ls1])
                    refine hK39800 _ _ ?_
                    (try clear hK39800 K39800)
                    refine wl_region ?_
                    refine st (.int .i64 x39786) rfl rfl (xr_move (.int .i64 x39786) rfl rfl) ?_
                    simp only [ls0, ls1]
                    refine st (.int .i64 (wrap64 (x39786 + 1))) rfl rfl (xr_bin (.int .i64 x39786) (.int .i64 1) (.int .i64 (wrap64 (x39786 + 1))) rfl rfl rfl (B.add_i64 x39786 1)) ?_
                    simp only [ls0, ls1]
                    refine st (.int .i64 (wrap64 (x39786 + 1))) rfl rfl (xr_assign (.int .i64 (wrap64 (x39786 + 1))) rfl rfl) ?_
                    simp only [ls0, ls1]
                    refine wl_end ?_
                    (try simp only [Act.put, List.setIfInBounds_toArray, ls0, ls1])
                    exact ih39793 k39796 (by omega) _ _ ⟨_, wrap64 (x39786 + 1), (fun q_ => List.getD [(g39787 0), (g39787 1), (g39787 2), undef, (g39787 4), (g39787 5), undef, undef, undef, undef, (g39787 10), (g39787 11), (g39787 12), (g39787 13), (g39787 14), (g39787 15), (g39787 16), (g39787 17), (g39787 18), (g39787 19), (g39787 20), (g39787 21), (g39787 22), (g39787 23), (g39787 24), (g39787 25), (g39787 26), (g39787 27), (g39787 28), (g39787 29), (g39787 30), (g39787 31), (g39787 32), (g39787 33), (g39787 34), (g39787 35), (g39787 36), (g39787 37), (g39787 38), (g39787 39), (g39787 40), (g39787 41), (g39787 42), (g39787 43), (g39787 44), (g39787 45), (g39787 46), (g39787 47), (g39787 48), (g39787 49), (g39787 50), (g39787 51), (g39787 52), (g39787 53), (g39787 54), (g39787 55), (g39787 56), (g39787 57), (g39787 58), (g39787 59), (g39787 60), (g39787 61), (g39787 62), (g39787 63), (g39787 64), (g39787 65), (g39787 66), (g39787 67), undef, undef, undef, (g39787 71), undef, undef, undef, (g39787 75), undef, undef, undef, undef, undef, undef, undef, (g39787 83), .int .i64 x39786, .slice A23610 t23604.length cp23611, .int .i64 (t23604.length : Int), .bool true, .int .i64 x39786, .int .i64 (wrap64 (x39786 + 1)), v34728, .int .i64 x34731, .int .i64 x39141, .bool false, .bool false, undef, undef, undef, undef, .bool false, .bool false, undef, undef, undef, undef, undef, .bool false, (g39787 107), (g39787 108), (g39787 109), (g39787 110), (g39787 111), (g39787 112), (g39787 113), (g39787 114), (g39787 115), (g39787 116), (g39787 117), (g39787 118), (g39787 119), (g39787 120), (g39787 121), (g39787 122), (g39787 123), (g39787 124), (g39787 125), (g39787 126), (g39787 127), (g39787 128), (g39787 129), (g39787 130), (g39787 131), (g39787 132), (g39787 133), (g39787 134), (g39787 135), (g39787 136), (g39787 137), (g39787 138), (g39787 139), (g39787 140), (g39787 141), (g39787 142)] q_ undef), rfl, HS39791, (by omega), HJ39784, HJ39785, H⟩
                  ·rw [if_neg c39799] at H
                   (try rw [(decide_eq_false c39799)])
                   (try simp only [Bool.not_true, Bool.not_false])
                   refine wp_cond_false rfl ?_
                   refine wp_exit ?_
                   (try simp only [Act.put, List.setIfInBounds_toArray, ls0, ls1])
                   refine hK39155 _ _ ?_
                   (try clear hK39155 K39155)
                   refine wl_region ?_
                   refine st (.int .i64 x39141) rfl rfl (xr_move (.int .i64 x39141) rfl rfl) ?_
                   simp only [ls0, ls1]
                   refine st (.int .i64 (wrap64 (x39141 + 1))) rfl rfl (xr_bin (.int .i64 x39141) (.int .i64 1) (.int .i64 (wrap64 (x39141 + 1))) rfl rfl rfl (B.add_i64 x39141 1)) ?_
                   simp only [ls0, ls1]
                   refine st (.int .i64 (wrap64 (x39141 + 1))) rfl rfl (xr_assign (.int .i64 (wrap64 (x39141 + 1))) rfl rfl) ?_
                   simp only [ls0, ls1]
                   refine wl_end ?_
                   (try simp only [Act.put, List.setIfInBounds_toArray, ls0, ls1])
                   exact ih39148 k39796 (by omega) _ _ ⟨_, wrap64 (x39141 + 1), (fun q_ => List.getD [(g39787 0), (g39787 1), (g39787 2), undef, (g39787 4), (g39787 5), undef, undef, undef, .int .i64 x39786, (g39787 10), (g39787 11), (g39787 12), (g39787 13), (g39787 14), (g39787 15), (g39787 16), (g39787 17), (g39787 18), (g39787 19), (g39787 20), (g39787 21), (g39787 22), (g39787 23), (g39787 24), (g39787 25), (g39787 26), (g39787 27), (g39787 28), (g39787 29), (g39787 30), (g39787 31), (g39787 32), (g39787 33), (g39787 34), (g39787 35), (g39787 36), (g39787 37), (g39787 38), .int .i64 x39141, .int .i64 (wrap64 (x39141 + 1)), (g39787 41), (g39787 42), (g39787 43), (g39787 44), (g39787 45), (g39787 46), (g39787 47), (g39787 48), (g39787 49), (g39787 50), (g39787 51), (g39787 52), (g39787 53), (g39787 54), (g39787 55), (g39787 56), (g39787 57), (g39787 58), (g39787 59), (g39787 60), (g39787 61), (g39787 62), (g39787 63), (g39787 64), (g39787 65), (g39787 66), (g39787 67), v34728, .slice A23610 t23604.length cp23611, .int .i64 x39141, (g39787 71), .int .i64 (rd t23604 x39141), .slice A23610 t23604.length cp23611, .int .i64 x34731, (g39787 75), .int .i64 (rd t23604 x34731), .bool true, .bool true, .int .i64 x39141, .int .i64 x34731, .bool false, .bool false, (g39787 83), .int .i64 x39786, .slice A23610 t23604.length cp23611, .int .i64 (t23604.length : Int), .bool false, (g39787 88), (g39787 89), (g39787 90), (g39787 91), (g39787 92), (g39787 93), (g39787 94), (g39787 95), (g39787 96), (g39787 97), (g39787 98), (g39787 99), (g39787 100), (g39787 101), (g39787 102), (g39787 103), (g39787 104), (g39787 105), (g39787 106), (g39787 107), (g39787 108), (g39787 109), (g39787 110), (g39787 111), (g39787 112), (g39787 113), (g39787 114), (g39787 115), (g39787 116), (g39787 117), (g39787 118), (g39787 119), (g39787 120), (g39787 121), (g39787 122), (g39787 123), (g39787 124), (g39787 125), (g39787 126), (g39787 127), (g39787 128), (g39787 129), (g39787 130), (g39787 131), (g39787 132), (g39787 133), (g39787 134), (g39787 135), (g39787 136), (g39787 137), (g39787 138), (g39787 139), (g39787 140), (g39787 141), (g39787 142)] q_ undef), rfl, HS39791, (by omega), HJ39784, HJ39785, H⟩
              ·rw [if_neg c39680] at H
               (try rw [(Bool.eq_false_iff.mpr c39680)])
               (try simp only [Bool.not_true, Bool.not_false])
               refine al_off 38 79 #[true, true, true, true, true, true, true, true, true, true, true, true, true, true, true, true, true, true, true, true, true, true, true, true, true, true, true, true, true, true, true, true, true, true, true, true, true, true, true, false, false, false, false] rfl rfl (by kernel_rfl) (fun _ _ _ h_ => h_) (guard_off 37 true 78 rfl rfl false (by decide) rfl) ?_
               simp only [ls0, ls1]
               refine al_off 39 80 #[true, true, true, true, true, true, true, true, true, true, true, true, true, true, true, true, true, true, true, true, true, true, true, true, true, true, true, true, true, true, true, true, true, true, true, true, true, true, true, true, false, false, false] rfl rfl (by kernel_rfl) (fun _ _ _ h_ => h_) (guard_off 37 true 78 rfl rfl false (by decide) rfl) ?_
               simp only [ls0, ls1]
               refine al_off 40 81 #[true, true, true, true, true, true, true, true, true, true, true, true, true, true, true, true, true, true, true, true, true, true, true, true, true, true, true, true, true, true, true, true, true, true, true, true, true, true, true, true, true, false, false] rfl rfl (by kernel_rfl) (fun _ _ _ h_ => h_) (guard_off 37 true 78 rfl rfl false (by decide) rfl) ?_
               simp only [ls0, ls1]
               refine al_pure 41 82 (.bool false) #[true, true, true, true, true, true, true, true, true, true, true, true, true, true, true, true, true, true, true, true, true, true, true, true, true, true, true, true, true, true, true, true, true, true, true, true, true, true, true, true, true, true, false] rfl rfl (by kernel_rfl) (fun _ _ _ h_ => h_) (guard_on 26 false 67 rfl rfl rfl) (fun w_ => xr_pick false (.bool false) rfl rfl rfl) ?_
               simp only [ls0, ls1]
               refine al_pure 42 83 (.bool false) #[true, true, true, true, true, true, true, true, true, true, true, true, true, true, true, true, true, true, true, true, true, true, true, true, true, true, true, true, true, true, true, true, true, true, true, true, true, true, true, true, true, true, true] rfl rfl (by kernel_rfl) (fun _ _ _ h_ => h_) rfl (fun w_ => xr_pick false (.bool false) rfl rfl rfl) ?_
               simp only [ls0, ls1]
               refine al_end (by kernel_rfl) ?_
               (try simp only [Act.put, List.setIfInBounds_toArray, ls0, ls1])
               refine hK39259 _ _ ?_
               (try clear hK39259 K39259)
               refine wp_cond_false rfl ?_
               refine wp_skip ?_
               (try simp only [Act.put, List.setIfInBounds_toArray, ls0, ls1])
               refine hK39156 _ _ ?_
               (try clear hK39156 K39156)
               refine wp_seq_k fun K39844 hK39844 => ?_
               refine wl_region ?_
               refine st (.int .i64 0) rfl rfl (xr_assign (.int .i64 0) rfl rfl) ?_
               simp only [ls0, ls1]
               refine wl_end ?_
               (try simp only [Act.put, List.setIfInBounds_toArray, ls0, ls1])
               refine hK39844 _ _ ?_
               (try clear hK39844 K39844)
               refine wp_block ?_
               (try simp only [Act.put, List.setIfInBounds_toArray, ls0, ls1])
               refine wp_looped (looped_ind (fun kq39951 a_ w39950 => ∃ (C39949 : Nat → Nat) (x39947 : Int) (g39948 : Nat → Value), a_ = ⟨#[(g39948 0), (g39948 1), (g39948 2), v34728, (g39948 4), (g39948 5), .slice A23610 t23604.length cp23611, .int .i64 x34731, .int .i64 x39141, .int .i64 x39947, (g39948 10), (g39948 11), (g39948 12), (g39948 13), (g39948 14), (g39948 15), (g39948 16), (g39948 17), (g39948 18), (g39948 19), (g39948 20), (g39948 21), (g39948 22), (g39948 23), (g39948 24), (g39948 25), (g39948 26), (g39948 27), (g39948 28), (g39948 29), (g39948 30), (g39948 31), (g39948 32), (g39948 33), (g39948 34), (g39948 35), (g39948 36), (g39948 37), (g39948 38), (g39948 39), (g39948 40), (g39948 41), (g39948 42), (g39948 43), (g39948 44), (g39948 45), (g39948 46), (g39948 47), (g39948 48), (g39948 49), (g39948 50), (g39948 51), (g39948 52), (g39948 53), (g39948 54), (g39948 55), (g39948 56), (g39948 57), (g39948 58), (g39948 59), (g39948 60), (g39948 61), (g39948 62), (g39948 63), (g39948 64), (g39948 65), (g39948 66), (g39948 67), v34728, .slice A23610 t23604.length cp23611, .int .i64 x39141, (g39948 71), .int .i64 (rd t23604 x39141), .slice A23610 t23604.length cp23611, .int .i64 x34731, (g39948 75), .int .i64 (rd t23604 x34731), .bool false, .bool false, (g39948 79), (g39948 80), (g39948 81), .bool false, (g39948 83), (g39948 84), (g39948 85), (g39948 86), (g39948 87), (g39948 88), (g39948 89), (g39948 90), (g39948 91), (g39948 92), (g39948 93), (g39948 94), (g39948 95), (g39948 96), (g39948 97), (g39948 98), (g39948 99), (g39948 100), (g39948 101), (g39948 102), (g39948 103), (g39948 104), (g39948 105), (g39948 106), (g39948 107), (g39948 108), (g39948 109), (g39948 110), (g39948 111), (g39948 112), (g39948 113), (g39948 114), (g39948 115), (g39948 116), (g39948 117), (g39948 118), (g39948 119), (g39948 120), (g39948 121), (g39948 122), (g39948 123), (g39948 124), (g39948 125), (g39948 126), (g39948 127), (g39948 128), (g39948 129), (g39948 130), (g39948 131), (g39948 132), (g39948 133), (g39948 134), (g39948 135), (g39948 136), (g39948 137), (g39948 138), (g39948 139), (g39948 140), (g39948 141), (g39948 142)], []⟩ ∧ Step c w C39949 w39950 [] ∧ kq39951 ≤ k39151 ∧ (Ft C39949 [0] w39950 (fun w_ => (Kd.ptr 47 k47).K w_ x34727 [v34728])) ∧ (Own C39949 11 w39950 (Kd.int .i64) 3 (.slice A23610 t23604.length cp23611) t23604) ∧ blazonlaw13_OrderSorts.l3 kq39951 t23604 x34727 x34731 x39141 x39947 = some r) ?step k39151 _ _ ?init)
               case init =>
                exact ⟨_, 0, (fun q_ => List.getD [(g39142 0), (g39142 1), (g39142 2), undef, (g39142 4), (g39142 5), undef, undef, undef, undef, (g39142 10), (g39142 11), (g39142 12), (g39142 13), (g39142 14), (g39142 15), (g39142 16), (g39142 17), (g39142 18), (g39142 19), (g39142 20), (g39142 21), (g39142 22), (g39142 23), (g39142 24), (g39142 25), (g39142 26), (g39142 27), (g39142 28), (g39142 29), (g39142 30), (g39142 31), (g39142 32), (g39142 33), (g39142 34), .int .i64 x39141, .slice A23610 t23604.length cp23611, .int .i64 (t23604.length : Int), .bool true, (g39142 39), (g39142 40), v34728, .slice A23610 t23604.length cp23611, .int .i64 x34731, .pointer (some ((⟨g39311, 0, none⟩ : Addr).add ((x34731 : Int).toNat * 1))), .int .i64 (rd t23604 x34731), .slice A23610 t23604.length cp23611, .int .i64 x39141, .pointer (some ((⟨g39314, 0, none⟩ : Addr).add ((x39141 : Int).toNat * 1))), .int .i64 (rd t23604 x39141), .bool false, .bool false, undef, undef, undef, undef, undef, undef, undef, undef, undef, undef, undef, undef, undef, undef, .bool false, .bool false, undef, undef, undef, .pointer (some ((⟨g39670, 0, none⟩ : Addr).add ((x39141 : Int).toNat * 1))), undef, undef, undef, .pointer (some ((⟨g39672, 0, none⟩ : Addr).add ((x34731 : Int).toNat * 1))), undef, undef, undef, undef, undef, undef, undef, .bool false, (g39142 84), (g39142 85), (g39142 86), (g39142 87), (g39142 88), (g39142 89), (g39142 90), (g39142 91), (g39142 92), (g39142 93), (g39142 94), (g39142 95), (g39142 96), (g39142 97), (g39142 98), (g39142 99), (g39142 100), (g39142 101), (g39142 102), (g39142 103), (g39142 104), (g39142 105), (g39142 106), (g39142 107), (g39142 108), (g39142 109), (g39142 110), (g39142 111), (g39142 112), (g39142 113), (g39142 114), (g39142 115), (g39142 116), (g39142 117), (g39142 118), (g39142 119), (g39142 120), (g39142 121), (g39142 122), (g39142 123), (g39142 124), (g39142 125), (g39142 126), (g39142 127), (g39142 128), (g39142 129), (g39142 130), (g39142 131), (g39142 132), (g39142 133), (g39142 134), (g39142 135), (g39142 136), (g39142 137), (g39142 138), (g39142 139), (g39142 140), (g39142 141), (g39142 142)] q_ undef), rfl, HS39146, Nat.le_refl _, HJ39139, HJ39140, H⟩
               case step =>
                intro kq39951 ih39954 a39955 w39950 hr39956
                obtain ⟨C39949, x39947, g39948, rfl, HS39952, hk39953, HJ39945, HJ39946, H⟩ := hr39956
                refine looped_round ?_
                cases kq39951 with
                | zero => exact absurd H (by simp [blazonlaw13_OrderSorts.l3])
                | succ k39957 =>
                 simp only [blazonlaw13_OrderSorts.l3] at H
                 refine wp_seq_k fun K39958 hK39958 => ?_
                 refine wp_seq_k fun K39959 hK39959 => ?_
                 refine wl_region ?_
                 refine st (.int .i64 x39947) rfl rfl (xr_move (.int .i64 x39947) rfl rfl) ?_
                 simp only [ls0, ls1]
                 refine st (.slice A23610 t23604.length cp23611) rfl rfl (xr_move (.slice A23610 t23604.length cp23611) rfl rfl) ?_
                 simp only [ls0, ls1]
                 refine st (.int .i64 (t23604.length : Int)) rfl rfl (xr_builtin #[.slice A23610 t23604.length cp23611] (.int .i64 (t23604.length : Int)) rfl (by simp only [List.map_toArray, List.map_cons, List.map_nil]; first | done | rfl) (by first | rfl | (go_simp; done) | (go_simp; rfl) | (go_simp; exact i64_w _) | (go_simp; exact i32_w _))) ?_
                 simp only [ls0, ls1]
                 refine st (.bool (decide (x39947 < (t23604.length : Int)))) rfl rfl (xr_bin (.int .i64 x39947) (.int .i64 (t23604.length : Int)) (.bool (decide (x39947 < (t23604.length : Int)))) rfl rfl rfl (B.lss_i64 x39947 (t23604.length : Int))) ?_
                 simp only [ls0, ls1]
                 refine wl_end ?_
                 (try simp only [Act.put, List.setIfInBounds_toArray, ls0, ls1])
                 refine hK39959 _ _ ?_
                 (try clear hK39959 K39959)
                 by_cases c39960 : x39947 < (t23604.length : Int)
                 ·rw [if_pos c39960] at H
                  (try rw [(decide_eq_true c39960)])
                  (try simp only [Bool.not_true, Bool.not_false])
                  refine wp_cond_true rfl ?_
                  refine wp_skip ?_
                  (try simp only [Act.put, List.setIfInBounds_toArray, ls0, ls1])
                  refine hK39958 _ _ ?_
                  (try clear hK39958 K39958)
                  refine wp_seq_k fun K39961 hK39961 => ?_
                  refine wp_block ?_
                  refine wp_seq_k fun K39962 hK39962 => ?_
                  refine wl_region ?_
                  refine st (v34728) rfl rfl (xr_move (v34728) rfl rfl) ?_
                  simp only [ls0, ls1]
                  refine st (.int .i64 x34731) rfl rfl (xr_move (.int .i64 x34731) rfl rfl) ?_
                  simp only [ls0, ls1]
                  refine st (.int .i64 x39141) rfl rfl (xr_move (.int .i64 x39141) rfl rfl) ?_
                  simp only [ls0, ls1]
                  obtain ⟨t39983, A39984, H⟩ := Option.bind_eq_some_iff.mp H
                  (try dsimp only at H)
                  refine st_call #[v34728, .int .i64 x34731, .int .i64 x39141] rfl rfl Try.func11 (by kernel_rfl) rfl rfl (by simp only [List.map_toArray, List.map_cons, List.map_nil]; first | done | rfl) ?_
                  refine (order_Order_Most.calls v34728 x34727 x34731 x39141 t39983  (fun z_ => pal [(0, 0)] (C39949 z_)) w39950 (fun _ => pal_lt rfl _) (Ft.arg HJ39945 rfl) A39984).mono ?_
                  rintro _ w39986 ⟨C39987, rfl, hs39988⟩
                  refine ⟨_, rfl, ?_⟩
                  replace hs39988 := Step.lift (U := [(0, 0)]) hs39988 [] rfl rfl
                  generalize up C39949 C39987 w39950.heap.size [(0, 0)] = C39987_ at hs39988
                  replace HJ39945 := HJ39945.thru hs39988 rfl
                  replace HJ39946 := HJ39946.thru hs39988 rfl
                  replace HS39952 := HS39952.trans hs39988 hc rfl
                  (try simp only [Act.put, List.setIfInBounds_toArray, ls0, ls1])
                  refine st (.bool t39983) rfl rfl (xr_move (.bool t39983) rfl rfl) ?_
                  simp only [ls0, ls1]
                  by_cases c39989 : t39983 = true
                  ·rw [if_pos c39989] at H
                   (try rw [c39989])
                   (try simp only [Bool.not_true, Bool.not_false])
                   refine on_guard (guard_on 4 true 94 rfl rfl rfl) ?_
                   refine st (v34728) rfl rfl (xr_move (v34728) rfl rfl) ?_
                   simp only [ls0, ls1]
                   refine on_guard (guard_on 4 true 94 rfl rfl rfl) ?_
                   refine st (.int .i64 x39141) rfl rfl (xr_move (.int .i64 x39141) rfl rfl) ?_
                   simp only [ls0, ls1]
                   refine on_guard (guard_on 4 true 94 rfl rfl rfl) ?_
                   refine st (.int .i64 x39947) rfl rfl (xr_move (.int .i64 x39947) rfl rfl) ?_
                   simp only [ls0, ls1]
                   refine on_guard (guard_on 4 true 94 rfl rfl rfl) ?_
                   obtain ⟨t39990, A39991, H⟩ := Option.bind_eq_some_iff.mp H
                   (try dsimp only at H)
                   refine st_call #[v34728, .int .i64 x39141, .int .i64 x39947] rfl rfl Try.func11 (by kernel_rfl) rfl rfl (by simp only [List.map_toArray, List.map_cons, List.map_nil]; first | done | rfl) ?_
                   refine (order_Order_Most.calls v34728 x34727 x39141 x39947 t39990  (fun z_ => pal [(0, 0)] (C39987_ z_)) w39986 (fun _ => pal_lt rfl _) (Ft.arg HJ39945 rfl) A39991).mono ?_
                   rintro _ w39993 ⟨C39994, rfl, hs39995⟩
                   refine ⟨_, rfl, ?_⟩
                   replace hs39995 := Step.lift (U := [(0, 0)]) hs39995 [] rfl rfl
                   generalize up C39987_ C39994 w39986.heap.size [(0, 0)] = C39994_ at hs39995
                   replace HJ39945 := HJ39945.thru hs39995 rfl
                   replace HJ39946 := HJ39946.thru hs39995 rfl
                   replace HS39952 := HS39952.trans hs39995 hc rfl
                   (try simp only [Act.put, List.setIfInBounds_toArray, ls0, ls1])
                   refine st (.bool t39990) rfl rfl (xr_pick true (.bool t39990) rfl rfl rfl) ?_
                   simp only [ls0, ls1]
                   refine st (.bool t39990) rfl rfl (xr_move (.bool t39990) rfl rfl) ?_
                   simp only [ls0, ls1]
                   by_cases c39996 : t39990 = true
                   ·rw [if_pos c39996] at H
                    (try rw [c39996])
                    (try simp only [Bool.not_true, Bool.not_false])
                    refine on_guard (guard_on 10 true 100 rfl rfl rfl) ?_
                    refine st (v34728) rfl rfl (xr_move (v34728) rfl rfl) ?_
                    simp only [ls0, ls1]
                    refine on_guard (guard_on 10 true 100 rfl rfl rfl) ?_
                    refine st (.int .i64 x34731) rfl rfl (xr_move (.int .i64 x34731) rfl rfl) ?_
                    simp only [ls0, ls1]
                    refine on_guard (guard_on 10 true 100 rfl rfl rfl) ?_
                    refine st (.int .i64 x39947) rfl rfl (xr_move (.int .i64 x39947) rfl rfl) ?_
                    simp only [ls0, ls1]
                    refine on_guard (guard_on 10 true 100 rfl rfl rfl) ?_
                    obtain ⟨t39997, A39998, H⟩ := Option.bind_eq_some_iff.mp H
                    (try dsimp only at H)
                    refine st_call #[v34728, .int .i64 x34731, .int .i64 x39947] rfl rfl Try.func11 (by kernel_rfl) rfl rfl (by simp only [List.map_toArray, List.map_cons, List.map_nil]; first | done | rfl) ?_
                    refine (order_Order_Most.calls v34728 x34727 x34731 x39947 t39997  (fun z_ => pal [(0, 0)] (C39994_ z_)) w39993 (fun _ => pal_lt rfl _) (Ft.arg HJ39945 rfl) A39998).mono ?_
                    rintro _ w40000 ⟨C40001, rfl, hs40002⟩
                    refine ⟨_, rfl, ?_⟩
                    replace hs40002 := Step.lift (U := [(0, 0)]) hs40002 [] rfl rfl
                    generalize up C39994_ C40001 w39993.heap.size [(0, 0)] = C40001_ at hs40002
                    replace HJ39945 := HJ39945.thru hs40002 rfl
                    replace HJ39946 := HJ39946.thru hs40002 rfl
                    replace HS39952 := HS39952.trans hs40002 hc rfl
                    (try simp only [Act.put, List.setIfInBounds_toArray, ls0, ls1])
                    refine on_guard (guard_on 10 true 100 rfl rfl rfl) ?_
                    refine st (.bool (!t39997)) rfl rfl (xr_un (.bool t39997) (.bool (!t39997)) rfl rfl (by first | rfl | (go_simp; done) | (go_simp; rfl) | (go_simp; exact i64_w _) | (go_simp; exact i32_w _))) ?_
                    simp only [ls0, ls1]
                    refine st (.bool (!t39997)) rfl rfl (xr_pick true (.bool (!t39997)) rfl rfl rfl) ?_
                    simp only [ls0, ls1]
                    refine wl_end ?_
                    (try simp only [Act.put, List.setIfInBounds_toArray, ls0, ls1])
                    refine hK39962 _ _ ?_
                    (try clear hK39962 K39962)
                    by_cases c40003 : t39997 = true
                    ·rw [if_pos c40003] at H
                     (try rw [c40003])
                     (try simp only [Bool.not_true, Bool.not_false])
                     refine wp_cond_false rfl ?_
                     refine wp_skip ?_
                     (try simp only [Act.put, List.setIfInBounds_toArray, ls0, ls1])
                     refine hK39961 _ _ ?_
                     (try clear hK39961 K39961)
                     refine wl_region ?_
                     refine st (.int .i64 x39947) rfl rfl (xr_move (.int .i64 x39947) rfl rfl) ?_
                     simp only [ls0, ls1]
                     refine st (.int .i64 (wrap64 (x39947 + 1))) rfl rfl (xr_bin (.int .i64 x39947) (.int .i64 1) (.int .i64 (wrap64 (x39947 + 1))) rfl rfl rfl (B.add_i64 x39947 1)) ?_
                     simp only [ls0, ls1]
                     refine st (.int .i64 (wrap64 (x39947 + 1))) rfl rfl (xr_assign (.int .i64 (wrap64 (x39947 + 1))) rfl rfl) ?_
                     simp only [ls0, ls1]
                     refine wl_end ?_
                     (try simp only [Act.put, List.setIfInBounds_toArray, ls0, ls1])
                     exact ih39954 k39957 (by omega) _ _ ⟨_, wrap64 (x39947 + 1), (fun q_ => List.getD [(g39948 0), (g39948 1), (g39948 2), undef, (g39948 4), (g39948 5), undef, undef, undef, undef, (g39948 10), (g39948 11), (g39948 12), (g39948 13), (g39948 14), (g39948 15), (g39948 16), (g39948 17), (g39948 18), (g39948 19), (g39948 20), (g39948 21), (g39948 22), (g39948 23), (g39948 24), (g39948 25), (g39948 26), (g39948 27), (g39948 28), (g39948 29), (g39948 30), (g39948 31), (g39948 32), (g39948 33), (g39948 34), (g39948 35), (g39948 36), (g39948 37), (g39948 38), (g39948 39), (g39948 40), (g39948 41), (g39948 42), (g39948 43), (g39948 44), (g39948 45), (g39948 46), (g39948 47), (g39948 48), (g39948 49), (g39948 50), (g39948 51), (g39948 52), (g39948 53), (g39948 54), (g39948 55), (g39948 56), (g39948 57), (g39948 58), (g39948 59), (g39948 60), (g39948 61), (g39948 62), (g39948 63), (g39948 64), (g39948 65), (g39948 66), (g39948 67), undef, undef, undef, (g39948 71), undef, undef, undef, (g39948 75), undef, undef, undef, (g39948 79), (g39948 80), (g39948 81), undef, (g39948 83), .int .i64 x39947, .slice A23610 t23604.length cp23611, .int .i64 (t23604.length : Int), .bool true, .int .i64 x39947, .int .i64 (wrap64 (x39947 + 1)), v34728, .int .i64 x34731, .int .i64 x39141, .bool true, .bool true, v34728, .int .i64 x39141, .int .i64 x39947, .bool true, .bool true, .bool true, v34728, .int .i64 x34731, .int .i64 x39947, .bool true, .bool false, .bool false, (g39948 107), (g39948 108), (g39948 109), (g39948 110), (g39948 111), (g39948 112), (g39948 113), (g39948 114), (g39948 115), (g39948 116), (g39948 117), (g39948 118), (g39948 119), (g39948 120), (g39948 121), (g39948 122), (g39948 123), (g39948 124), (g39948 125), (g39948 126), (g39948 127), (g39948 128), (g39948 129), (g39948 130), (g39948 131), (g39948 132), (g39948 133), (g39948 134), (g39948 135), (g39948 136), (g39948 137), (g39948 138), (g39948 139), (g39948 140), (g39948 141), (g39948 142)] q_ undef), rfl, HS39952, (by omega), HJ39945, HJ39946, H⟩
                    ·rw [if_neg c40003] at H
                     (try rw [(Bool.eq_false_iff.mpr c40003)])
                     (try simp only [Bool.not_true, Bool.not_false])
                     refine wp_cond_true rfl ?_
                     refine wp_seq_k fun K40004 hK40004 => ?_
                     refine wl_region ?_
                     refine st (.bool false) rfl rfl (xr_assign (.bool false) rfl rfl) ?_
                     simp only [ls0, ls1]
                     refine wl_end ?_
                     (try simp only [Act.put, List.setIfInBounds_toArray, ls0, ls1])
                     refine hK40004 _ _ ?_
                     (try clear hK40004 K40004)
                     refine wp_ret ?_
                     (try simp only [Exit.inBlock, Exit.then, Exit.noGoto])
                     (try simp only [Act.put, List.setIfInBounds_toArray, ls0, ls1])
                     obtain rfl := Option.some.inj H
                     refine bodyPost_ret (results_tmp rfl _ _ _) rfl ?_
                     exact ⟨_, rfl, HS39952⟩
                   ·rw [if_neg c39996] at H
                    (try rw [(Bool.eq_false_iff.mpr c39996)])
                    (try simp only [Bool.not_true, Bool.not_false])
                    refine sk_guard (guard_off 10 true 100 rfl rfl false (by decide) rfl) rfl ?_
                    simp only [ls0, ls1]
                    refine sk_guard (guard_off 10 true 100 rfl rfl false (by decide) rfl) rfl ?_
                    simp only [ls0, ls1]
                    refine sk_guard (guard_off 10 true 100 rfl rfl false (by decide) rfl) rfl ?_
                    simp only [ls0, ls1]
                    refine sk_guard (guard_off 10 true 100 rfl rfl false (by decide) rfl) rfl ?_
                    simp only [ls0, ls1]
                    refine sk_guard (guard_off 10 true 100 rfl rfl false (by decide) rfl) rfl ?_
                    simp only [ls0, ls1]
                    refine st (.bool false) rfl rfl (xr_pick false (.bool false) rfl rfl rfl) ?_
                    simp only [ls0, ls1]
                    refine wl_end ?_
                    (try simp only [Act.put, List.setIfInBounds_toArray, ls0, ls1])
                    refine hK39962 _ _ ?_
                    (try clear hK39962 K39962)
                    refine wp_cond_false rfl ?_
                    refine wp_skip ?_
                    (try simp only [Act.put, List.setIfInBounds_toArray, ls0, ls1])
                    refine hK39961 _ _ ?_
                    (try clear hK39961 K39961)
                    refine wl_region ?_
                    refine st (.int .i64 x39947) rfl rfl (xr_move (.int .i64 x39947) rfl rfl) ?_
                    simp only [ls0, ls1]
                    refine st (.int .i64 (wrap64 (x39947 + 1))) rfl rfl (xr_bin (.int .i64 x39947) (.int .i64 1) (.int .i64 (wrap64 (x39947 + 1))) rfl rfl rfl (B.add_i64 x39947 1)) ?_
                    simp only [ls0, ls1]
                    refine st (.int .i64 (wrap64 (x39947 + 1))) rfl rfl (xr_assign (.int .i64 (wrap64 (x39947 + 1))) rfl rfl) ?_
                    simp only [ls0, ls1]
                    refine wl_end ?_
                    (try simp only [Act.put, List.setIfInBounds_toArray, ls0, ls1])
                    exact ih39954 k39957 (by omega) _ _ ⟨_, wrap64 (x39947 + 1), (fun q_ => List.getD [(g39948 0), (g39948 1), (g39948 2), undef, (g39948 4), (g39948 5), undef, undef, undef, undef, (g39948 10), (g39948 11), (g39948 12), (g39948 13), (g39948 14), (g39948 15), (g39948 16), (g39948 17), (g39948 18), (g39948 19), (g39948 20), (g39948 21), (g39948 22), (g39948 23), (g39948 24), (g39948 25), (g39948 26), (g39948 27), (g39948 28), (g39948 29), (g39948 30), (g39948 31), (g39948 32), (g39948 33), (g39948 34), (g39948 35), (g39948 36), (g39948 37), (g39948 38), (g39948 39), (g39948 40), (g39948 41), (g39948 42), (g39948 43), (g39948 44), (g39948 45), (g39948 46), (g39948 47), (g39948 48), (g39948 49), (g39948 50), (g39948 51), (g39948 52), (g39948 53), (g39948 54), (g39948 55), (g39948 56), (g39948 57), (g39948 58), (g39948 59), (g39948 60), (g39948 61), (g39948 62), (g39948 63), (g39948 64), (g39948 65), (g39948 66), (g39948 67), undef, undef, undef, (g39948 71), undef, undef, undef, (g39948 75), undef, undef, undef, (g39948 79), (g39948 80), (g39948 81), undef, (g39948 83), .int .i64 x39947, .slice A23610 t23604.length cp23611, .int .i64 (t23604.length : Int), .bool true, .int .i64 x39947, .int .i64 (wrap64 (x39947 + 1)), v34728, .int .i64 x34731, .int .i64 x39141, .bool true, .bool true, v34728, .int .i64 x39141, .int .i64 x39947, .bool false, .bool false, .bool false, undef, undef, undef, undef, undef, .bool false, (g39948 107), (g39948 108), (g39948 109), (g39948 110), (g39948 111), (g39948 112), (g39948 113), (g39948 114), (g39948 115), (g39948 116), (g39948 117), (g39948 118), (g39948 119), (g39948 120), (g39948 121), (g39948 122), (g39948 123), (g39948 124), (g39948 125), (g39948 126), (g39948 127), (g39948 128), (g39948 129), (g39948 130), (g39948 131), (g39948 132), (g39948 133), (g39948 134), (g39948 135), (g39948 136), (g39948 137), (g39948 138), (g39948 139), (g39948 140), (g39948 141), (g39948 142)] q_ undef), rfl, HS39952, (by omega), HJ39945, HJ39946, H⟩
                  ·rw [if_neg c39989] at H
                   (try rw [(Bool.eq_false_iff.mpr c39989)])
                   (try simp only [Bool.not_true, Bool.not_false])
                   refine sk_guard (guard_off 4 true 94 rfl rfl false (by decide) rfl) rfl ?_
                   simp only [ls0, ls1]
                   refine sk_guard (guard_off 4 true 94 rfl rfl false (by decide) rfl) rfl ?_
                   simp only [ls0, ls1]
                   refine sk_guard (guard_off 4 true 94 rfl rfl false (by decide) rfl) rfl ?_
                   simp only [ls0, ls1]
                   refine sk_guard (guard_off 4 true 94 rfl rfl false (by decide) rfl) rfl ?_
                   simp only [ls0, ls1]
                   refine st (.bool false) rfl rfl (xr_pick false (.bool false) rfl rfl rfl) ?_
                   simp only [ls0, ls1]
                   refine st (.bool false) rfl rfl (xr_move (.bool false) rfl rfl) ?_
                   simp only [ls0, ls1]
                   refine sk_guard (guard_off 10 true 100 rfl rfl false (by decide) rfl) rfl ?_
                   simp only [ls0, ls1]
                   refine sk_guard (guard_off 10 true 100 rfl rfl false (by decide) rfl) rfl ?_
                   simp only [ls0, ls1]
                   refine sk_guard (guard_off 10 true 100 rfl rfl false (by decide) rfl) rfl ?_
                   simp only [ls0, ls1]
                   refine sk_guard (guard_off 10 true 100 rfl rfl false (by decide) rfl) rfl ?_
                   simp only [ls0, ls1]
                   refine sk_guard (guard_off 10 true 100 rfl rfl false (by decide) rfl) rfl ?_
                   simp only [ls0, ls1]
                   refine st (.bool false) rfl rfl (xr_pick false (.bool false) rfl rfl rfl) ?_
                   simp only [ls0, ls1]
                   refine wl_end ?_
                   (try simp only [Act.put, List.setIfInBounds_toArray, ls0, ls1])
                   refine hK39962 _ _ ?_
                   (try clear hK39962 K39962)
                   refine wp_cond_false rfl ?_
                   refine wp_skip ?_
                   (try simp only [Act.put, List.setIfInBounds_toArray, ls0, ls1])
                   refine hK39961 _ _ ?_
                   (try clear hK39961 K39961)
                   refine wl_region ?_
                   refine st (.int .i64 x39947) rfl rfl (xr_move (.int .i64 x39947) rfl rfl) ?_
                   simp only [ls0, ls1]
                   refine st (.int .i64 (wrap64 (x39947 + 1))) rfl rfl (xr_bin (.int .i64 x39947) (.int .i64 1) (.int .i64 (wrap64 (x39947 + 1))) rfl rfl rfl (B.add_i64 x39947 1)) ?_
                   simp only [ls0, ls1]
                   refine st (.int .i64 (wrap64 (x39947 + 1))) rfl rfl (xr_assign (.int .i64 (wrap64 (x39947 + 1))) rfl rfl) ?_
                   simp only [ls0, ls1]
                   refine wl_end ?_
                   (try simp only [Act.put, List.setIfInBounds_toArray, ls0, ls1])
                   exact ih39954 k39957 (by omega) _ _ ⟨_, wrap64 (x39947 + 1), (fun q_ => List.getD [(g39948 0), (g39948 1), (g39948 2), undef, (g39948 4), (g39948 5), undef, undef, undef, undef, (g39948 10), (g39948 11), (g39948 12), (g39948 13), (g39948 14), (g39948 15), (g39948 16), (g39948 17), (g39948 18), (g39948 19), (g39948 20), (g39948 21), (g39948 22), (g39948 23), (g39948 24), (g39948 25), (g39948 26), (g39948 27), (g39948 28), (g39948 29), (g39948 30), (g39948 31), (g39948 32), (g39948 33), (g39948 34), (g39948 35), (g39948 36), (g39948 37), (g39948 38), (g39948 39), (g39948 40), (g39948 41), (g39948 42), (g39948 43), (g39948 44), (g39948 45), (g39948 46), (g39948 47), (g39948 48), (g39948 49), (g39948 50), (g39948 51), (g39948 52), (g39948 53), (g39948 54), (g39948 55), (g39948 56), (g39948 57), (g39948 58), (g39948 59), (g39948 60), (g39948 61), (g39948 62), (g39948 63), (g39948 64), (g39948 65), (g39948 66), (g39948 67), undef, undef, undef, (g39948 71), undef, undef, undef, (g39948 75), undef, undef, undef, (g39948 79), (g39948 80), (g39948 81), undef, (g39948 83), .int .i64 x39947, .slice A23610 t23604.length cp23611, .int .i64 (t23604.length : Int), .bool true, .int .i64 x39947, .int .i64 (wrap64 (x39947 + 1)), v34728, .int .i64 x34731, .int .i64 x39141, .bool false, .bool false, undef, undef, undef, undef, .bool false, .bool false, undef, undef, undef, undef, undef, .bool false, (g39948 107), (g39948 108), (g39948 109), (g39948 110), (g39948 111), (g39948 112), (g39948 113), (g39948 114), (g39948 115), (g39948 116), (g39948 117), (g39948 118), (g39948 119), (g39948 120), (g39948 121), (g39948 122), (g39948 123), (g39948 124), (g39948 125), (g39948 126), (g39948 127), (g39948 128), (g39948 129), (g39948 130), (g39948 131), (g39948 132), (g39948 133), (g39948 134), (g39948 135), (g39948 136), (g39948 137), (g39948 138), (g39948 139), (g39948 140), (g39948 141), (g39948 142)] q_ undef), rfl, HS39952, (by omega), HJ39945, HJ39946, H⟩
                 ·rw [if_neg c39960] at H
                  (try rw [(decide_eq_false c39960)])
                  (try simp only [Bool.not_true, Bool.not_false])
                  refine wp_cond_false rfl ?_
                  refine wp_exit ?_
                  (try simp only [Act.put, List.setIfInBounds_toArray, ls0, ls1])
                  refine hK39155 _ _ ?_
                  (try clear hK39155 K39155)
                  refine wl_region ?_
                  refine st (.int .i64 x39141) rfl rfl (xr_move (.int .i64 x39141) rfl rfl) ?_
                  simp only [ls0, ls1]
                  refine st (.int .i64 (wrap64 (x39141 + 1))) rfl rfl (xr_bin (.int .i64 x39141) (.int .i64 1) (.int .i64 (wrap64 (x39141 + 1))) rfl rfl rfl (B.add_i64 x39141 1)) ?_
                  simp only [ls0, ls1]
                  refine st (.int .i64 (wrap64 (x39141 + 1))) rfl rfl (xr_assign (.int .i64 (wrap64 (x39141 + 1))) rfl rfl) ?_
                  simp only [ls0, ls1]
                  refine wl_end ?_
                  (try simp only [Act.put, List.setIfInBounds_toArray, ls0, ls1])
                  exact ih39148 k39957 (by omega) _ _ ⟨_, wrap64 (x39141 + 1), (fun q_ => List.getD [(g39948 0), (g39948 1), (g39948 2), undef, (g39948 4), (g39948 5), undef, undef, undef, .int .i64 x39947, (g39948 10), (g39948 11), (g39948 12), (g39948 13), (g39948 14), (g39948 15), (g39948 16), (g39948 17), (g39948 18), (g39948 19), (g39948 20), (g39948 21), (g39948 22), (g39948 23), (g39948 24), (g39948 25), (g39948 26), (g39948 27), (g39948 28), (g39948 29), (g39948 30), (g39948 31), (g39948 32), (g39948 33), (g39948 34), (g39948 35), (g39948 36), (g39948 37), (g39948 38), .int .i64 x39141, .int .i64 (wrap64 (x39141 + 1)), (g39948 41), (g39948 42), (g39948 43), (g39948 44), (g39948 45), (g39948 46), (g39948 47), (g39948 48), (g39948 49), (g39948 50), (g39948 51), (g39948 52), (g39948 53), (g39948 54), (g39948 55), (g39948 56), (g39948 57), (g39948 58), (g39948 59), (g39948 60), (g39948 61), (g39948 62), (g39948 63), (g39948 64), (g39948 65), (g39948 66), (g39948 67), v34728, .slice A23610 t23604.length cp23611, .int .i64 x39141, (g39948 71), .int .i64 (rd t23604 x39141), .slice A23610 t23604.length cp23611, .int .i64 x34731, (g39948 75), .int .i64 (rd t23604 x34731), .bool false, .bool false, (g39948 79), (g39948 80), (g39948 81), .bool false, (g39948 83), .int .i64 x39947, .slice A23610 t23604.length cp23611, .int .i64 (t23604.length : Int), .bool false, (g39948 88), (g39948 89), (g39948 90), (g39948 91), (g39948 92), (g39948 93), (g39948 94), (g39948 95), (g39948 96), (g39948 97), (g39948 98), (g39948 99), (g39948 100), (g39948 101), (g39948 102), (g39948 103), (g39948 104), (g39948 105), (g39948 106), (g39948 107), (g39948 108), (g39948 109), (g39948 110), (g39948 111), (g39948 112), (g39948 113), (g39948 114), (g39948 115), (g39948 116), (g39948 117), (g39948 118), (g39948 119), (g39948 120), (g39948 121), (g39948 122), (g39948 123), (g39948 124), (g39948 125), (g39948 126), (g39948 127), (g39948 128), (g39948 129), (g39948 130), (g39948 131), (g39948 132), (g39948 133), (g39948 134), (g39948 135), (g39948 136), (g39948 137), (g39948 138), (g39948 139), (g39948 140), (g39948 141), (g39948 142)] q_ undef), rfl, HS39952, (by omega), HJ39945, HJ39946, H⟩
            ·rw [if_neg c39313] at H
             exact absurd H (by simp)
           ·rw [if_neg c39310] at H
            exact absurd H (by simp)
          ·rw [if_neg c39309] at H
           exact absurd H (by simp)
         ·rw [if_neg c39154] at H
          (try rw [(decide_eq_false c39154)])
          (try simp only [Bool.not_true, Bool.not_false])
          refine wp_cond_false rfl ?_
          refine wp_exit ?_
          (try simp only [Act.put, List.setIfInBounds_toArray, ls0, ls1])
          refine hK34746 _ _ ?_
          (try clear hK34746 K34746)
          refine wp_seq_k fun K40005 hK40005 => ?_
          (try simp only [Act.put, List.setIfInBounds_toArray, ls0, ls1])
          refine al_start #[false, false, false, false, false, false, false, false, false, false, false, false, false, false, false, false, false, false, false, false, false, false, false, false, false, false, false, false, false, false, false, false, false, false, false] rfl rfl rfl (fun w_ => (Kd.int .i64).C w_ A23610 t23604.length t23604) (Ft.now ((HJ39140.ft)).drew) [] ?_
          replace HJ39139 := HJ39139.drew
          replace HJ39140 := HJ39140.drew
          replace HS39146 := Step.ofDrew HS39146
          generalize w39144.drew = w40034 at *
          refine al_pure 0 107 (v34728) #[true, false, false, false, false, false, false, false, false, false, false, false, false, false, false, false, false, false, false, false, false, false, false, false, false, false, false, false, false, false, false, false, false, false, false] rfl rfl (by kernel_rfl) (fun _ _ _ h_ => h_) rfl (fun w_ => xr_move (v34728) rfl rfl) ?_
          simp only [ls0, ls1]
          refine al_pure 1 108 (.int .i64 x34731) #[true, true, false, false, false, false, false, false, false, false, false, false, false, false, false, false, false, false, false, false, false, false, false, false, false, false, false, false, false, false, false, false, false, false, false] rfl rfl (by kernel_rfl) (fun _ _ _ h_ => h_) rfl (fun w_ => xr_move (.int .i64 x34731) rfl rfl) ?_
          simp only [ls0, ls1]
          refine al_pure 2 109 (.int .i64 x34731) #[true, true, true, false, false, false, false, false, false, false, false, false, false, false, false, false, false, false, false, false, false, false, false, false, false, false, false, false, false, false, false, false, false, false, false] rfl rfl (by kernel_rfl) (fun _ _ _ h_ => h_) rfl (fun w_ => xr_move (.int .i64 x34731) rfl rfl) ?_
          simp only [ls0, ls1]
          obtain ⟨t40035, A40036, H⟩ := Option.bind_eq_some_iff.mp H
          (try dsimp only at H)
          refine al_one 3 #[true, true, true, true, false, false, false, false, false, false, false, false, false, false, false, false, false, false, false, false, false, false, false, false, false, false, false, false, false, false, false, false, false, false, false] rfl rfl (by kernel_rfl) rfl (fun K_ hK_ => ?_)
          refine goes_ Try.func11 (by kernel_rfl) rfl #[v34728, .int .i64 x34731, .int .i64 x34731] rfl rfl rfl (by rw [map_ev]; simp only [List.map_toArray, List.map_cons, List.map_nil]; first | done | rfl) ?_
          refine (order_Order_Most.calls v34728 x34727 x34731 x34731 t40035  (fun z_ => pal [(0, 0)] (C39143 z_)) w40034 (fun _ => pal_lt rfl _) (Ft.arg HJ39139 rfl) A40036).mono ?_
          rintro _ w40038 ⟨C40039, rfl, hs40040⟩
          refine ⟨_, rfl, ?_⟩
          replace hs40040 := Step.lift (U := [(0, 0)]) hs40040 [] rfl rfl
          generalize up C39143 C40039 w40034.heap.size [(0, 0)] = C40039_ at hs40040
          replace HJ39139 := HJ39139.thru hs40040 rfl
          replace HJ39140 := HJ39140.thru hs40040 rfl
          replace HS39146 := HS39146.trans hs40040 hc rfl
          refine hK_ _ _ (Ft.now (HJ39140.ft)) ?_
          clear hK_ K_
          (try simp only [Act.put, List.setIfInBounds_toArray, ls0, ls1])
          refine al_pure 4 111 (.bool (!t40035)) #[true, true, true, true, true, false, false, false, false, false, false, false, false, false, false, false, false, false, false, false, false, false, false, false, false, false, false, false, false, false, false, false, false, false, false] rfl rfl (by kernel_rfl) (fun _ _ _ h_ => h_) rfl (fun w_ => xr_un (.bool t40035) (.bool (!t40035)) rfl rfl (by first | rfl | (go_simp; done) | (go_simp; rfl) | (go_simp; exact i64_w _) | (go_simp; exact i32_w _))) ?_
          simp only [ls0, ls1]
          refine al_pure 5 112 (.bool (!t40035)) #[true, true, true, true, true, true, false, false, false, false, false, false, false, false, false, false, false, false, false, false, false, false, false, false, false, false, false, false, false, false, false, false, false, false, false] rfl rfl (by kernel_rfl) (fun _ _ _ h_ => h_) rfl (fun w_ => xr_move (.bool (!t40035)) rfl rfl) ?_
          simp only [ls0, ls1]
          by_cases c40041 : t40035 = true
          ·rw [if_pos c40041] at H
           (try rw [c40041])
           (try simp only [Bool.not_true, Bool.not_false])
           refine al_pure 6 113 (.int .i64 x34731) #[true, true, true, true, true, true, true, false, false, false, false, false, false, false, false, false, false, false, false, false, false, false, false, false, false, false, false, false, false, false, false, false, false, false, false] rfl rfl (by kernel_rfl) (fun _ _ _ h_ => h_) (guard_on 5 false 112 rfl rfl rfl) (fun w_ => xr_move (.int .i64 x34731) rfl rfl) ?_
           simp only [ls0, ls1]
           refine al_pure 7 114 (.bool (decide (x34731 > 0))) #[true, true, true, true, true, true, true, true, false, false, false, false, false, false, false, false, false, false, false, false, false, false, false, false, false, false, false, false, false, false, false, false, false, false, false] rfl rfl (by kernel_rfl) (fun _ _ _ h_ => h_) (guard_on 5 false 112 rfl rfl rfl) (fun w_ => xr_bin (.int .i64 x34731) (.int .i64 0) (.bool (decide (x34731 > 0))) rfl rfl rfl (B.gtr_i64 x34731 0)) ?_
           simp only [ls0, ls1]
           refine al_pure 8 115 (.bool (decide (x34731 > 0))) #[true, true, true, true, true, true, true, true, true, false, false, false, false, false, false, false, false, false, false, false, false, false, false, false, false, false, false, false, false, false, false, false, false, false, false] rfl rfl (by kernel_rfl) (fun _ _ _ h_ => h_) (guard_on 5 false 112 rfl rfl rfl) (fun w_ => xr_move (.bool (decide (x34731 > 0))) rfl rfl) ?_
           simp only [ls0, ls1]
           by_cases c40042 : x34731 > 0
           ·rw [if_pos c40042] at H
            (try rw [(decide_eq_true c40042)])
            (try simp only [Bool.not_true, Bool.not_false])
            refine al_pure 9 116 (.slice A23610 t23604.length cp23611) #[true, true, true, true, true, true, true, true, true, true, false, false, false, false, false, false, false, false, false, false, false, false, false, false, false, false, false, false, false, false, false, false, false, false, false] rfl rfl (by kernel_rfl) (fun _ _ _ h_ => h_) (guard_on 8 true 115 rfl rfl rfl) (fun w_ => xr_move (.slice A23610 t23604.length cp23611) rfl rfl) ?_
            simp only [ls0, ls1]
            refine al_pure 10 117 (.int .i64 x34731) #[true, true, true, true, true, true, true, true, true, true, true, false, false, false, false, false, false, false, false, false, false, false, false, false, false, false, false, false, false, false, false, false, false, false, false] rfl rfl (by kernel_rfl) (fun _ _ _ h_ => h_) (guard_on 8 true 115 rfl rfl rfl) (fun w_ => xr_move (.int .i64 x34731) rfl rfl) ?_
            simp only [ls0, ls1]
            by_cases c40043 : 0 ≤ x34731
            ·rw [if_pos c40043] at H
             by_cases c40044 : x34731 < (t23604.length : Int)
             ·rw [if_pos c40044] at H
              obtain ⟨g40045, hA40046⟩ := HJ39140.form (pos_of (j := x34731) (by first | assumption | decide) (by first | assumption | omega))
              refine al_pure 11 118 (.pointer (some ((⟨g40045, 0, none⟩ : Addr).add ((x34731 : Int).toNat * 1)))) #[true, true, true, true, true, true, true, true, true, true, true, true, false, false, false, false, false, false, false, false, false, false, false, false, false, false, false, false, false, false, false, false, false, false, false] rfl rfl (by kernel_rfl) (fun _ _ _ h_ => h_) (guard_on 8 true 115 rfl rfl rfl) (fun w_ => xr_indexAddr (.slice A23610 t23604.length cp23611) (.int .i64 x34731) (.pointer (some ((⟨g40045, 0, none⟩ : Addr).add ((x34731 : Int).toNat * 1)))) rfl rfl rfl (index_at Try.underlying38 info3 hA40046 (by first | assumption | decide | omega) (by first | assumption | decide | omega))) ?_
              simp only [ls0, ls1]
              refine al_pure 13 120 (.slice A23610 t23604.length cp23611) #[true, true, true, true, true, true, true, true, true, true, true, true, false, true, false, false, false, false, false, false, false, false, false, false, false, false, false, false, false, false, false, false, false, false, false] rfl rfl (by kernel_rfl) (fun _ _ _ h_ => h_) (guard_on 8 true 115 rfl rfl rfl) (fun w_ => xr_move (.slice A23610 t23604.length cp23611) rfl rfl) ?_
              simp only [ls0, ls1]
              refine al_pure 14 121 (.int .i64 x34731) #[true, true, true, true, true, true, true, true, true, true, true, true, false, true, true, false, false, false, false, false, false, false, false, false, false, false, false, false, false, false, false, false, false, false, false] rfl rfl (by kernel_rfl) (fun _ _ _ h_ => h_) (guard_on 8 true 115 rfl rfl rfl) (fun w_ => xr_move (.int .i64 x34731) rfl rfl) ?_
              simp only [ls0, ls1]
              refine al_pure 15 122 (.int .i64 (wrap64 (x34731 - 1))) #[true, true, true, true, true, true, true, true, true, true, true, true, false, true, true, true, false, false, false, false, false, false, false, false, false, false, false, false, false, false, false, false, false, false, false] rfl rfl (by kernel_rfl) (fun _ _ _ h_ => h_) (guard_on 8 true 115 rfl rfl rfl) (fun w_ => xr_bin (.int .i64 x34731) (.int .i64 1) (.int .i64 (wrap64 (x34731 - 1))) rfl rfl rfl (B.sub_i64 x34731 1)) ?_
              simp only [ls0, ls1]
              by_cases c40047 : 0 ≤ (wrap64 (x34731 - 1))
              ·rw [if_pos c40047] at H
               by_cases c40048 : (wrap64 (x34731 - 1)) < (t23604.length : Int)
               ·rw [if_pos c40048] at H
                obtain ⟨g40049, hA40050⟩ := HJ39140.form (pos_of (j := (wrap64 (x34731 - 1))) (by first | assumption | decide) (by first | assumption | omega))
                refine al_pure 16 123 (.pointer (some ((⟨g40049, 0, none⟩ : Addr).add ((wrap64 (x34731 - 1) : Int).toNat * 1)))) #[true, true, true, true, true, true, true, true, true, true, true, true, false, true, true, true, true, false, false, false, false, false, false, false, false, false, false, false, false, false, false, false, false, false, false] rfl rfl (by kernel_rfl) (fun _ _ _ h_ => h_) (guard_on 8 true 115 rfl rfl rfl) (fun w_ => xr_indexAddr (.slice A23610 t23604.length cp23611) (.int .i64 (wrap64 (x34731 - 1))) (.pointer (some ((⟨g40049, 0, none⟩ : Addr).add ((wrap64 (x34731 - 1) : Int).toNat * 1)))) rfl rfl rfl (index_at Try.underlying38 info3 hA40050 (by first | assumption | decide | omega) (by first | assumption | decide | omega))) ?_
                simp only [ls0, ls1]
                refine al_take 12 119 (.int .i64 (rd t23604 x34731)) #[true, true, true, true, true, true, true, true, true, true, true, true, true, true, true, true, true, false, false, false, false, false, false, false, false, false, false, false, false, false, false, false, false, false, false] rfl rfl (by kernel_rfl) (fun _ _ _ h_ => h_) (guard_on 8 true 115 rfl rfl rfl) (fun w_ hS_ => xr_load (.pointer (some ((⟨g40045, 0, none⟩ : Addr).add ((x34731 : Int).toNat * 1)))) (.int .i64 (rd t23604 x34731)) rfl rfl (load_int Try.underlying3 rfl hA40046 hS_ (by first | assumption | decide | omega) (by first | assumption | decide | omega))) (Ft.now (HJ39140.ft)) ?_
                simp only [ls0, ls1]
                refine al_take 17 124 (.int .i64 (rd t23604 (wrap64 (x34731 - 1)))) #[true, true, true, true, true, true, true, true, true, true, true, true, true, true, true, true, true, true, false, false, false, false, false, false, false, false, false, false, false, false, false, false, false, false, false] rfl rfl (by kernel_rfl) (fun _ _ _ h_ => h_) (guard_on 8 true 115 rfl rfl rfl) (fun w_ hS_ => xr_load (.pointer (some ((⟨g40049, 0, none⟩ : Addr).add ((wrap64 (x34731 - 1) : Int).toNat * 1)))) (.int .i64 (rd t23604 (wrap64 (x34731 - 1)))) rfl rfl (load_int Try.underlying3 rfl hA40050 hS_ (by first | assumption | decide | omega) (by first | assumption | decide | omega))) (Ft.now (HJ39140.ft)) ?_
                simp only [ls0, ls1]
                refine al_pure 18 125 (.bool (decide ((rd t23604 x34731) < (rd t23604 (wrap64 (x34731 - 1)))))) #[true, true, true, true, true, true, true, true, true, true, true, true, true, true, true, true, true, true, true, false, false, false, false, false, false, false, false, false, false, false, false, false, false, false, false] rfl rfl (by kernel_rfl) (fun _ _ _ h_ => h_) (guard_on 8 true 115 rfl rfl rfl) (fun w_ => xr_bin (.int .i64 (rd t23604 x34731)) (.int .i64 (rd t23604 (wrap64 (x34731 - 1)))) (.bool (decide ((rd t23604 x34731) < (rd t23604 (wrap64 (x34731 - 1)))))) rfl rfl rfl (B.lss_i64 (rd t23604 x34731) (rd t23604 (wrap64 (x34731 - 1))))) ?_
                simp only [ls0, ls1]
                refine al_pure 19 126 (.bool (decide ((rd t23604 x34731) < (rd t23604 (wrap64 (x34731 - 1)))))) #[true, true, true, true, true, true, true, true, true, true, true, true, true, true, true, true, true, true, true, true, false, false, false, false, false, false, false, false, false, false, false, false, false, false, false] rfl rfl (by kernel_rfl) (fun _ _ _ h_ => h_) (guard_on 5 false 112 rfl rfl rfl) (fun w_ => xr_pick true (.bool (decide ((rd t23604 x34731) < (rd t23604 (wrap64 (x34731 - 1)))))) rfl rfl rfl) ?_
                simp only [ls0, ls1]
                refine al_pure 20 127 (.bool (decide ((rd t23604 x34731) < (rd t23604 (wrap64 (x34731 - 1)))))) #[true, true, true, true, true, true, true, true, true, true, true, true, true, true, true, true, true, true, true, true, true, false, false, false, false, false, false, false, false, false, false, false, false, false, false] rfl rfl (by kernel_rfl) (fun _ _ _ h_ => h_) (guard_on 5 false 112 rfl rfl rfl) (fun w_ => xr_move (.bool (decide ((rd t23604 x34731) < (rd t23604 (wrap64 (x34731 - 1)))))) rfl rfl) ?_
                simp only [ls0, ls1]
                by_cases c40051 : (rd t23604 x34731) < (rd t23604 (wrap64 (x34731 - 1)))
                ·rw [if_pos c40051] at H
                 (try rw [(decide_eq_true c40051)])
                 (try simp only [Bool.not_true, Bool.not_false])
                 refine al_pure 21 128 (v34728) #[true, true, true, true, true, true, true, true, true, true, true, true, true, true, true, true, true, true, true, true, true, true, false, false, false, false, false, false, false, false, false, false, false, false, false] rfl rfl (by kernel_rfl) (fun _ _ _ h_ => h_) (guard_on 20 true 127 rfl rfl rfl) (fun w_ => xr_move (v34728) rfl rfl) ?_
                 simp only [ls0, ls1]
                 refine al_pure 22 129 (.slice A23610 t23604.length cp23611) #[true, true, true, true, true, true, true, true, true, true, true, true, true, true, true, true, true, true, true, true, true, true, true, false, false, false, false, false, false, false, false, false, false, false, false] rfl rfl (by kernel_rfl) (fun _ _ _ h_ => h_) (guard_on 20 true 127 rfl rfl rfl) (fun w_ => xr_move (.slice A23610 t23604.length cp23611) rfl rfl) ?_
                 simp only [ls0, ls1]
                 refine al_pure 23 130 (.int .i64 x34731) #[true, true, true, true, true, true, true, true, true, true, true, true, true, true, true, true, true, true, true, true, true, true, true, true, false, false, false, false, false, false, false, false, false, false, false] rfl rfl (by kernel_rfl) (fun _ _ _ h_ => h_) (guard_on 20 true 127 rfl rfl rfl) (fun w_ => xr_move (.int .i64 x34731) rfl rfl) ?_
                 simp only [ls0, ls1]
                 refine al_pure 24 131 (.int .i64 (wrap64 (x34731 - 1))) #[true, true, true, true, true, true, true, true, true, true, true, true, true, true, true, true, true, true, true, true, true, true, true, true, true, false, false, false, false, false, false, false, false, false, false] rfl rfl (by kernel_rfl) (fun _ _ _ h_ => h_) (guard_on 20 true 127 rfl rfl rfl) (fun w_ => xr_bin (.int .i64 x34731) (.int .i64 1) (.int .i64 (wrap64 (x34731 - 1))) rfl rfl rfl (B.sub_i64 x34731 1)) ?_
                 simp only [ls0, ls1]
                 obtain ⟨g40052, hA40053⟩ := HJ39140.form (pos_of (j := (wrap64 (x34731 - 1))) (by first | assumption | decide) (by first | assumption | omega))
                 refine al_pure 25 132 (.pointer (some ((⟨g40052, 0, none⟩ : Addr).add ((wrap64 (x34731 - 1) : Int).toNat * 1)))) #[true, true, true, true, true, true, true, true, true, true, true, true, true, true, true, true, true, true, true, true, true, true, true, true, true, true, false, false, false, false, false, false, false, false, false] rfl rfl (by kernel_rfl) (fun _ _ _ h_ => h_) (guard_on 20 true 127 rfl rfl rfl) (fun w_ => xr_indexAddr (.slice A23610 t23604.length cp23611) (.int .i64 (wrap64 (x34731 - 1))) (.pointer (some ((⟨g40052, 0, none⟩ : Addr).add ((wrap64 (x34731 - 1) : Int).toNat * 1)))) rfl rfl rfl (index_at Try.underlying38 info3 hA40053 (by first | assumption | decide | omega) (by first | assumption | decide | omega))) ?_
                 simp only [ls0, ls1]
                 refine al_pure 27 134 (.slice A23610 t23604.length cp23611) #[true, true, true, true, true, true, true, true, true, true, true, true, true, true, true, true, true, true, true, true, true, true, true, true, true, true, false, true, false, false, false, false, false, false, false] rfl rfl (by kernel_rfl) (fun _ _ _ h_ => h_) (guard_on 20 true 127 rfl rfl rfl) (fun w_ => xr_move (.slice A23610 t23604.length cp23611) rfl rfl) ?_
                 simp only [ls0, ls1]
                 refine al_pure 28 135 (.int .i64 x34731) #[true, true, true, true, true, true, true, true, true, true, true, true, true, true, true, true, true, true, true, true, true, true, true, true, true, true, false, true, true, false, false, false, false, false, false] rfl rfl (by kernel_rfl) (fun _ _ _ h_ => h_) (guard_on 20 true 127 rfl rfl rfl) (fun w_ => xr_move (.int .i64 x34731) rfl rfl) ?_
                 simp only [ls0, ls1]
                 obtain ⟨g40054, hA40055⟩ := HJ39140.form (pos_of (j := x34731) (by first | assumption | decide) (by first | assumption | omega))
                 refine al_pure 29 136 (.pointer (some ((⟨g40054, 0, none⟩ : Addr).add ((x34731 : Int).toNat * 1)))) #[true, true, true, true, true, true, true, true, true, true, true, true, true, true, true, true, true, true, true, true, true, true, true, true, true, true, false, true, true, true, false, false, false, false, false] rfl rfl (by kernel_rfl) (fun _ _ _ h_ => h_) (guard_on 20 true 127 rfl rfl rfl) (fun w_ => xr_indexAddr (.slice A23610 t23604.length cp23611) (.int .i64 x34731) (.pointer (some ((⟨g40054, 0, none⟩ : Addr).add ((x34731 : Int).toNat * 1)))) rfl rfl rfl (index_at Try.underlying38 info3 hA40055 (by first | assumption | decide | omega) (by first | assumption | decide | omega))) ?_
                 simp only [ls0, ls1]
                 refine al_take 26 133 (.int .i64 (rd t23604 (wrap64 (x34731 - 1)))) #[true, true, true, true, true, true, true, true, true, true, true, true, true, true, true, true, true, true, true, true, true, true, true, true, true, true, true, true, true, true, false, false, false, false, false] rfl rfl (by kernel_rfl) (fun _ _ _ h_ => h_) (guard_on 20 true 127 rfl rfl rfl) (fun w_ hS_ => xr_load (.pointer (some ((⟨g40052, 0, none⟩ : Addr).add ((wrap64 (x34731 - 1) : Int).toNat * 1)))) (.int .i64 (rd t23604 (wrap64 (x34731 - 1)))) rfl rfl (load_int Try.underlying3 rfl hA40053 hS_ (by first | assumption | decide | omega) (by first | assumption | decide | omega))) (Ft.now (HJ39140.ft)) ?_
                 simp only [ls0, ls1]
                 refine al_take 30 137 (.int .i64 (rd t23604 x34731)) #[true, true, true, true, true, true, true, true, true, true, true, true, true, true, true, true, true, true, true, true, true, true, true, true, true, true, true, true, true, true, true, false, false, false, false] rfl rfl (by kernel_rfl) (fun _ _ _ h_ => h_) (guard_on 20 true 127 rfl rfl rfl) (fun w_ hS_ => xr_load (.pointer (some ((⟨g40054, 0, none⟩ : Addr).add ((x34731 : Int).toNat * 1)))) (.int .i64 (rd t23604 x34731)) rfl rfl (load_int Try.underlying3 rfl hA40055 hS_ (by first | assumption | decide | omega) (by first | assumption | decide | omega))) (Ft.now (HJ39140.ft)) ?_
                 simp only [ls0, ls1]
                 obtain ⟨t40056, A40057, H⟩ := Option.bind_eq_some_iff.mp H
                 (try dsimp only at H)
                 refine al_one 31 #[true, true, true, true, true, true, true, true, true, true, true, true, true, true, true, true, true, true, true, true, true, true, true, true, true, true, true, true, true, true, true, true, false, false, false] rfl rfl (by kernel_rfl) rfl (fun K_ hK_ => ?_)
                 refine goes_ Try.func11 (by kernel_rfl) rfl #[v34728, .int .i64 (rd t23604 (wrap64 (x34731 - 1))), .int .i64 (rd t23604 x34731)] (guard_on 20 true 127 rfl rfl rfl) rfl rfl (by rw [map_ev]; simp only [List.map_toArray, List.map_cons, List.map_nil]; first | done | rfl) ?_
                 refine (order_Order_Most.calls v34728 x34727 (rd t23604 (wrap64 (x34731 - 1))) (rd t23604 x34731) t40056  (fun z_ => pal [(0, 0)] (C40039_ z_)) w40038 (fun _ => pal_lt rfl _) (Ft.arg HJ39139 rfl) A40057).mono ?_
                 rintro _ w40059 ⟨C40060, rfl, hs40061⟩
                 refine ⟨_, rfl, ?_⟩
                 replace hs40061 := Step.lift (U := [(0, 0)]) hs40061 [] rfl rfl
                 generalize up C40039_ C40060 w40038.heap.size [(0, 0)] = C40060_ at hs40061
                 replace HJ39139 := HJ39139.thru hs40061 rfl
                 replace HJ39140 := HJ39140.thru hs40061 rfl
                 replace HS39146 := HS39146.trans hs40061 hc rfl
                 refine hK_ _ _ (Ft.now (HJ39140.ft)) ?_
                 clear hK_ K_
                 (try simp only [Act.put, List.setIfInBounds_toArray, ls0, ls1])
                 refine al_pure 32 139 (.bool (!t40056)) #[true, true, true, true, true, true, true, true, true, true, true, true, true, true, true, true, true, true, true, true, true, true, true, true, true, true, true, true, true, true, true, true, true, false, false] rfl rfl (by kernel_rfl) (fun _ _ _ h_ => h_) (guard_on 20 true 127 rfl rfl rfl) (fun w_ => xr_un (.bool t40056) (.bool (!t40056)) rfl rfl (by first | rfl | (go_simp; done) | (go_simp; rfl) | (go_simp; exact i64_w _) | (go_simp; exact i32_w _))) ?_
                 simp only [ls0, ls1]
                 refine al_pure 33 140 (.bool (!t40056)) #[true, true, true, true, true, true, true, true, true, true, true, true, true, true, true, true, true, true, true, true, true, true, true, true, true, true, true, true, true, true, true, true, true, true, false] rfl rfl (by kernel_rfl) (fun _ _ _ h_ => h_) (guard_on 5 false 112 rfl rfl rfl) (fun w_ => xr_pick true (.bool (!t40056)) rfl rfl rfl) ?_
                 simp only [ls0, ls1]
                 refine al_pure 34 141 (.bool (!t40056)) #[true, true, true, true, true, true, true, true, true, true, true, true, true, true, true, true, true, true, true, true, true, true, true, true, true, true, true, true, true, true, true, true, true, true, true] rfl rfl (by kernel_rfl) (fun _ _ _ h_ => h_) rfl (fun w_ => xr_pick false (.bool (!t40056)) rfl rfl rfl) ?_
                 simp only [ls0, ls1]
                 refine al_end (by kernel_rfl) ?_
                 (try simp only [Act.put, List.setIfInBounds_toArray, ls0, ls1])
                 refine hK40005 _ _ ?_
                 (try clear hK40005 K40005)
                 by_cases c40062 : t40056 = true
                 ·rw [if_pos c40062] at H
                  (try rw [c40062])
                  (try simp only [Bool.not_true, Bool.not_false])
                  refine wp_cond_false rfl ?_
                  refine wp_skip ?_
                  (try simp only [Act.put, List.setIfInBounds_toArray, ls0, ls1])
                  refine hK34745 _ _ ?_
                  (try clear hK34745 K34745)
                  refine wl_region ?_
                  refine st (.int .i64 x34731) rfl rfl (xr_move (.int .i64 x34731) rfl rfl) ?_
                  simp only [ls0, ls1]
                  refine st (.int .i64 (wrap64 (x34731 + 1))) rfl rfl (xr_bin (.int .i64 x34731) (.int .i64 1) (.int .i64 (wrap64 (x34731 + 1))) rfl rfl rfl (B.add_i64 x34731 1)) ?_
                  simp only [ls0, ls1]
                  refine st (.int .i64 (wrap64 (x34731 + 1))) rfl rfl (xr_assign (.int .i64 (wrap64 (x34731 + 1))) rfl rfl) ?_
                  simp only [ls0, ls1]
                  refine wl_end ?_
                  (try simp only [Act.put, List.setIfInBounds_toArray, ls0, ls1])
                  exact ih34738 k39151 (by omega) _ _ ⟨_, wrap64 (x34731 + 1), v34728, x34727, (fun q_ => List.getD [(g39142 0), (g39142 1), (g39142 2), undef, (g39142 4), (g39142 5), undef, undef, .int .i64 x39141, (g39142 9), (g39142 10), (g39142 11), (g39142 12), (g39142 13), (g39142 14), (g39142 15), (g39142 16), (g39142 17), (g39142 18), (g39142 19), (g39142 20), (g39142 21), (g39142 22), (g39142 23), (g39142 24), (g39142 25), (g39142 26), (g39142 27), (g39142 28), (g39142 29), (g39142 30), (g39142 31), (g39142 32), .int .i64 x34731, .int .i64 (wrap64 (x34731 + 1)), .int .i64 x39141, .slice A23610 t23604.length cp23611, .int .i64 (t23604.length : Int), .bool false, (g39142 39), (g39142 40), (g39142 41), (g39142 42), (g39142 43), (g39142 44), (g39142 45), (g39142 46), (g39142 47), (g39142 48), (g39142 49), (g39142 50), (g39142 51), (g39142 52), (g39142 53), (g39142 54), (g39142 55), (g39142 56), (g39142 57), (g39142 58), (g39142 59), (g39142 60), (g39142 61), (g39142 62), (g39142 63), (g39142 64), (g39142 65), (g39142 66), (g39142 67), (g39142 68), (g39142 69), (g39142 70), (g39142 71), (g39142 72), (g39142 73), (g39142 74), (g39142 75), (g39142 76), (g39142 77), (g39142 78), (g39142 79), (g39142 80), (g39142 81), (g39142 82), (g39142 83), (g39142 84), (g39142 85), (g39142 86), (g39142 87), (g39142 88), (g39142 89), (g39142 90), (g39142 91), (g39142 92), (g39142 93), (g39142 94), (g39142 95), (g39142 96), (g39142 97), (g39142 98), (g39142 99), (g39142 100), (g39142 101), (g39142 102), (g39142 103), (g39142 104), (g39142 105), (g39142 106), v34728, .int .i64 x34731, .int .i64 x34731, .bool true, .bool false, .bool false, .int .i64 x34731, .bool true, .bool true, .slice A23610 t23604.length cp23611, .int .i64 x34731, .pointer (some ((⟨g40045, 0, none⟩ : Addr).add ((x34731 : Int).toNat * 1))), .int .i64 (rd t23604 x34731), .slice A23610 t23604.length cp23611, .int .i64 x34731, .int .i64 (wrap64 (x34731 - 1)), .pointer (some ((⟨g40049, 0, none⟩ : Addr).add ((wrap64 (x34731 - 1) : Int).toNat * 1))), .int .i64 (rd t23604 (wrap64 (x34731 - 1))), .bool true, .bool true, .bool true, v34728, .slice A23610 t23604.length cp23611, .int .i64 x34731, .int .i64 (wrap64 (x34731 - 1)), .pointer (some ((⟨g40052, 0, none⟩ : Addr).add ((wrap64 (x34731 - 1) : Int).toNat * 1))), .int .i64 (rd t23604 (wrap64 (x34731 - 1))), .slice A23610 t23604.length cp23611, .int .i64 x34731, .pointer (some ((⟨g40054, 0, none⟩ : Addr).add ((x34731 : Int).toNat * 1))), .int .i64 (rd t23604 x34731), .bool true, .bool false, .bool false, .bool false, (g39142 142)] q_ undef), rfl, HS39146, (by omega), HJ39139, HJ39140, H⟩
                 ·rw [if_neg c40062] at H
                  (try rw [(Bool.eq_false_iff.mpr c40062)])
                  (try simp only [Bool.not_true, Bool.not_false])
                  refine wp_cond_true rfl ?_
                  refine wp_seq_k fun K40063 hK40063 => ?_
                  refine wl_region ?_
                  refine st (.bool false) rfl rfl (xr_assign (.bool false) rfl rfl) ?_
                  simp only [ls0, ls1]
                  refine wl_end ?_
                  (try simp only [Act.put, List.setIfInBounds_toArray, ls0, ls1])
                  refine hK40063 _ _ ?_
                  (try clear hK40063 K40063)
                  refine wp_ret ?_
                  (try simp only [Exit.inBlock, Exit.then, Exit.noGoto])
                  (try simp only [Act.put, List.setIfInBounds_toArray, ls0, ls1])
                  obtain rfl := Option.some.inj H
                  refine bodyPost_ret (results_tmp rfl _ _ _) rfl ?_
                  exact ⟨_, rfl, HS39146⟩
                ·rw [if_neg c40051] at H
                 (try rw [(decide_eq_false c40051)])
                 (try simp only [Bool.not_true, Bool.not_false])
                 refine al_off 21 128 #[true, true, true, true, true, true, true, true, true, true, true, true, true, true, true, true, true, true, true, true, true, true, false, false, false, false, false, false, false, false, false, false, false, false, false] rfl rfl (by kernel_rfl) (fun _ _ _ h_ => h_) (guard_off 20 true 127 rfl rfl false (by decide) rfl) ?_
                 simp only [ls0, ls1]
                 refine al_off 22 129 #[true, true, true, true, true, true, true, true, true, true, true, true, true, true, true, true, true, true, true, true, true, true, true, false, false, false, false, false, false, false, false, false, false, false, false] rfl rfl (by kernel_rfl) (fun _ _ _ h_ => h_) (guard_off 20 true 127 rfl rfl false (by decide) rfl) ?_
                 simp only [ls0, ls1]
                 refine al_off 23 130 #[true, true, true, true, true, true, true, true, true, true, true, true, true, true, true, true, true, true, true, true, true, true, true, true, false, false, false, false, false, false, false, false, false, false, false] rfl rfl (by kernel_rfl) (fun _ _ _ h_ => h_) (guard_off 20 true 127 rfl rfl false (by decide) rfl) ?_
                 simp only [ls0, ls1]
                 refine al_off 24 131 #[true, true, true, true, true, true, true, true, true, true, true, true, true, true, true, true, true, true, true, true, true, true, true, true, true, false, false, false, false, false, false, false, false, false, false] rfl rfl (by kernel_rfl) (fun _ _ _ h_ => h_) (guard_off 20 true 127 rfl rfl false (by decide) rfl) ?_
                 simp only [ls0, ls1]
                 refine al_off 25 132 #[true, true, true, true, true, true, true, true, true, true, true, true, true, true, true, true, true, true, true, true, true, true, true, true, true, true, false, false, false, false, false, false, false, false, false] rfl rfl (by kernel_rfl) (fun _ _ _ h_ => h_) (guard_off 20 true 127 rfl rfl false (by decide) rfl) ?_
                 simp only [ls0, ls1]
                 refine al_off 26 133 #[true, true, true, true, true, true, true, true, true, true, true, true, true, true, true, true, true, true, true, true, true, true, true, true, true, true, true, false, false, false, false, false, false, false, false] rfl rfl (by kernel_rfl) (fun _ _ _ h_ => h_) (guard_off 20 true 127 rfl rfl false (by decide) rfl) ?_
                 simp only [ls0, ls1]
                 refine al_off 27 134 #[true, true, true, true, true, true, true, true, true, true, true, true, true, true, true, true, true, true, true, true, true, true, true, true, true, true, true, true, false, false, false, false, false, false, false] rfl rfl (by kernel_rfl) (fun _ _ _ h_ => h_) (guard_off 20 true 127 rfl rfl false (by decide) rfl) ?_
                 simp only [ls0, ls1]
                 refine al_off 28 135 #[true, true, true, true, true, true, true, true, true, true, true, true, true, true, true, true, true, true, true, true, true, true, true, true, true, true, true, true, true, false, false, false, false, false, false] rfl rfl (by kernel_rfl) (fun _ _ _ h_ => h_) (guard_off 20 true 127 rfl rfl false (by decide) rfl) ?_
                 simp only [ls0, ls1]
                 refine al_off 29 136 #[true, true, true, true, true, true, true, true, true, true, true, true, true, true, true, true, true, true, true, true, true, true, true, true, true, true, true, true, true, true, false, false, false, false, false] rfl rfl (by kernel_rfl) (fun _ _ _ h_ => h_) (guard_off 20 true 127 rfl rfl false (by decide) rfl) ?_
                 simp only [ls0, ls1]
                 refine al_off 30 137 #[true, true, true, true, true, true, true, true, true, true, true, true, true, true, true, true, true, true, true, true, true, true, true, true, true, true, true, true, true, true, true, false, false, false, false] rfl rfl (by kernel_rfl) (fun _ _ _ h_ => h_) (guard_off 20 true 127 rfl rfl false (by decide) rfl) ?_
                 simp only [ls0, ls1]
                 refine al_off 31 138 #[true, true, true, true, true, true, true, true, true, true, true, true, true, true, true, true, true, true, true, true, true, true, true, true, true, true, true, true, true, true, true, true, false, false, false] rfl rfl (by kernel_rfl) (fun _ _ _ h_ => h_) (guard_off 20 true 127 rfl rfl false (by decide) rfl) ?_
                 simp only [ls0, ls1]
                 refine al_off 32 139 #[true, true, true, true, true, true, true, true, true, true, true, true, true, true, true, true, true, true, true, true, true, true, true, true, true, true, true, true, true, true, true, true, true, false, false] rfl rfl (by kernel_rfl) (fun _ _ _ h_ => h_) (guard_off 20 true 127 rfl rfl false (by decide) rfl) ?_
                 simp only [ls0, ls1]
                 refine al_pure 33 140 (.bool false) #[true, true, true, true, true, true, true, true, true, true, true, true, true, true, true, true, true, true, true, true, true, true, true, true, true, true, true, true, true, true, true, true, true, true, false] rfl rfl (by kernel_rfl) (fun _ _ _ h_ => h_) (guard_on 5 false 112 rfl rfl rfl) (fun w_ => xr_pick false (.bool false) rfl rfl rfl) ?_
                 simp only [ls0, ls1]
                 refine al_pure 34 141 (.bool false) #[true, true, true, true, true, true, true, true, true, true, true, true, true, true, true, true, true, true, true, true, true, true, true, true, true, true, true, true, true, true, true, true, true, true, true] rfl rfl (by kernel_rfl) (fun _ _ _ h_ => h_) rfl (fun w_ => xr_pick false (.bool false) rfl rfl rfl) ?_
                 simp only [ls0, ls1]
                 refine al_end (by kernel_rfl) ?_
                 (try simp only [Act.put, List.setIfInBounds_toArray, ls0, ls1])
                 refine hK40005 _ _ ?_
                 (try clear hK40005 K40005)
                 refine wp_cond_false rfl ?_
                 refine wp_skip ?_
                 (try simp only [Act.put, List.setIfInBounds_toArray, ls0, ls1])
                 refine hK34745 _ _ ?_
                 (try clear hK34745 K34745)
                 refine wl_region ?_
                 refine st (.int .i64 x34731) rfl rfl (xr_move (.int .i64 x34731) rfl rfl) ?_
                 simp only [ls0, ls1]
                 refine st (.int .i64 (wrap64 (x34731 + 1))) rfl rfl (xr_bin (.int .i64 x34731) (.int .i64 1) (.int .i64 (wrap64 (x34731 + 1))) rfl rfl rfl (B.add_i64 x34731 1)) ?_
                 simp only [ls0, ls1]
                 refine st (.int .i64 (wrap64 (x34731 + 1))) rfl rfl (xr_assign (.int .i64 (wrap64 (x34731 + 1))) rfl rfl) ?_
                 simp only [ls0, ls1]
                 refine wl_end ?_
                 (try simp only [Act.put, List.setIfInBounds_toArray, ls0, ls1])
                 exact ih34738 k39151 (by omega) _ _ ⟨_, wrap64 (x34731 + 1), v34728, x34727, (fun q_ => List.getD [(g39142 0), (g39142 1), (g39142 2), undef, (g39142 4), (g39142 5), undef, undef, .int .i64 x39141, (g39142 9), (g39142 10), (g39142 11), (g39142 12), (g39142 13), (g39142 14), (g39142 15), (g39142 16), (g39142 17), (g39142 18), (g39142 19), (g39142 20), (g39142 21), (g39142 22), (g39142 23), (g39142 24), (g39142 25), (g39142 26), (g39142 27), (g39142 28), (g39142 29), (g39142 30), (g39142 31), (g39142 32), .int .i64 x34731, .int .i64 (wrap64 (x34731 + 1)), .int .i64 x39141, .slice A23610 t23604.length cp23611, .int .i64 (t23604.length : Int), .bool false, (g39142 39), (g39142 40), (g39142 41), (g39142 42), (g39142 43), (g39142 44), (g39142 45), (g39142 46), (g39142 47), (g39142 48), (g39142 49), (g39142 50), (g39142 51), (g39142 52), (g39142 53), (g39142 54), (g39142 55), (g39142 56), (g39142 57), (g39142 58), (g39142 59), (g39142 60), (g39142 61), (g39142 62), (g39142 63), (g39142 64), (g39142 65), (g39142 66), (g39142 67), (g39142 68), (g39142 69), (g39142 70), (g39142 71), (g39142 72), (g39142 73), (g39142 74), (g39142 75), (g39142 76), (g39142 77), (g39142 78), (g39142 79), (g39142 80), (g39142 81), (g39142 82), (g39142 83), (g39142 84), (g39142 85), (g39142 86), (g39142 87), (g39142 88), (g39142 89), (g39142 90), (g39142 91), (g39142 92), (g39142 93), (g39142 94), (g39142 95), (g39142 96), (g39142 97), (g39142 98), (g39142 99), (g39142 100), (g39142 101), (g39142 102), (g39142 103), (g39142 104), (g39142 105), (g39142 106), v34728, .int .i64 x34731, .int .i64 x34731, .bool true, .bool false, .bool false, .int .i64 x34731, .bool true, .bool true, .slice A23610 t23604.length cp23611, .int .i64 x34731, .pointer (some ((⟨g40045, 0, none⟩ : Addr).add ((x34731 : Int).toNat * 1))), .int .i64 (rd t23604 x34731), .slice A23610 t23604.length cp23611, .int .i64 x34731, .int .i64 (wrap64 (x34731 - 1)), .pointer (some ((⟨g40049, 0, none⟩ : Addr).add ((wrap64 (x34731 - 1) : Int).toNat * 1))), .int .i64 (rd t23604 (wrap64 (x34731 - 1))), .bool false, .bool false, .bool false, undef, undef, undef, undef, undef, undef, undef, undef, undef, undef, undef, undef, .bool false, .bool false, (g39142 142)] q_ undef), rfl, HS39146, (by omega), HJ39139, HJ39140, H⟩
               ·rw [if_neg c40048] at H
                exact absurd H (by simp)
              ·rw [if_neg c40047] at H
               exact absurd H (by simp)
             ·rw [if_neg c40044] at H
              exact absurd H (by simp)
            ·rw [if_neg c40043] at H
             exact absurd H (by simp)
           ·rw [if_neg c40042] at H
            (try rw [(decide_eq_false c40042)])
            (try simp only [Bool.not_true, Bool.not_false])
            refine al_off 9 116 #[true, true, true, true, true, true, true, true, true, true, false, false, false, false, false, false, false, false, false, false, false, false, false, false, false, false, false, false, false, false, false, false, false, false, false] rfl rfl (by kernel_rfl) (fun _ _ _ h_ => h_) (guard_off 8 true 115 rfl rfl false (by decide) rfl) ?_
            simp only [ls0, ls1]
            refine al_off 10 117 #[true, true, true, true, true, true, true, true, true, true, true, false, false, false, false, false, false, false, false, false, false, false, false, false, false, false, false, false, false, false, false, false, false, false, false] rfl rfl (by kernel_rfl) (fun _ _ _ h_ => h_) (guard_off 8 true 115 rfl rfl false (by decide) rfl) ?_
            simp only [ls0, ls1]
            refine al_off 11 118 #[true, true, true, true, true, true, true, true, true, true, true, true, false, false, false, false, false, false, false, false, false, false, false, false, false, false, false, false, false, false, false, false, false, false, false] rfl rfl (by kernel_rfl) (fun _ _ _ h_ => h_) (guard_off 8 true 115 rfl rfl false (by decide) rfl) ?_
            simp only [ls0, ls1]
            refine al_off 12 119 #[true, true, true, true, true, true, true, true, true, true, true, true, true, false, false, false, false, false, false, false, false, false, false, false, false, false, false, false, false, false, false, false, false, false, false] rfl rfl (by kernel_rfl) (fun _ _ _ h_ => h_) (guard_off 8 true 115 rfl rfl false (by decide) rfl) ?_
            simp only [ls0, ls1]
            refine al_off 13 120 #[true, true, true, true, true, true, true, true, true, true, true, true, true, true, false, false, false, false, false, false, false, false, false, false, false, false, false, false, false, false, false, false, false, false, false] rfl rfl (by kernel_rfl) (fun _ _ _ h_ => h_) (guard_off 8 true 115 rfl rfl false (by decide) rfl) ?_
            simp only [ls0, ls1]
            refine al_off 14 121 #[true, true, true, true, true, true, true, true, true, true, true, true, true, true, true, false, false, false, false, false, false, false, false, false, false, false, false, false, false, false, false, false, false, false, false] rfl rfl (by kernel_rfl) (fun _ _ _ h_ => h_) (guard_off 8 true 115 rfl rfl false (by decide) rfl) ?_
            simp only [ls0, ls1]
            refine al_off 15 122 #[true, true, true, true, true, true, true, true, true, true, true, true, true, true, true, true, false, false, false, false, false, false, false, false, false, false, false, false, false, false, false, false, false, false, false] rfl rfl (by kernel_rfl) (fun _ _ _ h_ => h_) (guard_off 8 true 115 rfl rfl false (by decide) rfl) ?_
            simp only [ls0, ls1]
            refine al_off 16 123 #[true, true, true, true, true, true, true, true, true, true, true, true, true, true, true, true, true, false, false, false, false, false, false, false, false, false, false, false, false, false, false, false, false, false, false] rfl rfl (by kernel_rfl) (fun _ _ _ h_ => h_) (guard_off 8 true 115 rfl rfl false (by decide) rfl) ?_
            simp only [ls0, ls1]
            refine al_off 17 124 #[true, true, true, true, true, true, true, true, true, true, true, true, true, true, true, true, true, true, false, false, false, false, false, false, false, false, false, false, false, false, false, false, false, false, false] rfl rfl (by kernel_rfl) (fun _ _ _ h_ => h_) (guard_off 8 true 115 rfl rfl false (by decide) rfl) ?_
            simp only [ls0, ls1]
            refine al_off 18 125 #[true, true, true, true, true, true, true, true, true, true, true, true, true, true, true, true, true, true, true, false, false, false, false, false, false, false, false, false, false, false, false, false, false, false, false] rfl rfl (by kernel_rfl) (fun _ _ _ h_ => h_) (guard_off 8 true 115 rfl rfl false (by decide) rfl) ?_
            simp only [ls0, ls1]
            refine al_pure 19 126 (.bool false) #[true, true, true, true, true, true, true, true, true, true, true, true, true, true, true, true, true, true, true, true, false, false, false, false, false, false, false, false, false, false, false, false, false, false, false] rfl rfl (by kernel_rfl) (fun _ _ _ h_ => h_) (guard_on 5 false 112 rfl rfl rfl) (fun w_ => xr_pick false (.bool false) rfl rfl rfl) ?_
            simp only [ls0, ls1]
            refine al_pure 20 127 (.bool false) #[true, true, true, true, true, true, true, true, true, true, true, true, true, true, true, true, true, true, true, true, true, false, false, false, false, false, false, false, false, false, false, false, false, false, false] rfl rfl (by kernel_rfl) (fun _ _ _ h_ => h_) (guard_on 5 false 112 rfl rfl rfl) (fun w_ => xr_move (.bool false) rfl rfl) ?_
            simp only [ls0, ls1]
            refine al_off 21 128 #[true, true, true, true, true, true, true, true, true, true, true, true, true, true, true, true, true, true, true, true, true, true, false, false, false, false, false, false, false, false, false, false, false, false, false] rfl rfl (by kernel_rfl) (fun _ _ _ h_ => h_) (guard_off 20 true 127 rfl rfl false (by decide) rfl) ?_
            simp only [ls0, ls1]
            refine al_off 22 129 #[true, true, true, true, true, true, true, true, true, true, true, true, true, true, true, true, true, true, true, true, true, true, true, false, false, false, false, false, false, false, false, false, false, false, false] rfl rfl (by kernel_rfl) (fun _ _ _ h_ => h_) (guard_off 20 true 127 rfl rfl false (by decide) rfl) ?_
            simp only [ls0, ls1]
            refine al_off 23 130 #[true, true, true, true, true, true, true, true, true, true, true, true, true, true, true, true, true, true, true, true, true, true, true, true, false, false, false, false, false, false, false, false, false, false, false] rfl rfl (by kernel_rfl) (fun _ _ _ h_ => h_) (guard_off 20 true 127 rfl rfl false (by decide) rfl) ?_
            simp only [ls0, ls1]
            refine al_off 24 131 #[true, true, true, true, true, true, true, true, true, true, true, true, true, true, true, true, true, true, true, true, true, true, true, true, true, false, false, false, false, false, false, false, false, false, false] rfl rfl (by kernel_rfl) (fun _ _ _ h_ => h_) (guard_off 20 true 127 rfl rfl false (by decide) rfl) ?_
            simp only [ls0, ls1]
            refine al_off 25 132 #[true, true, true, true, true, true, true, true, true, true, true, true, true, true, true, true, true, true, true, true, true, true, true, true, true, true, false, false, false, false, false, false, false, false, false] rfl rfl (by kernel_rfl) (fun _ _ _ h_ => h_) (guard_off 20 true 127 rfl rfl false (by decide) rfl) ?_
            simp only [ls0, ls1]
            refine al_off 26 133 #[true, true, true, true, true, true, true, true, true, true, true, true, true, true, true, true, true, true, true, true, true, true, true, true, true, true, true, false, false, false, false, false, false, false, false] rfl rfl (by kernel_rfl) (fun _ _ _ h_ => h_) (guard_off 20 true 127 rfl rfl false (by decide) rfl) ?_
            simp only [ls0, ls1]
            refine al_off 27 134 #[true, true, true, true, true, true, true, true, true, true, true, true, true, true, true, true, true, true, true, true, true, true, true, true, true, true, true, true, false, false, false, false, false, false, false] rfl rfl (by kernel_rfl) (fun _ _ _ h_ => h_) (guard_off 20 true 127 rfl rfl false (by decide) rfl) ?_
            simp only [ls0, ls1]
            refine al_off 28 135 #[true, true, true, true, true, true, true, true, true, true, true, true, true, true, true, true, true, true, true, true, true, true, true, true, true, true, true, true, true, false, false, false, false, false, false] rfl rfl (by kernel_rfl) (fun _ _ _ h_ => h_) (guard_off 20 true 127 rfl rfl false (by decide) rfl) ?_
            simp only [ls0, ls1]
            refine al_off 29 136 #[true, true, true, true, true, true, true, true, true, true, true, true, true, true, true, true, true, true, true, true, true, true, true, true, true, true, true, true, true, true, false, false, false, false, false] rfl rfl (by kernel_rfl) (fun _ _ _ h_ => h_) (guard_off 20 true 127 rfl rfl false (by decide) rfl) ?_
            simp only [ls0, ls1]
            refine al_off 30 137 #[true, true, true, true, true, true, true, true, true, true, true, true, true, true, true, true, true, true, true, true, true, true, true, true, true, true, true, true, true, true, true, false, false, false, false] rfl rfl (by kernel_rfl) (fun _ _ _ h_ => h_) (guard_off 20 true 127 rfl rfl false (by decide) rfl) ?_
            simp only [ls0, ls1]
            refine al_off 31 138 #[true, true, true, true, true, true, true, true, true, true, true, true, true, true, true, true, true, true, true, true, true, true, true, true, true, true, true, true, true, true, true, true, false, false, false] rfl rfl (by kernel_rfl) (fun _ _ _ h_ => h_) (guard_off 20 true 127 rfl rfl false (by decide) rfl) ?_
            simp only [ls0, ls1]
            refine al_off 32 139 #[true, true, true, true, true, true, true, true, true, true, true, true, true, true, true, true, true, true, true, true, true, true, true, true, true, true, true, true, true, true, true, true, true, false, false] rfl rfl (by kernel_rfl) (fun _ _ _ h_ => h_) (guard_off 20 true 127 rfl rfl false (by decide) rfl) ?_
            simp only [ls0, ls1]
            refine al_pure 33 140 (.bool false) #[true, true, true, true, true, true, true, true, true, true, true, true, true, true, true, true, true, true, true, true, true, true, true, true, true, true, true, true, true, true, true, true, true, true, false] rfl rfl (by kernel_rfl) (fun _ _ _ h_ => h_) (guard_on 5 false 112 rfl rfl rfl) (fun w_ => xr_pick false (.bool false) rfl rfl rfl) ?_
            simp only [ls0, ls1]
            refine al_pure 34 141 (.bool false) #[true, true, true, true, true, true, true, true, true, true, true, true, true, true, true, true, true, true, true, true, true, true, true, true, true, true, true, true, true, true, true, true, true, true, true] rfl rfl (by kernel_rfl) (fun _ _ _ h_ => h_) rfl (fun w_ => xr_pick false (.bool false) rfl rfl rfl) ?_
            simp only [ls0, ls1]
            refine al_end (by kernel_rfl) ?_
            (try simp only [Act.put, List.setIfInBounds_toArray, ls0, ls1])
            refine hK40005 _ _ ?_
            (try clear hK40005 K40005)
            refine wp_cond_false rfl ?_
            refine wp_skip ?_
            (try simp only [Act.put, List.setIfInBounds_toArray, ls0, ls1])
            refine hK34745 _ _ ?_
            (try clear hK34745 K34745)
            refine wl_region ?_
            refine st (.int .i64 x34731) rfl rfl (xr_move (.int .i64 x34731) rfl rfl) ?_
            simp only [ls0, ls1]
            refine st (.int .i64 (wrap64 (x34731 + 1))) rfl rfl (xr_bin (.int .i64 x34731) (.int .i64 1) (.int .i64 (wrap64 (x34731 + 1))) rfl rfl rfl (B.add_i64 x34731 1)) ?_
            simp only [ls0, ls1]
            refine st (.int .i64 (wrap64 (x34731 + 1))) rfl rfl (xr_assign (.int .i64 (wrap64 (x34731 + 1))) rfl rfl) ?_
            simp only [ls0, ls1]
            refine wl_end ?_
            (try simp only [Act.put, List.setIfInBounds_toArray, ls0, ls1])
            exact ih34738 k39151 (by omega) _ _ ⟨_, wrap64 (x34731 + 1), v34728, x34727, (fun q_ => List.getD [(g39142 0), (g39142 1), (g39142 2), undef, (g39142 4), (g39142 5), undef, undef, .int .i64 x39141, (g39142 9), (g39142 10), (g39142 11), (g39142 12), (g39142 13), (g39142 14), (g39142 15), (g39142 16), (g39142 17), (g39142 18), (g39142 19), (g39142 20), (g39142 21), (g39142 22), (g39142 23), (g39142 24), (g39142 25), (g39142 26), (g39142 27), (g39142 28), (g39142 29), (g39142 30), (g39142 31), (g39142 32), .int .i64 x34731, .int .i64 (wrap64 (x34731 + 1)), .int .i64 x39141, .slice A23610 t23604.length cp23611, .int .i64 (t23604.length : Int), .bool false, (g39142 39), (g39142 40), (g39142 41), (g39142 42), (g39142 43), (g39142 44), (g39142 45), (g39142 46), (g39142 47), (g39142 48), (g39142 49), (g39142 50), (g39142 51), (g39142 52), (g39142 53), (g39142 54), (g39142 55), (g39142 56), (g39142 57), (g39142 58), (g39142 59), (g39142 60), (g39142 61), (g39142 62), (g39142 63), (g39142 64), (g39142 65), (g39142 66), (g39142 67), (g39142 68), (g39142 69), (g39142 70), (g39142 71), (g39142 72), (g39142 73), (g39142 74), (g39142 75), (g39142 76), (g39142 77), (g39142 78), (g39142 79), (g39142 80), (g39142 81), (g39142 82), (g39142 83), (g39142 84), (g39142 85), (g39142 86), (g39142 87), (g39142 88), (g39142 89), (g39142 90), (g39142 91), (g39142 92), (g39142 93), (g39142 94), (g39142 95), (g39142 96), (g39142 97), (g39142 98), (g39142 99), (g39142 100), (g39142 101), (g39142 102), (g39142 103), (g39142 104), (g39142 105), (g39142 106), v34728, .int .i64 x34731, .int .i64 x34731, .bool true, .bool false, .bool false, .int .i64 x34731, .bool false, .bool false, undef, undef, undef, undef, undef, undef, undef, undef, undef, undef, .bool false, .bool false, undef, undef, undef, undef, undef, undef, undef, undef, undef, undef, undef, undef, .bool false, .bool false, (g39142 142)] q_ undef), rfl, HS39146, (by omega), HJ39139, HJ39140, H⟩
          ·rw [if_neg c40041] at H
           (try rw [(Bool.eq_false_iff.mpr c40041)])
           (try simp only [Bool.not_true, Bool.not_false])
           refine al_off 6 113 #[true, true, true, true, true, true, true, false, false, false, false, false, false, false, false, false, false, false, false, false, false, false, false, false, false, false, false, false, false, false, false, false, false, false, false] rfl rfl (by kernel_rfl) (fun _ _ _ h_ => h_) (guard_off 5 false 112 rfl rfl true (by decide) rfl) ?_
           simp only [ls0, ls1]
           refine al_off 7 114 #[true, true, true, true, true, true, true, true, false, false, false, false, false, false, false, false, false, false, false, false, false, false, false, false, false, false, false, false, false, false, false, false, false, false, false] rfl rfl (by kernel_rfl) (fun _ _ _ h_ => h_) (guard_off 5 false 112 rfl rfl true (by decide) rfl) ?_
           simp only [ls0, ls1]
           refine al_off 8 115 #[true, true, true, true, true, true, true, true, true, false, false, false, false, false, false, false, false, false, false, false, false, false, false, false, false, false, false, false, false, false, false, false, false, false, false] rfl rfl (by kernel_rfl) (fun _ _ _ h_ => h_) (guard_off 5 false 112 rfl rfl true (by decide) rfl) ?_
           simp only [ls0, ls1]
           refine al_off 9 116 #[true, true, true, true, true, true, true, true, true, true, false, false, false, false, false, false, false, false, false, false, false, false, false, false, false, false, false, false, false, false, false, false, false, false, false] rfl rfl (by kernel_rfl) (fun _ _ _ h_ => h_) (guard_und 8 true 115 rfl rfl rfl) ?_
           simp only [ls0, ls1]
           refine al_off 10 117 #[true, true, true, true, true, true, true, true, true, true, true, false, false, false, false, false, false, false, false, false, false, false, false, false, false, false, false, false, false, false, false, false, false, false, false] rfl rfl (by kernel_rfl) (fun _ _ _ h_ => h_) (guard_und 8 true 115 rfl rfl rfl) ?_
           simp only [ls0, ls1]
           refine al_off 11 118 #[true, true, true, true, true, true, true, true, true, true, true, true, false, false, false, false, false, false, false, false, false, false, false, false, false, false, false, false, false, false, false, false, false, false, false] rfl rfl (by kernel_rfl) (fun _ _ _ h_ => h_) (guard_und 8 true 115 rfl rfl rfl) ?_
           simp only [ls0, ls1]
           refine al_off 12 119 #[true, true, true, true, true, true, true, true, true, true, true, true, true, false, false, false, false, false, false, false, false, false, false, false, false, false, false, false, false, false, false, false, false, false, false] rfl rfl (by kernel_rfl) (fun _ _ _ h_ => h_) (guard_und 8 true 115 rfl rfl rfl) ?_
           simp only [ls0, ls1]
           refine al_off 13 120 #[true, true, true, true, true, true, true, true, true, true, true, true, true, true, false, false, false, false, false, false, false, false, false, false, false, false, false, false, false, false, false, false, false, false, false] rfl rfl (by kernel_rfl) (fun _ _ _ h_ => h_) (guard_und 8 true 115 rfl rfl rfl) ?_
           simp only [ls0, ls1]
           refine al_off 14 121 #[true, true, true, true, true, true, true, true, true, true, true, true, true, true, true, false, false, false, false, false, false, false, false, false, false, false, false, false, false, false, false, false, false, false, false] rfl rfl (by kernel_rfl) (fun _ _ _ h_ => h_) (guard_und 8 true 115 rfl rfl rfl) ?_
           simp only [ls0, ls1]
           refine al_off 15 122 #[true, true, true, true, true, true, true, true, true, true, true, true, true, true, true, true, false, false, false, false, false, false, false, false, false, false, false, false, false, false, false, false, false, false, false] rfl rfl (by kernel_rfl) (fun _ _ _ h_ => h_) (guard_und 8 true 115 rfl rfl rfl) ?_
           simp only [ls0, ls1]
           refine al_off 16 123 #[true, true, true, true, true, true, true, true, true, true, true, true, true, true, true, true, true, false, false, false, false, false, false, false, false, false, false, false, false, false, false, false, false, false, false] rfl rfl (by kernel_rfl) (fun _ _ _ h_ => h_) (guard_und 8 true 115 rfl rfl rfl) ?_
           simp only [ls0, ls1]
           refine al_off 17 124 #[true, true, true, true, true, true, true, true, true, true, true, true, true, true, true, true, true, true, false, false, false, false, false, false, false, false, false, false, false, false, false, false, false, false, false] rfl rfl (by kernel_rfl) (fun _ _ _ h_ => h_) (guard_und 8 true 115 rfl rfl rfl) ?_
           simp only [ls0, ls1]
           refine al_off 18 125 #[true, true, true, true, true, true, true, true, true, true, true, true, true, true, true, true, true, true, true, false, false, false, false, false, false, false, false, false, false, false, false, false, false, false, false] rfl rfl (by kernel_rfl) (fun _ _ _ h_ => h_) (guard_und 8 true 115 rfl rfl rfl) ?_
           simp only [ls0, ls1]
           refine al_off 19 126 #[true, true, true, true, true, true, true, true, true, true, true, true, true, true, true, true, true, true, true, true, false, false, false, false, false, false, false, false, false, false, false, false, false, false, false] rfl rfl (by kernel_rfl) (fun _ _ _ h_ => h_) (guard_off 5 false 112 rfl rfl true (by decide) rfl) ?_
           simp only [ls0, ls1]
           refine al_off 20 127 #[true, true, true, true, true, true, true, true, true, true, true, true, true, true, true, true, true, true, true, true, true, false, false, false, false, false, false, false, false, false, false, false, false, false, false] rfl rfl (by kernel_rfl) (fun _ _ _ h_ => h_) (guard_off 5 false 112 rfl rfl true (by decide) rfl) ?_
           simp only [ls0, ls1]
           refine al_off 21 128 #[true, true, true, true, true, true, true, true, true, true, true, true, true, true, true, true, true, true, true, true, true, true, false, false, false, false, false, false, false, false, false, false, false, false, false] rfl rfl (by kernel_rfl) (fun _ _ _ h_ => h_) (guard_und 20 true 127 rfl rfl rfl) ?_
           simp only [ls0, ls1]
           refine al_off 22 129 #[true, true, true, true, true, true, true, true, true, true, true, true, true, true, true, true, true, true, true, true, true, true, true, false, false, false, false, false, false, false, false, false, false, false, false] rfl rfl (by kernel_rfl) (fun _ _ _ h_ => h_) (guard_und 20 true 127 rfl rfl rfl) ?_
           simp only [ls0, ls1]
           refine al_off 23 130 #[true, true, true, true, true, true, true, true, true, true, true, true, true, true, true, true, true, true, true, true, true, true, true, true, false, false, false, false, false, false, false, false, false, false, false] rfl rfl (by kernel_rfl) (fun _ _ _ h_ => h_) (guard_und 20 true 127 rfl rfl rfl) ?_
           simp only [ls0, ls1]
           refine al_off 24 131 #[true, true, true, true, true, true, true, true, true, true, true, true, true, true, true, true, true, true, true, true, true, true, true, true, true, false, false, false, false, false, false, false, false, false, false] rfl rfl (by kernel_rfl) (fun _ _ _ h_ => h_) (guard_und 20 true 127 rfl rfl rfl) ?_
           simp only [ls0, ls1]
           refine al_off 25 132 #[true, true, true, true, true, true, true, true, true, true, true, true, true, true, true, true, true, true, true, true, true, true, true, true, true, true, false, false, false, false, false, false, false, false, false] rfl rfl (by kernel_rfl) (fun _ _ _ h_ => h_) (guard_und 20 true 127 rfl rfl rfl) ?_
           simp only [ls0, ls1]
           refine al_off 26 133 #[true, true, true, true, true, true, true, true, true, true, true, true, true, true, true, true, true, true, true, true, true, true, true, true, true, true, true, false, false, false, false, false, false, false, false] rfl rfl (by kernel_rfl) (fun _ _ _ h_ => h_) (guard_und 20 true 127 rfl rfl rfl) ?_
           simp only [ls0, ls1]
           refine al_off 27 134 #[true, true, true, true, true, true, true, true, true, true, true, true, true, true, true, true, true, true, true, true, true, true, true, true, true, true, true, true, false, false, false, false, false, false, false] rfl rfl (by kernel_rfl) (fun _ _ _ h_ => h_) (guard_und 20 true 127 rfl rfl rfl) ?_
           simp only [ls0, ls1]
           refine al_off 28 135 #[true, true, true, true, true, true, true, true, true, true, true, true, true, true, true, true, true, true, true, true, true, true, true, true, true, true, true, true, true, false, false, false, false, false, false] rfl rfl (by kernel_rfl) (fun _ _ _ h_ => h_) (guard_und 20 true 127 rfl rfl rfl) ?_
           simp only [ls0, ls1]
           refine al_off 29 136 #[true, true, true, true, true, true, true, true, true, true, true, true, true, true, true, true, true, true, true, true, true, true, true, true, true, true, true, true, true, true, false, false, false, false, false] rfl rfl (by kernel_rfl) (fun _ _ _ h_ => h_) (guard_und 20 true 127 rfl rfl rfl) ?_
           simp only [ls0, ls1]
           refine al_off 30 137 #[true, true, true, true, true, true, true, true, true, true, true, true, true, true, true, true, true, true, true, true, true, true, true, true, true, true, true, true, true, true, true, false, false, false, false] rfl rfl (by kernel_rfl) (fun _ _ _ h_ => h_) (guard_und 20 true 127 rfl rfl rfl) ?_
           simp only [ls0, ls1]
           refine al_off 31 138 #[true, true, true, true, true, true, true, true, true, true, true, true, true, true, true, true, true, true, true, true, true, true, true, true, true, true, true, true, true, true, true, true, false, false, false] rfl rfl (by kernel_rfl) (fun _ _ _ h_ => h_) (guard_und 20 true 127 rfl rfl rfl) ?_
           simp only [ls0, ls1]
           refine al_off 32 139 #[true, true, true, true, true, true, true, true, true, true, true, true, true, true, true, true, true, true, true, true, true, true, true, true, true, true, true, true, true, true, true, true, true, false, false] rfl rfl (by kernel_rfl) (fun _ _ _ h_ => h_) (guard_und 20 true 127 rfl rfl rfl) ?_
           simp only [ls0, ls1]
           refine al_off 33 140 #[true, true, true, true, true, true, true, true, true, true, true, true, true, true, true, true, true, true, true, true, true, true, true, true, true, true, true, true, true, true, true, true, true, true, false] rfl rfl (by kernel_rfl) (fun _ _ _ h_ => h_) (guard_off 5 false 112 rfl rfl true (by decide) rfl) ?_
           simp only [ls0, ls1]
           refine al_pure 34 141 (.bool true) #[true, true, true, true, true, true, true, true, true, true, true, true, true, true, true, true, true, true, true, true, true, true, true, true, true, true, true, true, true, true, true, true, true, true, true] rfl rfl (by kernel_rfl) (fun _ _ _ h_ => h_) rfl (fun w_ => xr_pick true (.bool true) rfl rfl rfl) ?_
           simp only [ls0, ls1]
           refine al_end (by kernel_rfl) ?_
           (try simp only [Act.put, List.setIfInBounds_toArray, ls0, ls1])
           refine hK40005 _ _ ?_
           (try clear hK40005 K40005)
           refine wp_cond_true rfl ?_
           refine wp_seq_k fun K40064 hK40064 => ?_
           refine wl_region ?_
           refine st (.bool false) rfl rfl (xr_assign (.bool false) rfl rfl) ?_
           simp only [ls0, ls1]
           refine wl_end ?_
           (try simp only [Act.put, List.setIfInBounds_toArray, ls0, ls1])
           refine hK40064 _ _ ?_
           (try clear hK40064 K40064)
           refine wp_ret ?_
           (try simp only [Exit.inBlock, Exit.then, Exit.noGoto])
           (try simp only [Act.put, List.setIfInBounds_toArray, ls0, ls1])
           obtain rfl := Option.some.inj H
           refine bodyPost_ret (results_tmp rfl _ _ _) rfl ?_
           exact ⟨_, rfl, HS39146⟩
      ·rw [if_neg c34744] at H
       (try rw [(decide_eq_false c34744)])
       (try simp only [Bool.not_true, Bool.not_false])
       refine wp_cond_false rfl ?_
       refine wp_exit ?_
       (try simp only [Act.put, List.setIfInBounds_toArray, ls0, ls1])
       refine hK23623 _ _ ?_
       (try clear hK23623 K23623)
       refine wp_seq_k fun K40065 hK40065 => ?_
       refine wl_region ?_
       obtain ⟨t40066, A40067, H⟩ := Option.bind_eq_some_iff.mp H
       (try dsimp only at H)
       refine st_call #[] rfl rfl Try.func9 (by kernel_rfl) rfl rfl (by simp only [List.map_toArray, List.map_cons, List.map_nil]; first | done | rfl) ?_
       refine (blazonlaw13_awake.calls k34741 t40066  (fun z_ => pal [(0, 0)] (C34733 z_)) w34734 (fun _ => pal_lt rfl _) A40067).mono ?_
       rintro _ w40069 ⟨C40070, rfl, hs40071⟩
       refine ⟨_, rfl, ?_⟩
       replace hs40071 := Step.lift (U := [(0, 0)]) hs40071 [] rfl rfl
       generalize up C34733 C40070 w34734.heap.size [(0, 0)] = C40070_ at hs40071
       replace HS34736 := HS34736.trans hs40071 hc rfl
       (try simp only [Act.put, List.setIfInBounds_toArray, ls0, ls1])
       refine st (.bool t40066) rfl rfl (xr_assign (.bool t40066) rfl rfl) ?_
       simp only [ls0, ls1]
       refine wl_end ?_
       (try simp only [Act.put, List.setIfInBounds_toArray, ls0, ls1])
       refine hK40065 _ _ ?_
       (try clear hK40065 K40065)
       refine wp_ret ?_
       (try simp only [Exit.inBlock, Exit.then, Exit.noGoto])
       (try simp only [Act.put, List.setIfInBounds_toArray, ls0, ls1])
       obtain rfl := Option.some.inj H
       refine bodyPost_ret (results_tmp rfl _ _ _) rfl ?_
       exact ⟨_, rfl, HS34736⟩
   ·rw [if_neg c23622] at H
    (try rw [(decide_eq_false c23622)])
    (try simp only [Bool.not_true, Bool.not_false])
    refine wp_cond_true rfl ?_
    refine wp_seq_k fun K40072 hK40072 => ?_
    refine wl_region ?_
    refine st (.bool false) rfl rfl (xr_assign (.bool false) rfl rfl) ?_
    simp only [ls0, ls1]
    refine wl_end ?_
    (try simp only [Act.put, List.setIfInBounds_toArray, ls0, ls1])
    refine hK40072 _ _ ?_
    (try clear hK40072 K40072)
    refine wp_ret ?_
    (try simp only [Exit.inBlock, Exit.then, Exit.noGoto])
    (try simp only [Act.put, List.setIfInBounds_toArray, ls0, ls1])
    obtain rfl := Option.some.inj H
    refine bodyPost_ret (results_tmp rfl _ _ _) rfl ?_
    exact ⟨_, rfl, HS⟩
  ·rw [if_neg c23602] at H
   (try rw [(decide_eq_false c23602)])
   (try simp only [Bool.not_true, Bool.not_false])
   refine wp_cond_true rfl ?_
   refine wp_seq_k fun K40073 hK40073 => ?_
   refine wl_region ?_
   obtain ⟨t40074, A40075, H⟩ := Option.bind_eq_some_iff.mp H
   (try dsimp only at H)
   refine st_call #[] rfl rfl Try.func9 (by kernel_rfl) rfl rfl (by simp only [List.map_toArray, List.map_cons, List.map_nil]; first | done | rfl) ?_
   refine (blazonlaw13_awake.calls k t40074  (fun z_ => pal [(0, 0)] (C23596_ z_)) w23595 (fun _ => pal_lt rfl _) A40075).mono ?_
   rintro _ w40077 ⟨C40078, rfl, hs40079⟩
   refine ⟨_, rfl, ?_⟩
   replace hs40079 := Step.lift (U := [(0, 0)]) hs40079 [] rfl rfl
   generalize up C23596_ C40078 w23595.heap.size [(0, 0)] = C40078_ at hs40079
   replace HS := HS.trans hs40079 hc rfl
   (try simp only [Act.put, List.setIfInBounds_toArray, ls0, ls1])
   refine st (.bool t40074) rfl rfl (xr_assign (.bool t40074) rfl rfl) ?_
   simp only [ls0, ls1]
   refine wl_end ?_
   (try simp only [Act.put, List.setIfInBounds_toArray, ls0, ls1])
   refine hK40073 _ _ ?_
   (try clear hK40073 K40073)
   refine wp_ret ?_
   (try simp only [Exit.inBlock, Exit.then, Exit.noGoto])
   (try simp only [Act.put, List.setIfInBounds_toArray, ls0, ls1])
   obtain rfl := Option.some.inj H
   refine bodyPost_ret (results_tmp rfl _ _ _) rfl ?_
   exact ⟨_, rfl, HS⟩
/-- THE ONE PURE STATEMENT of blazonlaw13_OrderSorts. -/
def blazonlaw13_OrderSorts.Pure : Prop := ∀ (l0 : List (S25)), l0.length ≤ maxLen → l0.length * 40 ≤ 140737488351232 → (∀ x_ ∈ l0, Ok25 x_) → ∃ k, blazonlaw13_OrderSorts.f k l0 = some true

end Go.Proofs.Ytpfepkkpbampkaa.POrs
