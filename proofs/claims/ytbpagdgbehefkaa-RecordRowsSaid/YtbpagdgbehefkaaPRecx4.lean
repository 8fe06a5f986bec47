-- By cprint.py, a program of this work. Lean checks it.
import Derived.Test.YtbpagdgbehefkaaPRecx0
import Derived.Test.YtbpagdgbehefkaaPRecx1
import Derived.Test.YtbpagdgbehefkaaPRecx2
import Derived.Test.YtbpagdgbehefkaaPRecx3
namespace Go.Proofs.Ytbpagdgbehefkaa.PRec
open Go.RowKit Go.Proofs.YtbpagdgbehefkaaW.PrintWords Go.Proofs.YtbpagdgbehefkaaW.PrintLast Go.Proofs.YtbpagdgbehefkaaW.PrintMore
set_option linter.unusedVariables false
set_option linter.unusedSimpArgs false

/-! ### blazonref01_Kept: function 26 -/
def blazonref01_Kept.f (k : Nat) (l0 : List Int) (l1 : List Int) : Option (Bool) := if 0 ≤ (wrap64 ((l1.length : Int) + 3)) then (if (wrap64 ((l1.length : Int) + 3)) ≤ ((l0 ++ [77, 78, 79]).length : Int) then ((some ((l0 ++ [77, 78, 79]).take (wrap64 ((l1.length : Int) + 3) : Int).toNat : List Int)).bind fun y2629 => (if 0 ≤ (l1.length : Int) then (if (l1.length : Int) ≤ (y2629.length : Int) then ((some (y2629.take ((l1.length : Int) : Int).toNat : List Int)).bind fun y2640 => ((blazonref01_Same.f k y2640 l1).bind fun t2648 => (if t2648 = true then (if (l1.length : Int) < (y2629.length : Int) then (if (rd y2629 (l1.length : Int)) = 77 then (if 0 ≤ (wrap64 ((l1.length : Int) + 1)) then (if (wrap64 ((l1.length : Int) + 1)) < (y2629.length : Int) then (if (rd y2629 (wrap64 ((l1.length : Int) + 1))) = 78 then (if 0 ≤ (wrap64 ((l1.length : Int) + 2)) then (if (wrap64 ((l1.length : Int) + 2)) < (y2629.length : Int) then (some (decide ((rd y2629 (wrap64 ((l1.length : Int) + 2))) = 79))) else (none)) else (none)) else (some false)) else (none)) else (none)) else (some false)) else (none)) else (some false)))) else (none)) else (none))) else (none)) else (none)
theorem blazonref01_Kept.mono : ∀ a0 a1 k, LeO (blazonref01_Kept.f k a0 a1) (blazonref01_Kept.f (k + 1) a0 a1) := by
  intro a0 a1 k
  unfold blazonref01_Kept.f
  repeat' first
      | (with_reducible exact blazonref01_Same.mono _ _ _)
      | (with_reducible exact LeO.refl _)
      | (with_reducible exact LeO.none _)
      | (with_reducible refine LeO.ite ?_ ?_)
      | (with_reducible refine LeO.bind ?_ (fun _ => ?_))
      | exact blazonref01_Same.mono _ _ _
      | exact LeO.none _
      | refine LeO.ite ?_ ?_
      | refine LeO.bind ?_ (fun _ => ?_)
set_option maxHeartbeats 2000000 in
set_option maxRecDepth 100000 in
theorem blazonref01_Kept.calls (k : Nat) (A0 : Option Addr) (c0 : Nat) (l0 : List Int) (A1 : Option Addr) (c1 : Nat) (l1 : List Int) (r : Bool) (c : Nat → Nat) (w : World) (hc : ∀ k, c k < 10) (HP0 : Ft c [0] w (fun w_ => (Kd.int .u8).C w_ A0 l0.length l0)) (HCP0 : l0.length ≤ c0) (HT0 : Ft c [0] w (fun w_ => (Kd.int .u8).C w_ A0 (l0 ++ [77, 78, 79]).length (l0 ++ [77, 78, 79]))) (HTC0 : (l0 ++ [77, 78, 79]).length ≤ c0) (HP1 : Ft c [0] w (fun w_ => (Kd.int .u8).C w_ A1 l1.length l1)) (HCP1 : l1.length ≤ c1) (H : blazonref01_Kept.f k l0 l1 = some r) :
    Calls Try.prog 26 #[.slice A0 l0.length c0, .slice A1 l1.length c1] w fun e w' => ∃ (c' : Nat → Nat) , e = .returned (.bool r) ∧ Step c w c' w' [] := by
  unfold blazonref01_Kept.f at H
  have HS := Step.refl c w []
  go_enter Try.func26, Try.ntmps26
  refine wp_seq_k fun K2625 hK2625 => ?_
  refine wl_region ?_
  refine st (.bool false) rfl rfl (xr_assign (.bool false) rfl rfl) ?_
  simp only [List.set_cons_zero, List.set_cons_succ]
  refine wl_end ?_
  (try simp only [Act.put, List.setIfInBounds_toArray, List.set_cons_zero, List.set_cons_succ])
  refine hK2625 _ _ ?_
  (try clear hK2625 K2625)
  refine wp_seq_k fun K2626 hK2626 => ?_
  refine wl_region ?_
  refine st (.slice A0 l0.length c0) rfl rfl (xr_move (.slice A0 l0.length c0) rfl rfl) ?_
  simp only [List.set_cons_zero, List.set_cons_succ]
  refine st (.slice A1 l1.length c1) rfl rfl (xr_move (.slice A1 l1.length c1) rfl rfl) ?_
  simp only [List.set_cons_zero, List.set_cons_succ]
  refine st (.int .i64 (l1.length : Int)) rfl rfl (xr_builtin #[.slice A1 l1.length c1] (.int .i64 (l1.length : Int)) rfl (by simp only [List.map_toArray, List.map_cons, List.map_nil]; first | done | rfl) (by first | rfl | (go_simp; done) | (go_simp; rfl) | (go_simp; exact i64_w _) | (go_simp; exact i32_w _))) ?_
  simp only [List.set_cons_zero, List.set_cons_succ]
  refine st (.int .i64 (wrap64 ((l1.length : Int) + 3))) rfl rfl (xr_bin (.int .i64 (l1.length : Int)) (.int .i64 3) (.int .i64 (wrap64 ((l1.length : Int) + 3))) rfl rfl rfl (B.add_i64 (l1.length : Int) 3)) ?_
  simp only [List.set_cons_zero, List.set_cons_succ]
  by_cases c2627 : 0 ≤ (wrap64 ((l1.length : Int) + 3))
  · rw [if_pos c2627] at H
    by_cases c2628 : (wrap64 ((l1.length : Int) + 3)) ≤ ((l0 ++ [77, 78, 79]).length : Int)
    · rw [if_pos c2628] at H
      obtain ⟨y2629, A2630, H⟩ := Option.bind_eq_some_iff.mp H
      (try dsimp only at H)
      obtain ⟨iz2636, hiz2636, _, hzz2636, _⟩ := info_parts info5
      obtain ⟨hr2635, HR2633, HC2634⟩ := cutOver (t := 23) (Kd.int .u8) 5 .i64 Try.underlying23 hiz2636 (n0 := l0.length) HT0 HTC0 (by first | assumption | omega | decide) (by first | assumption | omega | decide) (Option.some.inj A2630)
      refine st (.slice A0 y2629.length c0) rfl rfl (xr_slice (.slice A0 l0.length c0) none (some (.int .i64 (wrap64 ((l1.length : Int) + 3)))) none (.slice A0 y2629.length c0) rfl rfl rfl rfl rfl (hr2635 _)) ?_
      simp only [List.set_cons_zero, List.set_cons_succ]
      clear hr2635 hiz2636 hzz2636
      refine st (.slice A0 y2629.length c0) rfl rfl (xr_assign (.slice A0 y2629.length c0) rfl rfl) ?_
      simp only [List.set_cons_zero, List.set_cons_succ]
      refine wl_end ?_
      (try simp only [Act.put, List.setIfInBounds_toArray, List.set_cons_zero, List.set_cons_succ])
      refine hK2626 _ _ ?_
      (try clear hK2626 K2626)
      refine wp_seq_k fun K2637 hK2637 => ?_
      refine wl_region ?_
      refine st (.slice A0 y2629.length c0) rfl rfl (xr_move (.slice A0 y2629.length c0) rfl rfl) ?_
      simp only [List.set_cons_zero, List.set_cons_succ]
      refine st (.slice A1 l1.length c1) rfl rfl (xr_move (.slice A1 l1.length c1) rfl rfl) ?_
      simp only [List.set_cons_zero, List.set_cons_succ]
      refine st (.int .i64 (l1.length : Int)) rfl rfl (xr_builtin #[.slice A1 l1.length c1] (.int .i64 (l1.length : Int)) rfl (by simp only [List.map_toArray, List.map_cons, List.map_nil]; first | done | rfl) (by first | rfl | (go_simp; done) | (go_simp; rfl) | (go_simp; exact i64_w _) | (go_simp; exact i32_w _))) ?_
      simp only [List.set_cons_zero, List.set_cons_succ]
      by_cases c2638 : 0 ≤ (l1.length : Int)
      · rw [if_pos c2638] at H
        by_cases c2639 : (l1.length : Int) ≤ (y2629.length : Int)
        · rw [if_pos c2639] at H
          obtain ⟨y2640, A2641, H⟩ := Option.bind_eq_some_iff.mp H
          (try dsimp only at H)
          obtain ⟨iz2647, hiz2647, _, hzz2647, _⟩ := info_parts info5
          obtain ⟨hr2646, HR2644, HC2645⟩ := cutTo (t := 23) (Kd.int .u8) 5 .i64 Try.underlying23 hiz2647 HR2633 HC2634 (by first | assumption | omega | decide) (by first | assumption | omega | decide) (Option.some.inj A2641)
          refine st (.slice A0 y2640.length c0) rfl rfl (xr_slice (.slice A0 y2629.length c0) none (some (.int .i64 (l1.length : Int))) none (.slice A0 y2640.length c0) rfl rfl rfl rfl rfl (hr2646 _)) ?_
          simp only [List.set_cons_zero, List.set_cons_succ]
          clear hr2646 hiz2647 hzz2647
          refine st (.slice A1 l1.length c1) rfl rfl (xr_move (.slice A1 l1.length c1) rfl rfl) ?_
          simp only [List.set_cons_zero, List.set_cons_succ]
          obtain ⟨t2648, A2649, H⟩ := Option.bind_eq_some_iff.mp H
          (try dsimp only at H)
          refine st_call #[.slice A0 y2640.length c0, .slice A1 l1.length c1] rfl rfl Try.func17 (by kernel_rfl) rfl rfl (by simp only [List.map_toArray, List.map_cons, List.map_nil]; first | done | rfl) ?_
          refine (blazonref01_Same.calls k A0 c0 y2640 A1 c1 l1 t2648  (fun z_ => pal [(0, 0)] (c z_)) w (fun _ => pal_lt rfl _) (Ft.arg HR2644 rfl) HC2645 (Ft.arg HP1 rfl) HCP1 A2649).mono ?_
          rintro _ w2651 ⟨C2652, rfl, hs2653⟩
          refine ⟨_, rfl, ?_⟩
          replace hs2653 := Step.lift (U := [(0, 0)]) hs2653 [] rfl rfl
          generalize up c C2652 w.heap.size [(0, 0)] = C2652_ at hs2653
          replace HT0 := HT0.thru hs2653 rfl
          replace HP1 := HP1.thru hs2653 rfl
          replace HR2633 := HR2633.thru hs2653 rfl
          replace HS := HS.trans hs2653 hc rfl
          (try simp only [Act.put, List.setIfInBounds_toArray, List.set_cons_zero, List.set_cons_succ])
          refine st (.bool t2648) rfl rfl (xr_move (.bool t2648) rfl rfl) ?_
          simp only [List.set_cons_zero, List.set_cons_succ]
          by_cases c2654 : t2648 = true
          · rw [if_pos c2654] at H
            (try rw [c2654])
            (try simp only [Bool.not_true, Bool.not_false])
            refine on_guard (guard_on 6 true 17 rfl rfl rfl) ?_
            refine st (.slice A0 y2629.length c0) rfl rfl (xr_move (.slice A0 y2629.length c0) rfl rfl) ?_
            simp only [List.set_cons_zero, List.set_cons_succ]
            refine on_guard (guard_on 6 true 17 rfl rfl rfl) ?_
            refine st (.slice A1 l1.length c1) rfl rfl (xr_move (.slice A1 l1.length c1) rfl rfl) ?_
            simp only [List.set_cons_zero, List.set_cons_succ]
            refine on_guard (guard_on 6 true 17 rfl rfl rfl) ?_
            refine st (.int .i64 (l1.length : Int)) rfl rfl (xr_builtin #[.slice A1 l1.length c1] (.int .i64 (l1.length : Int)) rfl (by simp only [List.map_toArray, List.map_cons, List.map_nil]; first | done | rfl) (by first | rfl | (go_simp; done) | (go_simp; rfl) | (go_simp; exact i64_w _) | (go_simp; exact i32_w _))) ?_
            simp only [List.set_cons_zero, List.set_cons_succ]
            refine on_guard (guard_on 6 true 17 rfl rfl rfl) ?_
            by_cases c2655 : (l1.length : Int) < (y2629.length : Int)
            · rw [if_pos c2655] at H
              obtain ⟨ad2656, hA2657⟩ := c_addr (Ft.now HR2633) (pos_of (j := (l1.length : Int)) (by first | assumption | decide) (by first | assumption | omega))
              refine st (.pointer (some (ad2656.add (((l1.length : Int) : Int).toNat * 1)))) rfl rfl (xr_indexAddr (.slice A0 y2629.length c0) (.int .i64 (l1.length : Int)) (.pointer (some (ad2656.add (((l1.length : Int) : Int).toNat * 1)))) rfl rfl rfl (index_at Try.underlying23 info5 hA2657 (by first | assumption | decide | omega) (by first | assumption | decide | omega))) ?_
              simp only [List.set_cons_zero, List.set_cons_succ]
              refine on_guard (guard_on 6 true 17 rfl rfl rfl) ?_
              refine st (.int .u8 (rd y2629 (l1.length : Int))) rfl rfl (xr_load (.pointer (some (ad2656.add (((l1.length : Int) : Int).toNat * 1)))) (.int .u8 (rd y2629 (l1.length : Int))) rfl rfl (load_int Try.underlying5 rfl hA2657 (Ft.now HR2633) (by first | assumption | decide | omega) (by first | assumption | decide | omega))) ?_
              simp only [List.set_cons_zero, List.set_cons_succ]
              refine on_guard (guard_on 6 true 17 rfl rfl rfl) ?_
              refine st (.bool (decide ((rd y2629 (l1.length : Int)) = 77))) rfl rfl (xr_bin (.int .u8 (rd y2629 (l1.length : Int))) (.int .u8 77) (.bool (decide ((rd y2629 (l1.length : Int)) = 77))) rfl rfl rfl (B.eql_u8 (rd y2629 (l1.length : Int)) 77)) ?_
              simp only [List.set_cons_zero, List.set_cons_succ]
              refine st (.bool (decide ((rd y2629 (l1.length : Int)) = 77))) rfl rfl (xr_pick true (.bool (decide ((rd y2629 (l1.length : Int)) = 77))) rfl rfl rfl) ?_
              simp only [List.set_cons_zero, List.set_cons_succ]
              refine st (.bool (decide ((rd y2629 (l1.length : Int)) = 77))) rfl rfl (xr_move (.bool (decide ((rd y2629 (l1.length : Int)) = 77))) rfl rfl) ?_
              simp only [List.set_cons_zero, List.set_cons_succ]
              by_cases c2658 : (rd y2629 (l1.length : Int)) = 77
              · rw [if_pos c2658] at H
                (try rw [(decide_eq_true c2658)])
                (try simp only [Bool.not_true, Bool.not_false])
                refine on_guard (guard_on 14 true 25 rfl rfl rfl) ?_
                refine st (.slice A0 y2629.length c0) rfl rfl (xr_move (.slice A0 y2629.length c0) rfl rfl) ?_
                simp only [List.set_cons_zero, List.set_cons_succ]
                refine on_guard (guard_on 14 true 25 rfl rfl rfl) ?_
                refine st (.slice A1 l1.length c1) rfl rfl (xr_move (.slice A1 l1.length c1) rfl rfl) ?_
                simp only [List.set_cons_zero, List.set_cons_succ]
                refine on_guard (guard_on 14 true 25 rfl rfl rfl) ?_
                refine st (.int .i64 (l1.length : Int)) rfl rfl (xr_builtin #[.slice A1 l1.length c1] (.int .i64 (l1.length : Int)) rfl (by simp only [List.map_toArray, List.map_cons, List.map_nil]; first | done | rfl) (by first | rfl | (go_simp; done) | (go_simp; rfl) | (go_simp; exact i64_w _) | (go_simp; exact i32_w _))) ?_
                simp only [List.set_cons_zero, List.set_cons_succ]
                refine on_guard (guard_on 14 true 25 rfl rfl rfl) ?_
                refine st (.int .i64 (wrap64 ((l1.length : Int) + 1))) rfl rfl (xr_bin (.int .i64 (l1.length : Int)) (.int .i64 1) (.int .i64 (wrap64 ((l1.length : Int) + 1))) rfl rfl rfl (B.add_i64 (l1.length : Int) 1)) ?_
                simp only [List.set_cons_zero, List.set_cons_succ]
                refine on_guard (guard_on 14 true 25 rfl rfl rfl) ?_
                by_cases c2659 : 0 ≤ (wrap64 ((l1.length : Int) + 1))
                · rw [if_pos c2659] at H
                  by_cases c2660 : (wrap64 ((l1.length : Int) + 1)) < (y2629.length : Int)
                  · rw [if_pos c2660] at H
                    obtain ⟨ad2661, hA2662⟩ := c_addr (Ft.now HR2633) (pos_of (j := (wrap64 ((l1.length : Int) + 1))) (by first | assumption | decide) (by first | assumption | omega))
                    refine st (.pointer (some (ad2661.add ((wrap64 ((l1.length : Int) + 1) : Int).toNat * 1)))) rfl rfl (xr_indexAddr (.slice A0 y2629.length c0) (.int .i64 (wrap64 ((l1.length : Int) + 1))) (.pointer (some (ad2661.add ((wrap64 ((l1.length : Int) + 1) : Int).toNat * 1)))) rfl rfl rfl (index_at Try.underlying23 info5 hA2662 (by first | assumption | decide | omega) (by first | assumption | decide | omega))) ?_
                    simp only [List.set_cons_zero, List.set_cons_succ]
                    refine on_guard (guard_on 14 true 25 rfl rfl rfl) ?_
                    refine st (.int .u8 (rd y2629 (wrap64 ((l1.length : Int) + 1)))) rfl rfl (xr_load (.pointer (some (ad2661.add ((wrap64 ((l1.length : Int) + 1) : Int).toNat * 1)))) (.int .u8 (rd y2629 (wrap64 ((l1.length : Int) + 1)))) rfl rfl (load_int Try.underlying5 rfl hA2662 (Ft.now HR2633) (by first | assumption | decide | omega) (by first | assumption | decide | omega))) ?_
                    simp only [List.set_cons_zero, List.set_cons_succ]
                    refine on_guard (guard_on 14 true 25 rfl rfl rfl) ?_
                    refine st (.bool (decide ((rd y2629 (wrap64 ((l1.length : Int) + 1))) = 78))) rfl rfl (xr_bin (.int .u8 (rd y2629 (wrap64 ((l1.length : Int) + 1)))) (.int .u8 78) (.bool (decide ((rd y2629 (wrap64 ((l1.length : Int) + 1))) = 78))) rfl rfl rfl (B.eql_u8 (rd y2629 (wrap64 ((l1.length : Int) + 1))) 78)) ?_
                    simp only [List.set_cons_zero, List.set_cons_succ]
                    refine st (.bool (decide ((rd y2629 (wrap64 ((l1.length : Int) + 1))) = 78))) rfl rfl (xr_pick true (.bool (decide ((rd y2629 (wrap64 ((l1.length : Int) + 1))) = 78))) rfl rfl rfl) ?_
                    simp only [List.set_cons_zero, List.set_cons_succ]
                    refine st (.bool (decide ((rd y2629 (wrap64 ((l1.length : Int) + 1))) = 78))) rfl rfl (xr_move (.bool (decide ((rd y2629 (wrap64 ((l1.length : Int) + 1))) = 78))) rfl rfl) ?_
                    simp only [List.set_cons_zero, List.set_cons_succ]
                    by_cases c2663 : (rd y2629 (wrap64 ((l1.length : Int) + 1))) = 78
                    · rw [if_pos c2663] at H
                      (try rw [(decide_eq_true c2663)])
                      (try simp only [Bool.not_true, Bool.not_false])
                      refine on_guard (guard_on 23 true 34 rfl rfl rfl) ?_
                      refine st (.slice A0 y2629.length c0) rfl rfl (xr_move (.slice A0 y2629.length c0) rfl rfl) ?_
                      simp only [List.set_cons_zero, List.set_cons_succ]
                      refine on_guard (guard_on 23 true 34 rfl rfl rfl) ?_
                      refine st (.slice A1 l1.length c1) rfl rfl (xr_move (.slice A1 l1.length c1) rfl rfl) ?_
                      simp only [List.set_cons_zero, List.set_cons_succ]
                      refine on_guard (guard_on 23 true 34 rfl rfl rfl) ?_
                      refine st (.int .i64 (l1.length : Int)) rfl rfl (xr_builtin #[.slice A1 l1.length c1] (.int .i64 (l1.length : Int)) rfl (by simp only [List.map_toArray, List.map_cons, List.map_nil]; first | done | rfl) (by first | rfl | (go_simp; done) | (go_simp; rfl) | (go_simp; exact i64_w _) | (go_simp; exact i32_w _))) ?_
                      simp only [List.set_cons_zero, List.set_cons_succ]
                      refine on_guard (guard_on 23 true 34 rfl rfl rfl) ?_
                      refine st (.int .i64 (wrap64 ((l1.length : Int) + 2))) rfl rfl (xr_bin (.int .i64 (l1.length : Int)) (.int .i64 2) (.int .i64 (wrap64 ((l1.length : Int) + 2))) rfl rfl rfl (B.add_i64 (l1.length : Int) 2)) ?_
                      simp only [List.set_cons_zero, List.set_cons_succ]
                      refine on_guard (guard_on 23 true 34 rfl rfl rfl) ?_
                      by_cases c2664 : 0 ≤ (wrap64 ((l1.length : Int) + 2))
                      · rw [if_pos c2664] at H
                        by_cases c2665 : (wrap64 ((l1.length : Int) + 2)) < (y2629.length : Int)
                        · rw [if_pos c2665] at H
                          obtain ⟨ad2666, hA2667⟩ := c_addr (Ft.now HR2633) (pos_of (j := (wrap64 ((l1.length : Int) + 2))) (by first | assumption | decide) (by first | assumption | omega))
                          refine st (.pointer (some (ad2666.add ((wrap64 ((l1.length : Int) + 2) : Int).toNat * 1)))) rfl rfl (xr_indexAddr (.slice A0 y2629.length c0) (.int .i64 (wrap64 ((l1.length : Int) + 2))) (.pointer (some (ad2666.add ((wrap64 ((l1.length : Int) + 2) : Int).toNat * 1)))) rfl rfl rfl (index_at Try.underlying23 info5 hA2667 (by first | assumption | decide | omega) (by first | assumption | decide | omega))) ?_
                          simp only [List.set_cons_zero, List.set_cons_succ]
                          refine on_guard (guard_on 23 true 34 rfl rfl rfl) ?_
                          refine st (.int .u8 (rd y2629 (wrap64 ((l1.length : Int) + 2)))) rfl rfl (xr_load (.pointer (some (ad2666.add ((wrap64 ((l1.length : Int) + 2) : Int).toNat * 1)))) (.int .u8 (rd y2629 (wrap64 ((l1.length : Int) + 2)))) rfl rfl (load_int Try.underlying5 rfl hA2667 (Ft.now HR2633) (by first | assumption | decide | omega) (by first | assumption | decide | omega))) ?_
                          simp only [List.set_cons_zero, List.set_cons_succ]
                          refine on_guard (guard_on 23 true 34 rfl rfl rfl) ?_
                          refine st (.bool (decide ((rd y2629 (wrap64 ((l1.length : Int) + 2))) = 79))) rfl rfl (xr_bin (.int .u8 (rd y2629 (wrap64 ((l1.length : Int) + 2)))) (.int .u8 79) (.bool (decide ((rd y2629 (wrap64 ((l1.length : Int) + 2))) = 79))) rfl rfl rfl (B.eql_u8 (rd y2629 (wrap64 ((l1.length : Int) + 2))) 79)) ?_
                          simp only [List.set_cons_zero, List.set_cons_succ]
                          refine st (.bool (decide ((rd y2629 (wrap64 ((l1.length : Int) + 2))) = 79))) rfl rfl (xr_pick true (.bool (decide ((rd y2629 (wrap64 ((l1.length : Int) + 2))) = 79))) rfl rfl rfl) ?_
                          simp only [List.set_cons_zero, List.set_cons_succ]
                          refine st (.bool (decide ((rd y2629 (wrap64 ((l1.length : Int) + 2))) = 79))) rfl rfl (xr_assign (.bool (decide ((rd y2629 (wrap64 ((l1.length : Int) + 2))) = 79))) rfl rfl) ?_
                          simp only [List.set_cons_zero, List.set_cons_succ]
                          refine wl_end ?_
                          (try simp only [Act.put, List.setIfInBounds_toArray, List.set_cons_zero, List.set_cons_succ])
                          refine hK2637 _ _ ?_
                          (try clear hK2637 K2637)
                          refine wp_ret ?_
                          (try simp only [Exit.inBlock, Exit.then, Exit.noGoto])
                          (try simp only [Act.put, List.setIfInBounds_toArray, List.set_cons_zero, List.set_cons_succ])
                          obtain rfl := Option.some.inj H
                          refine bodyPost_ret (results_tmp rfl _ _ _) rfl ?_
                          exact ⟨_, rfl, HS⟩
                        · rw [if_neg c2665] at H
                          exact absurd H (by simp)
                      · rw [if_neg c2664] at H
                        exact absurd H (by simp)
                    · rw [if_neg c2663] at H
                      (try rw [(decide_eq_false c2663)])
                      (try simp only [Bool.not_true, Bool.not_false])
                      refine sk_guard (guard_off 23 true 34 rfl rfl false (by decide) rfl) rfl ?_
                      simp only [List.set_cons_zero, List.set_cons_succ]
                      refine sk_guard (guard_off 23 true 34 rfl rfl false (by decide) rfl) rfl ?_
                      simp only [List.set_cons_zero, List.set_cons_succ]
                      refine sk_guard (guard_off 23 true 34 rfl rfl false (by decide) rfl) rfl ?_
                      simp only [List.set_cons_zero, List.set_cons_succ]
                      refine sk_guard (guard_off 23 true 34 rfl rfl false (by decide) rfl) rfl ?_
                      simp only [List.set_cons_zero, List.set_cons_succ]
                      refine sk_guard (guard_off 23 true 34 rfl rfl false (by decide) rfl) rfl ?_
                      simp only [List.set_cons_zero, List.set_cons_succ]
                      refine sk_guard (guard_off 23 true 34 rfl rfl false (by decide) rfl) rfl ?_
                      simp only [List.set_cons_zero, List.set_cons_succ]
                      refine sk_guard (guard_off 23 true 34 rfl rfl false (by decide) rfl) rfl ?_
                      simp only [List.set_cons_zero, List.set_cons_succ]
                      refine st (.bool false) rfl rfl (xr_pick false (.bool false) rfl rfl rfl) ?_
                      simp only [List.set_cons_zero, List.set_cons_succ]
                      refine st (.bool false) rfl rfl (xr_assign (.bool false) rfl rfl) ?_
                      simp only [List.set_cons_zero, List.set_cons_succ]
                      refine wl_end ?_
                      (try simp only [Act.put, List.setIfInBounds_toArray, List.set_cons_zero, List.set_cons_succ])
                      refine hK2637 _ _ ?_
                      (try clear hK2637 K2637)
                      refine wp_ret ?_
                      (try simp only [Exit.inBlock, Exit.then, Exit.noGoto])
                      (try simp only [Act.put, List.setIfInBounds_toArray, List.set_cons_zero, List.set_cons_succ])
                      obtain rfl := Option.some.inj H
                      refine bodyPost_ret (results_tmp rfl _ _ _) rfl ?_
                      exact ⟨_, rfl, HS⟩
                  · rw [if_neg c2660] at H
                    exact absurd H (by simp)
                · rw [if_neg c2659] at H
                  exact absurd H (by simp)
              · rw [if_neg c2658] at H
                (try rw [(decide_eq_false c2658)])
                (try simp only [Bool.not_true, Bool.not_false])
                refine sk_guard (guard_off 14 true 25 rfl rfl false (by decide) rfl) rfl ?_
                simp only [List.set_cons_zero, List.set_cons_succ]
                refine sk_guard (guard_off 14 true 25 rfl rfl false (by decide) rfl) rfl ?_
                simp only [List.set_cons_zero, List.set_cons_succ]
                refine sk_guard (guard_off 14 true 25 rfl rfl false (by decide) rfl) rfl ?_
                simp only [List.set_cons_zero, List.set_cons_succ]
                refine sk_guard (guard_off 14 true 25 rfl rfl false (by decide) rfl) rfl ?_
                simp only [List.set_cons_zero, List.set_cons_succ]
                refine sk_guard (guard_off 14 true 25 rfl rfl false (by decide) rfl) rfl ?_
                simp only [List.set_cons_zero, List.set_cons_succ]
                refine sk_guard (guard_off 14 true 25 rfl rfl false (by decide) rfl) rfl ?_
                simp only [List.set_cons_zero, List.set_cons_succ]
                refine sk_guard (guard_off 14 true 25 rfl rfl false (by decide) rfl) rfl ?_
                simp only [List.set_cons_zero, List.set_cons_succ]
                refine st (.bool false) rfl rfl (xr_pick false (.bool false) rfl rfl rfl) ?_
                simp only [List.set_cons_zero, List.set_cons_succ]
                refine st (.bool false) rfl rfl (xr_move (.bool false) rfl rfl) ?_
                simp only [List.set_cons_zero, List.set_cons_succ]
                refine sk_guard (guard_off 23 true 34 rfl rfl false (by decide) rfl) rfl ?_
                simp only [List.set_cons_zero, List.set_cons_succ]
                refine sk_guard (guard_off 23 true 34 rfl rfl false (by decide) rfl) rfl ?_
                simp only [List.set_cons_zero, List.set_cons_succ]
                refine sk_guard (guard_off 23 true 34 rfl rfl false (by decide) rfl) rfl ?_
                simp only [List.set_cons_zero, List.set_cons_succ]
                refine sk_guard (guard_off 23 true 34 rfl rfl false (by decide) rfl) rfl ?_
                simp only [List.set_cons_zero, List.set_cons_succ]
                refine sk_guard (guard_off 23 true 34 rfl rfl false (by decide) rfl) rfl ?_
                simp only [List.set_cons_zero, List.set_cons_succ]
                refine sk_guard (guard_off 23 true 34 rfl rfl false (by decide) rfl) rfl ?_
                simp only [List.set_cons_zero, List.set_cons_succ]
                refine sk_guard (guard_off 23 true 34 rfl rfl false (by decide) rfl) rfl ?_
                simp only [List.set_cons_zero, List.set_cons_succ]
                refine st (.bool false) rfl rfl (xr_pick false (.bool false) rfl rfl rfl) ?_
                simp only [List.set_cons_zero, List.set_cons_succ]
                refine st (.bool false) rfl rfl (xr_assign (.bool false) rfl rfl) ?_
                simp only [List.set_cons_zero, List.set_cons_succ]
                refine wl_end ?_
                (try simp only [Act.put, List.setIfInBounds_toArray, List.set_cons_zero, List.set_cons_succ])
                refine hK2637 _ _ ?_
                (try clear hK2637 K2637)
                refine wp_ret ?_
                (try simp only [Exit.inBlock, Exit.then, Exit.noGoto])
                (try simp only [Act.put, List.setIfInBounds_toArray, List.set_cons_zero, List.set_cons_succ])
                obtain rfl := Option.some.inj H
                refine bodyPost_ret (results_tmp rfl _ _ _) rfl ?_
                exact ⟨_, rfl, HS⟩
            · rw [if_neg c2655] at H
              exact absurd H (by simp)
          · rw [if_neg c2654] at H
            (try rw [(Bool.eq_false_iff.mpr c2654)])
            (try simp only [Bool.not_true, Bool.not_false])
            refine sk_guard (guard_off 6 true 17 rfl rfl false (by decide) rfl) rfl ?_
            simp only [List.set_cons_zero, List.set_cons_succ]
            refine sk_guard (guard_off 6 true 17 rfl rfl false (by decide) rfl) rfl ?_
            simp only [List.set_cons_zero, List.set_cons_succ]
            refine sk_guard (guard_off 6 true 17 rfl rfl false (by decide) rfl) rfl ?_
            simp only [List.set_cons_zero, List.set_cons_succ]
            refine sk_guard (guard_off 6 true 17 rfl rfl false (by decide) rfl) rfl ?_
            simp only [List.set_cons_zero, List.set_cons_succ]
            refine sk_guard (guard_off 6 true 17 rfl rfl false (by decide) rfl) rfl ?_
            simp only [List.set_cons_zero, List.set_cons_succ]
            refine sk_guard (guard_off 6 true 17 rfl rfl false (by decide) rfl) rfl ?_
            simp only [List.set_cons_zero, List.set_cons_succ]
            refine st (.bool false) rfl rfl (xr_pick false (.bool false) rfl rfl rfl) ?_
            simp only [List.set_cons_zero, List.set_cons_succ]
            refine st (.bool false) rfl rfl (xr_move (.bool false) rfl rfl) ?_
            simp only [List.set_cons_zero, List.set_cons_succ]
            refine sk_guard (guard_off 14 true 25 rfl rfl false (by decide) rfl) rfl ?_
            simp only [List.set_cons_zero, List.set_cons_succ]
            refine sk_guard (guard_off 14 true 25 rfl rfl false (by decide) rfl) rfl ?_
            simp only [List.set_cons_zero, List.set_cons_succ]
            refine sk_guard (guard_off 14 true 25 rfl rfl false (by decide) rfl) rfl ?_
            simp only [List.set_cons_zero, List.set_cons_succ]
            refine sk_guard (guard_off 14 true 25 rfl rfl false (by decide) rfl) rfl ?_
            simp only [List.set_cons_zero, List.set_cons_succ]
            refine sk_guard (guard_off 14 true 25 rfl rfl false (by decide) rfl) rfl ?_
            simp only [List.set_cons_zero, List.set_cons_succ]
            refine sk_guard (guard_off 14 true 25 rfl rfl false (by decide) rfl) rfl ?_
            simp only [List.set_cons_zero, List.set_cons_succ]
            refine sk_guard (guard_off 14 true 25 rfl rfl false (by decide) rfl) rfl ?_
            simp only [List.set_cons_zero, List.set_cons_succ]
            refine st (.bool false) rfl rfl (xr_pick false (.bool false) rfl rfl rfl) ?_
            simp only [List.set_cons_zero, List.set_cons_succ]
            refine st (.bool false) rfl rfl (xr_move (.bool false) rfl rfl) ?_
            simp only [List.set_cons_zero, List.set_cons_succ]
            refine sk_guard (guard_off 23 true 34 rfl rfl false (by decide) rfl) rfl ?_
            simp only [List.set_cons_zero, List.set_cons_succ]
            refine sk_guard (guard_off 23 true 34 rfl rfl false (by decide) rfl) rfl ?_
            simp only [List.set_cons_zero, List.set_cons_succ]
            refine sk_guard (guard_off 23 true 34 rfl rfl false (by decide) rfl) rfl ?_
            simp only [List.set_cons_zero, List.set_cons_succ]
            refine sk_guard (guard_off 23 true 34 rfl rfl false (by decide) rfl) rfl ?_
            simp only [List.set_cons_zero, List.set_cons_succ]
            refine sk_guard (guard_off 23 true 34 rfl rfl false (by decide) rfl) rfl ?_
            simp only [List.set_cons_zero, List.set_cons_succ]
            refine sk_guard (guard_off 23 true 34 rfl rfl false (by decide) rfl) rfl ?_
            simp only [List.set_cons_zero, List.set_cons_succ]
            refine sk_guard (guard_off 23 true 34 rfl rfl false (by decide) rfl) rfl ?_
            simp only [List.set_cons_zero, List.set_cons_succ]
            refine st (.bool false) rfl rfl (xr_pick false (.bool false) rfl rfl rfl) ?_
            simp only [List.set_cons_zero, List.set_cons_succ]
            refine st (.bool false) rfl rfl (xr_assign (.bool false) rfl rfl) ?_
            simp only [List.set_cons_zero, List.set_cons_succ]
            refine wl_end ?_
            (try simp only [Act.put, List.setIfInBounds_toArray, List.set_cons_zero, List.set_cons_succ])
            refine hK2637 _ _ ?_
            (try clear hK2637 K2637)
            refine wp_ret ?_
            (try simp only [Exit.inBlock, Exit.then, Exit.noGoto])
            (try simp only [Act.put, List.setIfInBounds_toArray, List.set_cons_zero, List.set_cons_succ])
            obtain rfl := Option.some.inj H
            refine bodyPost_ret (results_tmp rfl _ _ _) rfl ?_
            exact ⟨_, rfl, HS⟩
        · rw [if_neg c2639] at H
          exact absurd H (by simp)
      · rw [if_neg c2638] at H
        exact absurd H (by simp)
    · rw [if_neg c2628] at H
      exact absurd H (by simp)
  · rw [if_neg c2627] at H
    exact absurd H (by simp)

/-! ### blazonref01_Number: function 22 -/
def blazonref01_Number.l0 : Nat → (List Int) → Int → Int → Option (Int)
  | 0, _, _, _ => none
  | k + 1, l0, x2739, x2740 => if x2740 ≥ 0 then (if 0 ≤ x2740 then (if x2740 < (l0.length : Int) then (blazonref01_Number.l0 k l0 ((((256 * x2739) % 4294967296) + ((rd l0 x2740) % 4294967296)) % 4294967296) (wrap64 (x2740 - 1))) else (none)) else (none)) else (some x2739)
def blazonref01_Number.f (k : Nat) (l0 : List Int) : Option (Int) := blazonref01_Number.l0 k l0 0 3
theorem blazonref01_Number.mono_l : ∀ k, (∀ y0 y1 y2, LeO (blazonref01_Number.l0 k y0 y1 y2) (blazonref01_Number.l0 (k + 1) y0 y1 y2))
  | 0 => fun _ _ _ r h => by simp [blazonref01_Number.l0] at h
  | k + 1 => by
    have ih0 := blazonref01_Number.mono_l k
    · intro y0 y1 y2
      unfold blazonref01_Number.l0
      repeat' first
      | (with_reducible exact ih0 _ _ _)
      | (with_reducible exact LeO.refl _)
      | (with_reducible exact LeO.none _)
      | (with_reducible refine LeO.ite ?_ ?_)
      | (with_reducible refine LeO.bind ?_ (fun _ => ?_))
      | exact ih0 _ _ _
      | exact LeO.none _
      | refine LeO.ite ?_ ?_
      | refine LeO.bind ?_ (fun _ => ?_)
theorem blazonref01_Number.mono : ∀ a0 k, LeO (blazonref01_Number.f k a0) (blazonref01_Number.f (k + 1) a0) := by
  intro a0 k
  have ih0 := blazonref01_Number.mono_l k
  unfold blazonref01_Number.f
  repeat' first
      | (with_reducible exact ih0 _ _ _)
      | (with_reducible exact LeO.refl _)
      | (with_reducible exact LeO.none _)
      | (with_reducible refine LeO.ite ?_ ?_)
      | (with_reducible refine LeO.bind ?_ (fun _ => ?_))
      | exact ih0 _ _ _
      | exact LeO.none _
      | refine LeO.ite ?_ ?_
      | refine LeO.bind ?_ (fun _ => ?_)
set_option maxHeartbeats 2000000 in
set_option maxRecDepth 100000 in
theorem blazonref01_Number.calls (k : Nat) (A0 : Option Addr) (c0 : Nat) (l0 : List Int) (r : Int) (c : Nat → Nat) (w : World) (hc : ∀ k, c k < 10) (HP0 : Ft c [0] w (fun w_ => (Kd.int .u8).C w_ A0 l0.length l0)) (HCP0 : l0.length ≤ c0) (H : blazonref01_Number.f k l0 = some r) :
    Calls Try.prog 22 #[.slice A0 l0.length c0] w fun e w' => ∃ (c' : Nat → Nat) , e = .returned (.int .u32 r) ∧ Step c w c' w' [] := by
  unfold blazonref01_Number.f at H
  have HS := Step.refl c w []
  go_enter Try.func22, Try.ntmps22
  refine wp_seq_k fun K2714 hK2714 => ?_
  refine wl_region ?_
  refine st (.int .u32 0) rfl rfl (xr_assign (.int .u32 0) rfl rfl) ?_
  simp only [List.set_cons_zero, List.set_cons_succ]
  refine wl_end ?_
  (try simp only [Act.put, List.setIfInBounds_toArray, List.set_cons_zero, List.set_cons_succ])
  refine hK2714 _ _ ?_
  (try clear hK2714 K2714)
  refine wp_seq_k fun K2715 hK2715 => ?_
  refine wl_region ?_
  refine st (.int .u32 0) rfl rfl (xr_assign (.int .u32 0) rfl rfl) ?_
  simp only [List.set_cons_zero, List.set_cons_succ]
  refine wl_end ?_
  (try simp only [Act.put, List.setIfInBounds_toArray, List.set_cons_zero, List.set_cons_succ])
  refine hK2715 _ _ ?_
  (try clear hK2715 K2715)
  refine wp_seq_k fun K2716 hK2716 => ?_
  refine wp_seq_k fun K2717 hK2717 => ?_
  refine wl_region ?_
  refine st (.int .i64 3) rfl rfl (xr_assign (.int .i64 3) rfl rfl) ?_
  simp only [List.set_cons_zero, List.set_cons_succ]
  refine wl_end ?_
  (try simp only [Act.put, List.setIfInBounds_toArray, List.set_cons_zero, List.set_cons_succ])
  refine hK2717 _ _ ?_
  (try clear hK2717 K2717)
  refine wp_block ?_
  (try simp only [Act.put, List.setIfInBounds_toArray, List.set_cons_zero, List.set_cons_succ])
  refine wp_looped (looped_ind (fun kq2744 a_ w2743 => ∃ (C2742 : Nat → Nat) (x2739 : Int) (x2740 : Int) (g2741 : Nat → Value), a_ = ⟨#[.slice A0 l0.length c0, (g2741 1), (g2741 2), .int .u32 x2739, .int .i64 x2740, (g2741 5), (g2741 6), (g2741 7), (g2741 8), (g2741 9), (g2741 10), (g2741 11), (g2741 12), (g2741 13), (g2741 14), (g2741 15), (g2741 16), (g2741 17)], []⟩ ∧ Step c w C2742 w2743 [] ∧ kq2744 ≤ k ∧ (Ft C2742 [0] w2743 (fun w_ => (Kd.int .u8).C w_ A0 l0.length l0)) ∧ blazonref01_Number.l0 kq2744 l0 x2739 x2740 = some r) ?step k _ _ ?init)
  case init =>
    exact ⟨_, 0, 3, (fun q_ => List.getD [undef, undef, .int .u32 0, undef, undef, undef, undef, undef, undef, undef, undef, undef, undef, undef, undef, undef, undef, undef] q_ undef), rfl, HS, Nat.le_refl _, HP0, H⟩
  case step =>
    intro kq2744 ih2747 a2748 w2743 hr2749
    obtain ⟨C2742, x2739, x2740, g2741, rfl, HS2745, hk2746, HJ2738, H⟩ := hr2749
    refine looped_round ?_
    cases kq2744 with
    | zero => exact absurd H (by simp [blazonref01_Number.l0])
    | succ k2750 =>
      simp only [blazonref01_Number.l0] at H
      refine wp_seq_k fun K2751 hK2751 => ?_
      refine wp_seq_k fun K2752 hK2752 => ?_
      refine wl_region ?_
      refine st (.int .i64 x2740) rfl rfl (xr_move (.int .i64 x2740) rfl rfl) ?_
      simp only [List.set_cons_zero, List.set_cons_succ]
      refine st (.bool (decide (x2740 ≥ 0))) rfl rfl (xr_bin (.int .i64 x2740) (.int .i64 0) (.bool (decide (x2740 ≥ 0))) rfl rfl rfl (B.geq_i64 x2740 0)) ?_
      simp only [List.set_cons_zero, List.set_cons_succ]
      refine wl_end ?_
      (try simp only [Act.put, List.setIfInBounds_toArray, List.set_cons_zero, List.set_cons_succ])
      refine hK2752 _ _ ?_
      (try clear hK2752 K2752)
      by_cases c2753 : x2740 ≥ 0
      · rw [if_pos c2753] at H
        (try rw [(decide_eq_true c2753)])
        (try simp only [Bool.not_true, Bool.not_false])
        refine wp_cond_true rfl ?_
        refine wp_skip ?_
        (try simp only [Act.put, List.setIfInBounds_toArray, List.set_cons_zero, List.set_cons_succ])
        refine hK2751 _ _ ?_
        (try clear hK2751 K2751)
        refine wp_seq_k fun K2754 hK2754 => ?_
        refine wp_block ?_
        refine wl_region ?_
        refine st (.int .u32 x2739) rfl rfl (xr_move (.int .u32 x2739) rfl rfl) ?_
        simp only [List.set_cons_zero, List.set_cons_succ]
        refine st (.int .u32 ((256 * x2739) % 4294967296)) rfl rfl (xr_bin (.int .u32 256) (.int .u32 x2739) (.int .u32 ((256 * x2739) % 4294967296)) rfl rfl rfl (B.mul_u32 256 x2739)) ?_
        simp only [List.set_cons_zero, List.set_cons_succ]
        refine st (.slice A0 l0.length c0) rfl rfl (xr_move (.slice A0 l0.length c0) rfl rfl) ?_
        simp only [List.set_cons_zero, List.set_cons_succ]
        refine st (.int .i64 x2740) rfl rfl (xr_move (.int .i64 x2740) rfl rfl) ?_
        simp only [List.set_cons_zero, List.set_cons_succ]
        by_cases c2755 : 0 ≤ x2740
        · rw [if_pos c2755] at H
          by_cases c2756 : x2740 < (l0.length : Int)
          · rw [if_pos c2756] at H
            obtain ⟨ad2757, hA2758⟩ := c_addr (Ft.now HJ2738) (pos_of (j := x2740) (by first | assumption | decide) (by first | assumption | omega))
            refine st (.pointer (some (ad2757.add ((x2740 : Int).toNat * 1)))) rfl rfl (xr_indexAddr (.slice A0 l0.length c0) (.int .i64 x2740) (.pointer (some (ad2757.add ((x2740 : Int).toNat * 1)))) rfl rfl rfl (index_at Try.underlying23 info5 hA2758 (by first | assumption | decide | omega) (by first | assumption | decide | omega))) ?_
            simp only [List.set_cons_zero, List.set_cons_succ]
            refine st (.int .u8 (rd l0 x2740)) rfl rfl (xr_load (.pointer (some (ad2757.add ((x2740 : Int).toNat * 1)))) (.int .u8 (rd l0 x2740)) rfl rfl (load_int Try.underlying5 rfl hA2758 (Ft.now HJ2738) (by first | assumption | decide | omega) (by first | assumption | decide | omega))) ?_
            simp only [List.set_cons_zero, List.set_cons_succ]
            refine st (.int .u32 ((rd l0 x2740) % 4294967296)) rfl rfl (xr_conv (.int .u8 (rd l0 x2740)) (.int .u32 ((rd l0 x2740) % 4294967296)) rfl rfl (by first | rfl | (go_simp; done) | (go_simp; rfl) | (go_simp; exact i64_w _) | (go_simp; exact i32_w _))) ?_
            simp only [List.set_cons_zero, List.set_cons_succ]
            refine st (.int .u32 ((((256 * x2739) % 4294967296) + ((rd l0 x2740) % 4294967296)) % 4294967296)) rfl rfl (xr_bin (.int .u32 ((256 * x2739) % 4294967296)) (.int .u32 ((rd l0 x2740) % 4294967296)) (.int .u32 ((((256 * x2739) % 4294967296) + ((rd l0 x2740) % 4294967296)) % 4294967296)) rfl rfl rfl (B.add_u32 ((256 * x2739) % 4294967296) ((rd l0 x2740) % 4294967296))) ?_
            simp only [List.set_cons_zero, List.set_cons_succ]
            refine st (.int .u32 ((((256 * x2739) % 4294967296) + ((rd l0 x2740) % 4294967296)) % 4294967296)) rfl rfl (xr_assign (.int .u32 ((((256 * x2739) % 4294967296) + ((rd l0 x2740) % 4294967296)) % 4294967296)) rfl rfl) ?_
            simp only [List.set_cons_zero, List.set_cons_succ]
            refine wl_end ?_
            (try simp only [Act.put, List.setIfInBounds_toArray, List.set_cons_zero, List.set_cons_succ])
            refine hK2754 _ _ ?_
            (try clear hK2754 K2754)
            refine wl_region ?_
            refine st (.int .i64 x2740) rfl rfl (xr_move (.int .i64 x2740) rfl rfl) ?_
            simp only [List.set_cons_zero, List.set_cons_succ]
            refine st (.int .i64 (wrap64 (x2740 - 1))) rfl rfl (xr_bin (.int .i64 x2740) (.int .i64 1) (.int .i64 (wrap64 (x2740 - 1))) rfl rfl rfl (B.sub_i64 x2740 1)) ?_
            simp only [List.set_cons_zero, List.set_cons_succ]
            refine st (.int .i64 (wrap64 (x2740 - 1))) rfl rfl (xr_assign (.int .i64 (wrap64 (x2740 - 1))) rfl rfl) ?_
            simp only [List.set_cons_zero, List.set_cons_succ]
            refine wl_end ?_
            (try simp only [Act.put, List.setIfInBounds_toArray, List.set_cons_zero, List.set_cons_succ])
            exact ih2747 k2750 (by omega) _ _ ⟨_, (((256 * x2739) % 4294967296) + ((rd l0 x2740) % 4294967296)) % 4294967296, wrap64 (x2740 - 1), (fun q_ => List.getD [undef, (g2741 1), (g2741 2), undef, undef, .int .i64 x2740, .bool true, .int .i64 x2740, .int .i64 (wrap64 (x2740 - 1)), .int .u32 x2739, .int .u32 ((256 * x2739) % 4294967296), .slice A0 l0.length c0, .int .i64 x2740, .pointer (some (ad2757.add ((x2740 : Int).toNat * 1))), .int .u8 (rd l0 x2740), .int .u32 ((rd l0 x2740) % 4294967296), .int .u32 ((((256 * x2739) % 4294967296) + ((rd l0 x2740) % 4294967296)) % 4294967296), (g2741 17)] q_ undef), rfl, HS2745, (by omega), HJ2738, H⟩
          · rw [if_neg c2756] at H
            exact absurd H (by simp)
        · rw [if_neg c2755] at H
          exact absurd H (by simp)
      · rw [if_neg c2753] at H
        (try rw [(decide_eq_false c2753)])
        (try simp only [Bool.not_true, Bool.not_false])
        refine wp_cond_false rfl ?_
        refine wp_exit ?_
        (try simp only [Act.put, List.setIfInBounds_toArray, List.set_cons_zero, List.set_cons_succ])
        refine hK2716 _ _ ?_
        (try clear hK2716 K2716)
        refine wp_seq_k fun K2759 hK2759 => ?_
        refine wl_region ?_
        refine st (.int .u32 x2739) rfl rfl (xr_move (.int .u32 x2739) rfl rfl) ?_
        simp only [List.set_cons_zero, List.set_cons_succ]
        refine st (.int .u32 x2739) rfl rfl (xr_assign (.int .u32 x2739) rfl rfl) ?_
        simp only [List.set_cons_zero, List.set_cons_succ]
        refine wl_end ?_
        (try simp only [Act.put, List.setIfInBounds_toArray, List.set_cons_zero, List.set_cons_succ])
        refine hK2759 _ _ ?_
        (try clear hK2759 K2759)
        refine wp_ret ?_
        (try simp only [Exit.inBlock, Exit.then, Exit.noGoto])
        (try simp only [Act.put, List.setIfInBounds_toArray, List.set_cons_zero, List.set_cons_succ])
        obtain rfl := Option.some.inj H
        refine bodyPost_ret (results_tmp rfl _ _ _) rfl ?_
        exact ⟨_, rfl, HS2745⟩

/-! ### blazonref04_Get: function 45 -/
def blazonref04_Get.f (k : Nat) (l0 : List Int) : Option (Int × List Int × Int × Int) := if (l0.length : Int) < 9 then (some (0, ([] : List Int), 0, 2)) else (if 4 ≤ (l0.length : Int) then ((some (l0.take (4 : Int).toNat : List Int)).bind fun y2851 => ((blazonref01_Number.f k y2851).bind fun t2859 => (if (wrap64 (t2859)) > 65536 then (some (0, ([] : List Int), 0, 3)) else (if (l0.length : Int) < (wrap64 (9 + (wrap64 (t2859)))) then (some (0, ([] : List Int), 0, 2)) else (if 8 < (l0.length : Int) then (if 9 ≤ (wrap64 (9 + (wrap64 (t2859)))) then (if (wrap64 (9 + (wrap64 (t2859)))) ≤ (l0.length : Int) then ((some ((l0.take (wrap64 (9 + (wrap64 (t2859))) : Int).toNat).drop (9 : Int).toNat : List Int)).bind fun y2881 => (if 0 ≤ (wrap64 (9 + (wrap64 (t2859)))) then ((some (l0.take (wrap64 (9 + (wrap64 (t2859))) : Int).toNat : List Int)).bind fun y2890 => ((blazonref04_Form.f k (wrap64 (rd l0 8)) y2881).bind fun t2898 => ((blazonref01_Same.f k t2898 y2890).bind fun t2908 => (if t2908 = true then ((some ((l0.take (wrap64 (9 + (wrap64 (t2859))) : Int).toNat).drop (9 : Int).toNat : List Int)).bind fun y2919 => (some (wrap64 (rd l0 8), y2919, wrap64 (9 + (wrap64 (t2859))), 0))) else (some (0, ([] : List Int), 0, 5)))))) else (none))) else (none)) else (none)) else (none)))))) else (none))
theorem blazonref04_Get.mono : ∀ a0 k, LeO (blazonref04_Get.f k a0) (blazonref04_Get.f (k + 1) a0) := by
  intro a0 k
  unfold blazonref04_Get.f
  repeat' first
      | (with_reducible exact blazonref01_Number.mono _ _)
      | (with_reducible exact blazonref01_Same.mono _ _ _)
      | (with_reducible exact blazonref04_Form.mono _ _ _)
      | (with_reducible exact LeO.refl _)
      | (with_reducible exact LeO.none _)
      | (with_reducible refine LeO.ite ?_ ?_)
      | (with_reducible refine LeO.bind ?_ (fun _ => ?_))
      | exact blazonref01_Number.mono _ _
      | exact blazonref01_Same.mono _ _ _
      | exact blazonref04_Form.mono _ _ _
      | exact LeO.none _
      | refine LeO.ite ?_ ?_
      | refine LeO.bind ?_ (fun _ => ?_)
set_option maxHeartbeats 2000000 in
set_option maxRecDepth 100000 in
theorem blazonref04_Get.calls (k : Nat) (A0 : Option Addr) (c0 : Nat) (l0 : List Int) (r1 : Int) (r2 : List Int) (r3 : Int) (r4 : Int) (c : Nat → Nat) (w : World) (hc : ∀ k, c k < 10) (HP0 : Ft c [0] w (fun w_ => (Kd.int .u8).C w_ A0 l0.length l0)) (HCP0 : l0.length ≤ c0) (H : blazonref04_Get.f k l0 = some (r1, r2, r3, r4)) :
    Calls Try.prog 45 #[.slice A0 l0.length c0] w fun e w' => ∃ (c' : Nat → Nat) (A_r2 : Option Addr) (c_r2 : Nat), e = .returned (.tuple #[.int .i64 r1, .slice A_r2 r2.length c_r2, .int .i64 r3, .int .i64 r4]) ∧ Step c w c' w' [] ∧ Ft c' [0] w' (fun w_ => (Kd.int .u8).C w_ A_r2 r2.length r2) ∧ r2.length ≤ c_r2 := by
  unfold blazonref04_Get.f at H
  have HS := Step.refl c w []
  go_enter Try.func45, Try.ntmps45
  refine wp_seq_k fun K2844 hK2844 => ?_
  refine wl_region ?_
  refine st (.int .i64 0) rfl rfl (xr_assign (.int .i64 0) rfl rfl) ?_
  simp only [List.set_cons_zero, List.set_cons_succ]
  refine st (.slice none 0 0) rfl rfl (xr_assign (.slice none 0 0) rfl rfl) ?_
  simp only [List.set_cons_zero, List.set_cons_succ]
  refine st (.int .i64 0) rfl rfl (xr_assign (.int .i64 0) rfl rfl) ?_
  simp only [List.set_cons_zero, List.set_cons_succ]
  refine st (.int .i64 0) rfl rfl (xr_assign (.int .i64 0) rfl rfl) ?_
  simp only [List.set_cons_zero, List.set_cons_succ]
  refine wl_end ?_
  (try simp only [Act.put, List.setIfInBounds_toArray, List.set_cons_zero, List.set_cons_succ])
  refine hK2844 _ _ ?_
  (try clear hK2844 K2844)
  refine wp_seq_k fun K2845 hK2845 => ?_
  refine wp_seq_k fun K2846 hK2846 => ?_
  refine wl_region ?_
  refine st (.slice A0 l0.length c0) rfl rfl (xr_move (.slice A0 l0.length c0) rfl rfl) ?_
  simp only [List.set_cons_zero, List.set_cons_succ]
  refine st (.int .i64 (l0.length : Int)) rfl rfl (xr_builtin #[.slice A0 l0.length c0] (.int .i64 (l0.length : Int)) rfl (by simp only [List.map_toArray, List.map_cons, List.map_nil]; first | done | rfl) (by first | rfl | (go_simp; done) | (go_simp; rfl) | (go_simp; exact i64_w _) | (go_simp; exact i32_w _))) ?_
  simp only [List.set_cons_zero, List.set_cons_succ]
  refine st (.bool (decide ((l0.length : Int) < 9))) rfl rfl (xr_bin (.int .i64 (l0.length : Int)) (.int .i64 9) (.bool (decide ((l0.length : Int) < 9))) rfl rfl rfl (B.lss_i64 (l0.length : Int) 9)) ?_
  simp only [List.set_cons_zero, List.set_cons_succ]
  refine wl_end ?_
  (try simp only [Act.put, List.setIfInBounds_toArray, List.set_cons_zero, List.set_cons_succ])
  refine hK2846 _ _ ?_
  (try clear hK2846 K2846)
  by_cases c2847 : (l0.length : Int) < 9
  · rw [if_pos c2847] at H
    (try rw [(decide_eq_true c2847)])
    (try simp only [Bool.not_true, Bool.not_false])
    refine wp_cond_true rfl ?_
    refine wp_seq_k fun K2848 hK2848 => ?_
    refine wl_region ?_
    refine st (.int .i64 0) rfl rfl (xr_assign (.int .i64 0) rfl rfl) ?_
    simp only [List.set_cons_zero, List.set_cons_succ]
    refine st (.slice none 0 0) rfl rfl (xr_assign (.slice none 0 0) rfl rfl) ?_
    simp only [List.set_cons_zero, List.set_cons_succ]
    refine st (.int .i64 0) rfl rfl (xr_assign (.int .i64 0) rfl rfl) ?_
    simp only [List.set_cons_zero, List.set_cons_succ]
    refine st (.int .i64 2) rfl rfl (xr_assign (.int .i64 2) rfl rfl) ?_
    simp only [List.set_cons_zero, List.set_cons_succ]
    refine wl_end ?_
    (try simp only [Act.put, List.setIfInBounds_toArray, List.set_cons_zero, List.set_cons_succ])
    refine hK2848 _ _ ?_
    (try clear hK2848 K2848)
    refine wp_ret ?_
    (try simp only [Exit.inBlock, Exit.then, Exit.noGoto])
    (try simp only [Act.put, List.setIfInBounds_toArray, List.set_cons_zero, List.set_cons_succ])
    simp only [Option.some.injEq, Prod.mk.injEq] at H
    obtain ⟨rfl, rfl, rfl, rfl⟩ := H
    refine bodyPost_ret (by simp [results, Try.results45]; rfl) rfl ?_
    exact ⟨_, none, 0, rfl, HS, (Kd.F_nil _ _ _), (Nat.le_refl 0)⟩
  · rw [if_neg c2847] at H
    (try rw [(decide_eq_false c2847)])
    (try simp only [Bool.not_true, Bool.not_false])
    refine wp_cond_false rfl ?_
    refine wp_skip ?_
    (try simp only [Act.put, List.setIfInBounds_toArray, List.set_cons_zero, List.set_cons_succ])
    refine hK2845 _ _ ?_
    (try clear hK2845 K2845)
    refine wp_seq_k fun K2849 hK2849 => ?_
    refine wl_region ?_
    refine st (.slice A0 l0.length c0) rfl rfl (xr_move (.slice A0 l0.length c0) rfl rfl) ?_
    simp only [List.set_cons_zero, List.set_cons_succ]
    by_cases c2850 : 4 ≤ (l0.length : Int)
    · rw [if_pos c2850] at H
      obtain ⟨y2851, A2852, H⟩ := Option.bind_eq_some_iff.mp H
      (try dsimp only at H)
      obtain ⟨iz2858, hiz2858, _, hzz2858, _⟩ := info_parts info5
      obtain ⟨hr2857, HR2855, HC2856⟩ := cutTo (t := 23) (Kd.int .u8) 5 .i64 Try.underlying23 hiz2858 HP0 HCP0 (by first | assumption | omega | decide) (by first | assumption | omega | decide) (Option.some.inj A2852)
      refine st (.slice A0 y2851.length c0) rfl rfl (xr_slice (.slice A0 l0.length c0) none (some (.int .i64 4)) none (.slice A0 y2851.length c0) rfl rfl rfl rfl rfl (hr2857 _)) ?_
      simp only [List.set_cons_zero, List.set_cons_succ]
      clear hr2857 hiz2858 hzz2858
      obtain ⟨t2859, A2860, H⟩ := Option.bind_eq_some_iff.mp H
      (try dsimp only at H)
      refine st_call #[.slice A0 y2851.length c0] rfl rfl Try.func22 (by kernel_rfl) rfl rfl (by simp only [List.map_toArray, List.map_cons, List.map_nil]; first | done | rfl) ?_
      refine (blazonref01_Number.calls k A0 c0 y2851 t2859  (fun z_ => pal [(0, 0)] (c z_)) w (fun _ => pal_lt rfl _) (Ft.arg HR2855 rfl) HC2856 A2860).mono ?_
      rintro _ w2862 ⟨C2863, rfl, hs2864⟩
      refine ⟨_, rfl, ?_⟩
      replace hs2864 := Step.lift (U := [(0, 0)]) hs2864 [] rfl rfl
      generalize up c C2863 w.heap.size [(0, 0)] = C2863_ at hs2864
      replace HP0 := HP0.thru hs2864 rfl
      replace HS := HS.trans hs2864 hc rfl
      (try simp only [Act.put, List.setIfInBounds_toArray, List.set_cons_zero, List.set_cons_succ])
      refine st (.int .i64 (wrap64 (t2859))) rfl rfl (xr_conv (.int .u32 t2859) (.int .i64 (wrap64 (t2859))) rfl rfl (by first | rfl | (go_simp; done) | (go_simp; rfl) | (go_simp; exact i64_w _) | (go_simp; exact i32_w _))) ?_
      simp only [List.set_cons_zero, List.set_cons_succ]
      refine st (.int .i64 (wrap64 (t2859))) rfl rfl (xr_assign (.int .i64 (wrap64 (t2859))) rfl rfl) ?_
      simp only [List.set_cons_zero, List.set_cons_succ]
      refine wl_end ?_
      (try simp only [Act.put, List.setIfInBounds_toArray, List.set_cons_zero, List.set_cons_succ])
      refine hK2849 _ _ ?_
      (try clear hK2849 K2849)
      refine wp_seq_k fun K2865 hK2865 => ?_
      refine wp_seq_k fun K2866 hK2866 => ?_
      refine wl_region ?_
      refine st (.int .i64 (wrap64 (t2859))) rfl rfl (xr_move (.int .i64 (wrap64 (t2859))) rfl rfl) ?_
      simp only [List.set_cons_zero, List.set_cons_succ]
      refine st (.bool (decide ((wrap64 (t2859)) > 65536))) rfl rfl (xr_bin (.int .i64 (wrap64 (t2859))) (.int .i64 65536) (.bool (decide ((wrap64 (t2859)) > 65536))) rfl rfl rfl (B.gtr_i64 (wrap64 (t2859)) 65536)) ?_
      simp only [List.set_cons_zero, List.set_cons_succ]
      refine wl_end ?_
      (try simp only [Act.put, List.setIfInBounds_toArray, List.set_cons_zero, List.set_cons_succ])
      refine hK2866 _ _ ?_
      (try clear hK2866 K2866)
      by_cases c2867 : (wrap64 (t2859)) > 65536
      · rw [if_pos c2867] at H
        (try rw [(decide_eq_true c2867)])
        (try simp only [Bool.not_true, Bool.not_false])
        refine wp_cond_true rfl ?_
        refine wp_seq_k fun K2868 hK2868 => ?_
        refine wl_region ?_
        refine st (.int .i64 0) rfl rfl (xr_assign (.int .i64 0) rfl rfl) ?_
        simp only [List.set_cons_zero, List.set_cons_succ]
        refine st (.slice none 0 0) rfl rfl (xr_assign (.slice none 0 0) rfl rfl) ?_
        simp only [List.set_cons_zero, List.set_cons_succ]
        refine st (.int .i64 0) rfl rfl (xr_assign (.int .i64 0) rfl rfl) ?_
        simp only [List.set_cons_zero, List.set_cons_succ]
        refine st (.int .i64 3) rfl rfl (xr_assign (.int .i64 3) rfl rfl) ?_
        simp only [List.set_cons_zero, List.set_cons_succ]
        refine wl_end ?_
        (try simp only [Act.put, List.setIfInBounds_toArray, List.set_cons_zero, List.set_cons_succ])
        refine hK2868 _ _ ?_
        (try clear hK2868 K2868)
        refine wp_ret ?_
        (try simp only [Exit.inBlock, Exit.then, Exit.noGoto])
        (try simp only [Act.put, List.setIfInBounds_toArray, List.set_cons_zero, List.set_cons_succ])
        simp only [Option.some.injEq, Prod.mk.injEq] at H
        obtain ⟨rfl, rfl, rfl, rfl⟩ := H
        refine bodyPost_ret (by simp [results, Try.results45]; rfl) rfl ?_
        exact ⟨_, none, 0, rfl, HS, (Kd.F_nil _ _ _), (Nat.le_refl 0)⟩
      · rw [if_neg c2867] at H
        (try rw [(decide_eq_false c2867)])
        (try simp only [Bool.not_true, Bool.not_false])
        refine wp_cond_false rfl ?_
        refine wp_skip ?_
        (try simp only [Act.put, List.setIfInBounds_toArray, List.set_cons_zero, List.set_cons_succ])
        refine hK2865 _ _ ?_
        (try clear hK2865 K2865)
        refine wp_seq_k fun K2869 hK2869 => ?_
        refine wp_seq_k fun K2870 hK2870 => ?_
        refine wl_region ?_
        refine st (.slice A0 l0.length c0) rfl rfl (xr_move (.slice A0 l0.length c0) rfl rfl) ?_
        simp only [List.set_cons_zero, List.set_cons_succ]
        refine st (.int .i64 (l0.length : Int)) rfl rfl (xr_builtin #[.slice A0 l0.length c0] (.int .i64 (l0.length : Int)) rfl (by simp only [List.map_toArray, List.map_cons, List.map_nil]; first | done | rfl) (by first | rfl | (go_simp; done) | (go_simp; rfl) | (go_simp; exact i64_w _) | (go_simp; exact i32_w _))) ?_
        simp only [List.set_cons_zero, List.set_cons_succ]
        refine st (.int .i64 (wrap64 (t2859))) rfl rfl (xr_move (.int .i64 (wrap64 (t2859))) rfl rfl) ?_
        simp only [List.set_cons_zero, List.set_cons_succ]
        refine st (.int .i64 (wrap64 (9 + (wrap64 (t2859))))) rfl rfl (xr_bin (.int .i64 9) (.int .i64 (wrap64 (t2859))) (.int .i64 (wrap64 (9 + (wrap64 (t2859))))) rfl rfl rfl (B.add_i64 9 (wrap64 (t2859)))) ?_
        simp only [List.set_cons_zero, List.set_cons_succ]
        refine st (.bool (decide ((l0.length : Int) < (wrap64 (9 + (wrap64 (t2859))))))) rfl rfl (xr_bin (.int .i64 (l0.length : Int)) (.int .i64 (wrap64 (9 + (wrap64 (t2859))))) (.bool (decide ((l0.length : Int) < (wrap64 (9 + (wrap64 (t2859))))))) rfl rfl rfl (B.lss_i64 (l0.length : Int) (wrap64 (9 + (wrap64 (t2859)))))) ?_
        simp only [List.set_cons_zero, List.set_cons_succ]
        refine wl_end ?_
        (try simp only [Act.put, List.setIfInBounds_toArray, List.set_cons_zero, List.set_cons_succ])
        refine hK2870 _ _ ?_
        (try clear hK2870 K2870)
        by_cases c2871 : (l0.length : Int) < (wrap64 (9 + (wrap64 (t2859))))
        · rw [if_pos c2871] at H
          (try rw [(decide_eq_true c2871)])
          (try simp only [Bool.not_true, Bool.not_false])
          refine wp_cond_true rfl ?_
          refine wp_seq_k fun K2872 hK2872 => ?_
          refine wl_region ?_
          refine st (.int .i64 0) rfl rfl (xr_assign (.int .i64 0) rfl rfl) ?_
          simp only [List.set_cons_zero, List.set_cons_succ]
          refine st (.slice none 0 0) rfl rfl (xr_assign (.slice none 0 0) rfl rfl) ?_
          simp only [List.set_cons_zero, List.set_cons_succ]
          refine st (.int .i64 0) rfl rfl (xr_assign (.int .i64 0) rfl rfl) ?_
          simp only [List.set_cons_zero, List.set_cons_succ]
          refine st (.int .i64 2) rfl rfl (xr_assign (.int .i64 2) rfl rfl) ?_
          simp only [List.set_cons_zero, List.set_cons_succ]
          refine wl_end ?_
          (try simp only [Act.put, List.setIfInBounds_toArray, List.set_cons_zero, List.set_cons_succ])
          refine hK2872 _ _ ?_
          (try clear hK2872 K2872)
          refine wp_ret ?_
          (try simp only [Exit.inBlock, Exit.then, Exit.noGoto])
          (try simp only [Act.put, List.setIfInBounds_toArray, List.set_cons_zero, List.set_cons_succ])
          simp only [Option.some.injEq, Prod.mk.injEq] at H
          obtain ⟨rfl, rfl, rfl, rfl⟩ := H
          refine bodyPost_ret (by simp [results, Try.results45]; rfl) rfl ?_
          exact ⟨_, none, 0, rfl, HS, (Kd.F_nil _ _ _), (Nat.le_refl 0)⟩
        · rw [if_neg c2871] at H
          (try rw [(decide_eq_false c2871)])
          (try simp only [Bool.not_true, Bool.not_false])
          refine wp_cond_false rfl ?_
          refine wp_skip ?_
          (try simp only [Act.put, List.setIfInBounds_toArray, List.set_cons_zero, List.set_cons_succ])
          refine hK2869 _ _ ?_
          (try clear hK2869 K2869)
          refine wp_seq_k fun K2873 hK2873 => ?_
          refine wp_seq_k fun K2874 hK2874 => ?_
          (try simp only [Act.put, List.setIfInBounds_toArray, List.set_cons_zero, List.set_cons_succ])
          refine al_start #[false, false, false, false, false, false, false, false, false, false, false, false, false, false, false] rfl rfl rfl (fun w_ => (Kd.int .u8).C w_ A0 l0.length l0) (Ft.now (HP0).drew) ?_
          replace HP0 := HP0.drew
          replace HS := Step.ofDrew HS
          generalize w2862.drew = w2875 at *
          refine al_pure 0 21 (.slice A0 l0.length c0) #[true, false, false, false, false, false, false, false, false, false, false, false, false, false, false] rfl rfl (by kernel_rfl) (fun _ _ _ h_ => h_) rfl (fun w_ => xr_move (.slice A0 l0.length c0) rfl rfl) ?_
          simp only [List.set_cons_zero, List.set_cons_succ]
          by_cases c2876 : 8 < (l0.length : Int)
          · rw [if_pos c2876] at H
            obtain ⟨ad2877, hA2878⟩ := c_addr (Ft.now HP0) (pos_of (j := 8) (by first | assumption | decide) (by first | assumption | omega))
            refine al_pure 1 22 (.pointer (some (ad2877.add ((8 : Int).toNat * 1)))) #[true, true, false, false, false, false, false, false, false, false, false, false, false, false, false] rfl rfl (by kernel_rfl) (fun _ _ _ h_ => h_) rfl (fun w_ => xr_indexAddr (.slice A0 l0.length c0) (.int .i64 8) (.pointer (some (ad2877.add ((8 : Int).toNat * 1)))) rfl rfl rfl (index_at Try.underlying23 info5 hA2878 (by first | assumption | decide | omega) (by first | assumption | decide | omega))) ?_
            simp only [List.set_cons_zero, List.set_cons_succ]
            refine al_pure 4 25 (.slice A0 l0.length c0) #[true, true, false, false, true, false, false, false, false, false, false, false, false, false, false] rfl rfl (by kernel_rfl) (fun _ _ _ h_ => h_) rfl (fun w_ => xr_move (.slice A0 l0.length c0) rfl rfl) ?_
            simp only [List.set_cons_zero, List.set_cons_succ]
            refine al_pure 5 26 (.int .i64 (wrap64 (t2859))) #[true, true, false, false, true, true, false, false, false, false, false, false, false, false, false] rfl rfl (by kernel_rfl) (fun _ _ _ h_ => h_) rfl (fun w_ => xr_move (.int .i64 (wrap64 (t2859))) rfl rfl) ?_
            simp only [List.set_cons_zero, List.set_cons_succ]
            refine al_pure 6 27 (.int .i64 (wrap64 (9 + (wrap64 (t2859))))) #[true, true, false, false, true, true, true, false, false, false, false, false, false, false, false] rfl rfl (by kernel_rfl) (fun _ _ _ h_ => h_) rfl (fun w_ => xr_bin (.int .i64 9) (.int .i64 (wrap64 (t2859))) (.int .i64 (wrap64 (9 + (wrap64 (t2859))))) rfl rfl rfl (B.add_i64 9 (wrap64 (t2859)))) ?_
            simp only [List.set_cons_zero, List.set_cons_succ]
            by_cases c2879 : 9 ≤ (wrap64 (9 + (wrap64 (t2859))))
            · rw [if_pos c2879] at H
              by_cases c2880 : (wrap64 (9 + (wrap64 (t2859)))) ≤ (l0.length : Int)
              · rw [if_pos c2880] at H
                obtain ⟨y2881, A2882, H⟩ := Option.bind_eq_some_iff.mp H
                (try dsimp only at H)
                obtain ⟨iz2888, hiz2888, _, hzz2888, _⟩ := info_parts info5
                obtain ⟨A2883, cp2884, hr2887, HR2885, HC2886⟩ := cutMid (t := 23) (Kd.int .u8) 5 .i64 .i64 Try.underlying23 hiz2888 hzz2888 HP0 HCP0 (by first | assumption | omega | decide) (by first | assumption | omega | decide) (by first | assumption | omega | decide) (Option.some.inj A2882)
                refine al_pure 7 28 (.slice A2883 y2881.length cp2884) #[true, true, false, false, true, true, true, true, false, false, false, false, false, false, false] rfl rfl (by kernel_rfl) (fun _ _ _ h_ => h_) rfl (fun w_ => xr_slice (.slice A0 l0.length c0) (some (.int .i64 9)) (some (.int .i64 (wrap64 (9 + (wrap64 (t2859)))))) none (.slice A2883 y2881.length cp2884) rfl rfl rfl rfl rfl (hr2887 _)) ?_
                simp only [List.set_cons_zero, List.set_cons_succ]
                clear hr2887 hiz2888 hzz2888
                refine al_pure 9 30 (.slice A0 l0.length c0) #[true, true, false, false, true, true, true, true, false, true, false, false, false, false, false] rfl rfl (by kernel_rfl) (fun _ _ _ h_ => h_) rfl (fun w_ => xr_move (.slice A0 l0.length c0) rfl rfl) ?_
                simp only [List.set_cons_zero, List.set_cons_succ]
                refine al_pure 10 31 (.int .i64 (wrap64 (t2859))) #[true, true, false, false, true, true, true, true, false, true, true, false, false, false, false] rfl rfl (by kernel_rfl) (fun _ _ _ h_ => h_) rfl (fun w_ => xr_move (.int .i64 (wrap64 (t2859))) rfl rfl) ?_
                simp only [List.set_cons_zero, List.set_cons_succ]
                refine al_pure 11 32 (.int .i64 (wrap64 (9 + (wrap64 (t2859))))) #[true, true, false, false, true, true, true, true, false, true, true, true, false, false, false] rfl rfl (by kernel_rfl) (fun _ _ _ h_ => h_) rfl (fun w_ => xr_bin (.int .i64 9) (.int .i64 (wrap64 (t2859))) (.int .i64 (wrap64 (9 + (wrap64 (t2859))))) rfl rfl rfl (B.add_i64 9 (wrap64 (t2859)))) ?_
                simp only [List.set_cons_zero, List.set_cons_succ]
                by_cases c2889 : 0 ≤ (wrap64 (9 + (wrap64 (t2859))))
                · rw [if_pos c2889] at H
                  obtain ⟨y2890, A2891, H⟩ := Option.bind_eq_some_iff.mp H
                  (try dsimp only at H)
                  obtain ⟨iz2897, hiz2897, _, hzz2897, _⟩ := info_parts info5
                  obtain ⟨hr2896, HR2894, HC2895⟩ := cutTo (t := 23) (Kd.int .u8) 5 .i64 Try.underlying23 hiz2897 HP0 HCP0 (by first | assumption | omega | decide) (by first | assumption | omega | decide) (Option.some.inj A2891)
                  refine al_pure 12 33 (.slice A0 y2890.length c0) #[true, true, false, false, true, true, true, true, false, true, true, true, true, false, false] rfl rfl (by kernel_rfl) (fun _ _ _ h_ => h_) rfl (fun w_ => xr_slice (.slice A0 l0.length c0) none (some (.int .i64 (wrap64 (9 + (wrap64 (t2859)))))) none (.slice A0 y2890.length c0) rfl rfl rfl rfl rfl (hr2896 _)) ?_
                  simp only [List.set_cons_zero, List.set_cons_succ]
                  clear hr2896 hiz2897 hzz2897
                  refine al_take 2 23 (.int .u8 (rd l0 8)) #[true, true, true, false, true, true, true, true, false, true, true, true, true, false, false] rfl rfl (by kernel_rfl) (fun _ _ _ h_ => h_) rfl (fun w_ hS_ => xr_load (.pointer (some (ad2877.add ((8 : Int).toNat * 1)))) (.int .u8 (rd l0 8)) rfl rfl (load_int Try.underlying5 rfl hA2878 hS_ (by first | assumption | decide | omega) (by first | assumption | decide | omega))) (Ft.now HP0) ?_
                  simp only [List.set_cons_zero, List.set_cons_succ]
                  refine al_pure 3 24 (.int .i64 (wrap64 (rd l0 8))) #[true, true, true, true, true, true, true, true, false, true, true, true, true, false, false] rfl rfl (by kernel_rfl) (fun _ _ _ h_ => h_) rfl (fun w_ => xr_conv (.int .u8 (rd l0 8)) (.int .i64 (wrap64 (rd l0 8))) rfl rfl (by first | rfl | (go_simp; done) | (go_simp; rfl) | (go_simp; exact i64_w _) | (go_simp; exact i32_w _))) ?_
                  simp only [List.set_cons_zero, List.set_cons_succ]
                  obtain ⟨t2898, A2899, H⟩ := Option.bind_eq_some_iff.mp H
                  (try dsimp only at H)
                  refine al_one 8 #[true, true, true, true, true, true, true, true, true, true, true, true, true, false, false] rfl rfl (by kernel_rfl) (fun K_ hK_ => ?_)
                  refine goes_ Try.func43 (by kernel_rfl) rfl #[.int .i64 (wrap64 (rd l0 8)), .slice A2883 y2881.length cp2884] rfl rfl rfl (by rw [map_ev]; simp only [List.map_toArray, List.map_cons, List.map_nil]; first | done | rfl) ?_
                  refine (blazonref04_Form.calls k (wrap64 (rd l0 8)) A2883 cp2884 y2881 t2898  (fun z_ => pal [(0, 0)] (C2863_ z_)) w2875 (fun _ => pal_lt rfl _) (Ft.arg HR2885 rfl) HC2886 A2899).mono ?_
                  rintro _ w2901 ⟨C2902, A2904, cp2905, rfl, hs2903, HO2906, HC2907⟩
                  refine ⟨_, rfl, ?_⟩
                  replace HO2906 := Own.res (U := [(0, 0), (5, 11)]) (j := 11) HO2906 hs2903 (by rfl) (by decide) rfl rfl
                  replace hs2903 := Step.lift (U := [(0, 0), (5, 11)]) hs2903 [] rfl rfl
                  generalize up C2863_ C2902 w2875.heap.size [(0, 0), (5, 11)] = C2902_ at HO2906 hs2903
                  replace HP0 := HP0.thru hs2903 rfl
                  replace HR2894 := HR2894.thru hs2903 rfl
                  replace HS := HS.trans hs2903 hc rfl
                  refine hK_ _ _ (Ft.now HP0) ?_
                  clear hK_ K_
                  (try simp only [Act.put, List.setIfInBounds_toArray, List.set_cons_zero, List.set_cons_succ])
                  obtain ⟨t2908, A2909, H⟩ := Option.bind_eq_some_iff.mp H
                  (try dsimp only at H)
                  refine al_one 13 #[true, true, true, true, true, true, true, true, true, true, true, true, true, true, false] rfl rfl (by kernel_rfl) (fun K_ hK_ => ?_)
                  refine goes_ Try.func17 (by kernel_rfl) rfl #[.slice A2904 t2898.length cp2905, .slice A0 y2890.length c0] rfl rfl rfl (by rw [map_ev]; simp only [List.map_toArray, List.map_cons, List.map_nil]; first | done | rfl) ?_
                  refine (blazonref01_Same.calls k A2904 cp2905 t2898 A0 c0 y2890 t2908  (fun z_ => pal [(0, 0), (11, 0)] (C2902_ z_)) w2901 (fun _ => pal_lt rfl _) (Ft.arg (HO2906.ft) rfl) HC2907 (Ft.arg HR2894 rfl) HC2895 A2909).mono ?_
                  rintro _ w2911 ⟨C2912, rfl, hs2913⟩
                  refine ⟨_, rfl, ?_⟩
                  replace hs2913 := Step.lift (U := [(0, 0)]) hs2913 [] rfl rfl
                  generalize up C2902_ C2912 w2901.heap.size [(0, 0)] = C2912_ at hs2913
                  replace HP0 := HP0.thru hs2913 rfl
                  replace HS := HS.trans hs2913 hc rfl
                  refine hK_ _ _ (Ft.now HP0) ?_
                  clear hK_ K_
                  (try simp only [Act.put, List.setIfInBounds_toArray, List.set_cons_zero, List.set_cons_succ])
                  refine al_pure 14 35 (.bool (!t2908)) #[true, true, true, true, true, true, true, true, true, true, true, true, true, true, true] rfl rfl (by kernel_rfl) (fun _ _ _ h_ => h_) rfl (fun w_ => xr_un (.bool t2908) (.bool (!t2908)) rfl rfl (by first | rfl | (go_simp; done) | (go_simp; rfl) | (go_simp; exact i64_w _) | (go_simp; exact i32_w _))) ?_
                  simp only [List.set_cons_zero, List.set_cons_succ]
                  refine al_end (by kernel_rfl) ?_
                  (try simp only [Act.put, List.setIfInBounds_toArray, List.set_cons_zero, List.set_cons_succ])
                  refine hK2874 _ _ ?_
                  (try clear hK2874 K2874)
                  by_cases c2914 : t2908 = true
                  · rw [if_pos c2914] at H
                    (try rw [c2914])
                    (try simp only [Bool.not_true, Bool.not_false])
                    refine wp_cond_false rfl ?_
                    refine wp_skip ?_
                    (try simp only [Act.put, List.setIfInBounds_toArray, List.set_cons_zero, List.set_cons_succ])
                    refine hK2873 _ _ ?_
                    (try clear hK2873 K2873)
                    refine wp_seq_k fun K2915 hK2915 => ?_
                    (try simp only [Act.put, List.setIfInBounds_toArray, List.set_cons_zero, List.set_cons_succ])
                    refine al_start #[false, false, false, false, false, false, false, false, false, false, false, false, false, false] rfl rfl rfl (fun w_ => (Kd.int .u8).C w_ A0 l0.length l0) (Ft.now (HP0).drew) ?_
                    replace HP0 := HP0.drew
                    replace HS := Step.ofDrew HS
                    generalize w2911.drew = w2916 at *
                    refine al_pure 0 36 (.slice A0 l0.length c0) #[true, false, false, false, false, false, false, false, false, false, false, false, false, false] rfl rfl (by kernel_rfl) (fun _ _ _ h_ => h_) rfl (fun w_ => xr_move (.slice A0 l0.length c0) rfl rfl) ?_
                    simp only [List.set_cons_zero, List.set_cons_succ]
                    obtain ⟨ad2917, hA2918⟩ := c_addr (Ft.now HP0) (pos_of (j := 8) (by first | assumption | decide) (by first | assumption | omega))
                    refine al_pure 1 37 (.pointer (some (ad2917.add ((8 : Int).toNat * 1)))) #[true, true, false, false, false, false, false, false, false, false, false, false, false, false] rfl rfl (by kernel_rfl) (fun _ _ _ h_ => h_) rfl (fun w_ => xr_indexAddr (.slice A0 l0.length c0) (.int .i64 8) (.pointer (some (ad2917.add ((8 : Int).toNat * 1)))) rfl rfl rfl (index_at Try.underlying23 info5 hA2918 (by first | assumption | decide | omega) (by first | assumption | decide | omega))) ?_
                    simp only [List.set_cons_zero, List.set_cons_succ]
                    refine al_pure 4 40 (.slice A0 l0.length c0) #[true, true, false, false, true, false, false, false, false, false, false, false, false, false] rfl rfl (by kernel_rfl) (fun _ _ _ h_ => h_) rfl (fun w_ => xr_move (.slice A0 l0.length c0) rfl rfl) ?_
                    simp only [List.set_cons_zero, List.set_cons_succ]
                    refine al_pure 5 41 (.int .i64 (wrap64 (t2859))) #[true, true, false, false, true, true, false, false, false, false, false, false, false, false] rfl rfl (by kernel_rfl) (fun _ _ _ h_ => h_) rfl (fun w_ => xr_move (.int .i64 (wrap64 (t2859))) rfl rfl) ?_
                    simp only [List.set_cons_zero, List.set_cons_succ]
                    refine al_pure 6 42 (.int .i64 (wrap64 (9 + (wrap64 (t2859))))) #[true, true, false, false, true, true, true, false, false, false, false, false, false, false] rfl rfl (by kernel_rfl) (fun _ _ _ h_ => h_) rfl (fun w_ => xr_bin (.int .i64 9) (.int .i64 (wrap64 (t2859))) (.int .i64 (wrap64 (9 + (wrap64 (t2859))))) rfl rfl rfl (B.add_i64 9 (wrap64 (t2859)))) ?_
                    simp only [List.set_cons_zero, List.set_cons_succ]
                    obtain ⟨y2919, A2920, H⟩ := Option.bind_eq_some_iff.mp H
                    (try dsimp only at H)
                    obtain ⟨iz2926, hiz2926, _, hzz2926, _⟩ := info_parts info5
                    obtain ⟨A2921, cp2922, hr2925, HR2923, HC2924⟩ := cutMid (t := 23) (Kd.int .u8) 5 .i64 .i64 Try.underlying23 hiz2926 hzz2926 HP0 HCP0 (by first | assumption | omega | decide) (by first | assumption | omega | decide) (by first | assumption | omega | decide) (Option.some.inj A2920)
                    refine al_pure 7 43 (.slice A2921 y2919.length cp2922) #[true, true, false, false, true, true, true, true, false, false, false, false, false, false] rfl rfl (by kernel_rfl) (fun _ _ _ h_ => h_) rfl (fun w_ => xr_slice (.slice A0 l0.length c0) (some (.int .i64 9)) (some (.int .i64 (wrap64 (9 + (wrap64 (t2859)))))) none (.slice A2921 y2919.length cp2922) rfl rfl rfl rfl rfl (hr2925 _)) ?_
                    simp only [List.set_cons_zero, List.set_cons_succ]
                    clear hr2925 hiz2926 hzz2926
                    refine al_pure 8 44 (.int .i64 (wrap64 (t2859))) #[true, true, false, false, true, true, true, true, true, false, false, false, false, false] rfl rfl (by kernel_rfl) (fun _ _ _ h_ => h_) rfl (fun w_ => xr_move (.int .i64 (wrap64 (t2859))) rfl rfl) ?_
                    simp only [List.set_cons_zero, List.set_cons_succ]
                    refine al_pure 9 45 (.int .i64 (wrap64 (9 + (wrap64 (t2859))))) #[true, true, false, false, true, true, true, true, true, true, false, false, false, false] rfl rfl (by kernel_rfl) (fun _ _ _ h_ => h_) rfl (fun w_ => xr_bin (.int .i64 9) (.int .i64 (wrap64 (t2859))) (.int .i64 (wrap64 (9 + (wrap64 (t2859))))) rfl rfl rfl (B.add_i64 9 (wrap64 (t2859)))) ?_
                    simp only [List.set_cons_zero, List.set_cons_succ]
                    refine al_take 2 38 (.int .u8 (rd l0 8)) #[true, true, true, false, true, true, true, true, true, true, false, false, false, false] rfl rfl (by kernel_rfl) (fun _ _ _ h_ => h_) rfl (fun w_ hS_ => xr_load (.pointer (some (ad2917.add ((8 : Int).toNat * 1)))) (.int .u8 (rd l0 8)) rfl rfl (load_int Try.underlying5 rfl hA2918 hS_ (by first | assumption | decide | omega) (by first | assumption | decide | omega))) (Ft.now HP0) ?_
                    simp only [List.set_cons_zero, List.set_cons_succ]
                    refine al_pure 3 39 (.int .i64 (wrap64 (rd l0 8))) #[true, true, true, true, true, true, true, true, true, true, false, false, false, false] rfl rfl (by kernel_rfl) (fun _ _ _ h_ => h_) rfl (fun w_ => xr_conv (.int .u8 (rd l0 8)) (.int .i64 (wrap64 (rd l0 8))) rfl rfl (by first | rfl | (go_simp; done) | (go_simp; rfl) | (go_simp; exact i64_w _) | (go_simp; exact i32_w _))) ?_
                    simp only [List.set_cons_zero, List.set_cons_succ]
                    refine al_pure 10 2 (.int .i64 (wrap64 (rd l0 8))) #[true, true, true, true, true, true, true, true, true, true, true, false, false, false] rfl rfl (by kernel_rfl) (fun _ _ _ h_ => h_) rfl (fun w_ => xr_assign (.int .i64 (wrap64 (rd l0 8))) rfl rfl) ?_
                    simp only [List.set_cons_zero, List.set_cons_succ]
                    refine al_pure 11 3 (.slice A2921 y2919.length cp2922) #[true, true, true, true, true, true, true, true, true, true, true, true, false, false] rfl rfl (by kernel_rfl) (fun _ _ _ h_ => h_) rfl (fun w_ => xr_assign (.slice A2921 y2919.length cp2922) rfl rfl) ?_
                    simp only [List.set_cons_zero, List.set_cons_succ]
                    refine al_pure 12 4 (.int .i64 (wrap64 (9 + (wrap64 (t2859))))) #[true, true, true, true, true, true, true, true, true, true, true, true, true, false] rfl rfl (by kernel_rfl) (fun _ _ _ h_ => h_) rfl (fun w_ => xr_assign (.int .i64 (wrap64 (9 + (wrap64 (t2859))))) rfl rfl) ?_
                    simp only [List.set_cons_zero, List.set_cons_succ]
                    refine al_pure 13 5 (.int .i64 0) #[true, true, true, true, true, true, true, true, true, true, true, true, true, true] rfl rfl (by kernel_rfl) (fun _ _ _ h_ => h_) rfl (fun w_ => xr_assign (.int .i64 0) rfl rfl) ?_
                    simp only [List.set_cons_zero, List.set_cons_succ]
                    refine al_end (by kernel_rfl) ?_
                    (try simp only [Act.put, List.setIfInBounds_toArray, List.set_cons_zero, List.set_cons_succ])
                    refine hK2915 _ _ ?_
                    (try clear hK2915 K2915)
                    refine wp_ret ?_
                    (try simp only [Exit.inBlock, Exit.then, Exit.noGoto])
                    (try simp only [Act.put, List.setIfInBounds_toArray, List.set_cons_zero, List.set_cons_succ])
                    simp only [Option.some.injEq, Prod.mk.injEq] at H
                    obtain ⟨rfl, rfl, rfl, rfl⟩ := H
                    refine bodyPost_ret (by simp [results, Try.results45]; rfl) rfl ?_
                    exact ⟨_, A2921, cp2922, rfl, HS, HR2923, HC2924⟩
                  · rw [if_neg c2914] at H
                    (try rw [(Bool.eq_false_iff.mpr c2914)])
                    (try simp only [Bool.not_true, Bool.not_false])
                    refine wp_cond_true rfl ?_
                    refine wp_seq_k fun K2927 hK2927 => ?_
                    refine wl_region ?_
                    refine st (.int .i64 0) rfl rfl (xr_assign (.int .i64 0) rfl rfl) ?_
                    simp only [List.set_cons_zero, List.set_cons_succ]
                    refine st (.slice none 0 0) rfl rfl (xr_assign (.slice none 0 0) rfl rfl) ?_
                    simp only [List.set_cons_zero, List.set_cons_succ]
                    refine st (.int .i64 0) rfl rfl (xr_assign (.int .i64 0) rfl rfl) ?_
                    simp only [List.set_cons_zero, List.set_cons_succ]
                    refine st (.int .i64 5) rfl rfl (xr_assign (.int .i64 5) rfl rfl) ?_
                    simp only [List.set_cons_zero, List.set_cons_succ]
                    refine wl_end ?_
                    (try simp only [Act.put, List.setIfInBounds_toArray, List.set_cons_zero, List.set_cons_succ])
                    refine hK2927 _ _ ?_
                    (try clear hK2927 K2927)
                    refine wp_ret ?_
                    (try simp only [Exit.inBlock, Exit.then, Exit.noGoto])
                    (try simp only [Act.put, List.setIfInBounds_toArray, List.set_cons_zero, List.set_cons_succ])
                    simp only [Option.some.injEq, Prod.mk.injEq] at H
                    obtain ⟨rfl, rfl, rfl, rfl⟩ := H
                    refine bodyPost_ret (by simp [results, Try.results45]; rfl) rfl ?_
                    exact ⟨_, none, 0, rfl, HS, (Kd.F_nil _ _ _), (Nat.le_refl 0)⟩
                · rw [if_neg c2889] at H
                  exact absurd H (by simp)
              · rw [if_neg c2880] at H
                exact absurd H (by simp)
            · rw [if_neg c2879] at H
              exact absurd H (by simp)
          · rw [if_neg c2876] at H
            exact absurd H (by simp)
    · rw [if_neg c2850] at H
      exact absurd H (by simp)

/-! ### blazonlaw04_RecordGets: function 13 -/
def blazonlaw04_RecordGets.f (k : Nat) (l0 : List Int) : Option (Bool) := if (l0.length : Int) > 2000 then ((blazonlaw04_awake.f k).bind fun t3027 => (some t3027)) else ((blazonref01_Lent.f l0).bind fun t3034 => ((crc_New.f).bind fun t3047 => ((record_Get.f t3047 t3034).bind fun bt3055 => ((blazonref04_Get.f k l0).bind fun bt3079 => (if bt3055.1 = bt3079.1 then ((blazonref01_Same.f k bt3055.2.1 bt3079.2.1).bind fun t3094 => (if t3094 = true then (if bt3055.2.2.1 = bt3079.2.2.1 then (if bt3055.2.2.2.1 = bt3079.2.2.2 then ((blazonref01_Kept.f k t3034 l0).bind fun t3103 => (if t3103 = true then ((blazonlaw04_awake.f k).bind fun t3110 => (some t3110)) else (some false))) else (some false)) else (some false)) else (some false))) else (some false))))))
theorem blazonlaw04_RecordGets.mono : ∀ a0 k, LeO (blazonlaw04_RecordGets.f k a0) (blazonlaw04_RecordGets.f (k + 1) a0) := by
  intro a0 k
  unfold blazonlaw04_RecordGets.f
  repeat' first
      | (with_reducible exact blazonlaw04_awake.mono _)
      | (with_reducible exact blazonref01_Kept.mono _ _ _)
      | (with_reducible exact blazonref01_Same.mono _ _ _)
      | (with_reducible exact blazonref04_Get.mono _ _)
      | (with_reducible exact LeO.refl _)
      | (with_reducible exact LeO.none _)
      | (with_reducible refine LeO.ite ?_ ?_)
      | (with_reducible refine LeO.bind ?_ (fun _ => ?_))
      | exact blazonlaw04_awake.mono _
      | exact blazonref01_Kept.mono _ _ _
      | exact blazonref01_Same.mono _ _ _
      | exact blazonref04_Get.mono _ _
      | exact LeO.none _
      | refine LeO.ite ?_ ?_
      | refine LeO.bind ?_ (fun _ => ?_)
set_option maxHeartbeats 2000000 in
set_option maxRecDepth 100000 in
theorem blazonlaw04_RecordGets.calls (k : Nat) (A0 : Option Addr) (c0 : Nat) (l0 : List Int) (r : Bool) (c : Nat → Nat) (w : World) (hc : ∀ k, c k < 10) (HP0 : Ft c [0] w (fun w_ => (Kd.int .u8).C w_ A0 l0.length l0)) (HCP0 : l0.length ≤ c0) (H : blazonlaw04_RecordGets.f k l0 = some r) :
    Calls Try.prog 13 #[.slice A0 l0.length c0] w fun e w' => ∃ (c' : Nat → Nat) , e = .returned (.bool r) ∧ Step c w c' w' [] := by
  unfold blazonlaw04_RecordGets.f at H
  have HS := Step.refl c w []
  go_enter Try.func13, Try.ntmps13
  refine wp_seq_k fun K3022 hK3022 => ?_
  refine wl_region ?_
  refine st (.bool false) rfl rfl (xr_assign (.bool false) rfl rfl) ?_
  simp only [List.set_cons_zero, List.set_cons_succ]
  refine wl_end ?_
  (try simp only [Act.put, List.setIfInBounds_toArray, List.set_cons_zero, List.set_cons_succ])
  refine hK3022 _ _ ?_
  (try clear hK3022 K3022)
  refine wp_seq_k fun K3023 hK3023 => ?_
  refine wp_seq_k fun K3024 hK3024 => ?_
  refine wl_region ?_
  refine st (.slice A0 l0.length c0) rfl rfl (xr_move (.slice A0 l0.length c0) rfl rfl) ?_
  simp only [List.set_cons_zero, List.set_cons_succ]
  refine st (.int .i64 (l0.length : Int)) rfl rfl (xr_builtin #[.slice A0 l0.length c0] (.int .i64 (l0.length : Int)) rfl (by simp only [List.map_toArray, List.map_cons, List.map_nil]; first | done | rfl) (by first | rfl | (go_simp; done) | (go_simp; rfl) | (go_simp; exact i64_w _) | (go_simp; exact i32_w _))) ?_
  simp only [List.set_cons_zero, List.set_cons_succ]
  refine st (.bool (decide ((l0.length : Int) > 2000))) rfl rfl (xr_bin (.int .i64 (l0.length : Int)) (.int .i64 2000) (.bool (decide ((l0.length : Int) > 2000))) rfl rfl rfl (B.gtr_i64 (l0.length : Int) 2000)) ?_
  simp only [List.set_cons_zero, List.set_cons_succ]
  refine wl_end ?_
  (try simp only [Act.put, List.setIfInBounds_toArray, List.set_cons_zero, List.set_cons_succ])
  refine hK3024 _ _ ?_
  (try clear hK3024 K3024)
  by_cases c3025 : (l0.length : Int) > 2000
  · rw [if_pos c3025] at H
    (try rw [(decide_eq_true c3025)])
    (try simp only [Bool.not_true, Bool.not_false])
    refine wp_cond_true rfl ?_
    refine wp_seq_k fun K3026 hK3026 => ?_
    refine wl_region ?_
    obtain ⟨t3027, A3028, H⟩ := Option.bind_eq_some_iff.mp H
    (try dsimp only at H)
    refine st_call #[] rfl rfl Try.func41 (by kernel_rfl) rfl rfl (by simp only [List.map_toArray, List.map_cons, List.map_nil]; first | done | rfl) ?_
    refine (blazonlaw04_awake.calls k t3027  (fun z_ => pal [(0, 0)] (c z_)) w (fun _ => pal_lt rfl _) A3028).mono ?_
    rintro _ w3030 ⟨C3031, rfl, hs3032⟩
    refine ⟨_, rfl, ?_⟩
    replace hs3032 := Step.lift (U := [(0, 0)]) hs3032 [] rfl rfl
    generalize up c C3031 w.heap.size [(0, 0)] = C3031_ at hs3032
    replace HS := HS.trans hs3032 hc rfl
    (try simp only [Act.put, List.setIfInBounds_toArray, List.set_cons_zero, List.set_cons_succ])
    refine st (.bool t3027) rfl rfl (xr_assign (.bool t3027) rfl rfl) ?_
    simp only [List.set_cons_zero, List.set_cons_succ]
    refine wl_end ?_
    (try simp only [Act.put, List.setIfInBounds_toArray, List.set_cons_zero, List.set_cons_succ])
    refine hK3026 _ _ ?_
    (try clear hK3026 K3026)
    refine wp_ret ?_
    (try simp only [Exit.inBlock, Exit.then, Exit.noGoto])
    (try simp only [Act.put, List.setIfInBounds_toArray, List.set_cons_zero, List.set_cons_succ])
    obtain rfl := Option.some.inj H
    refine bodyPost_ret (results_tmp rfl _ _ _) rfl ?_
    exact ⟨_, rfl, HS⟩
  · rw [if_neg c3025] at H
    (try rw [(decide_eq_false c3025)])
    (try simp only [Bool.not_true, Bool.not_false])
    refine wp_cond_false rfl ?_
    refine wp_skip ?_
    (try simp only [Act.put, List.setIfInBounds_toArray, List.set_cons_zero, List.set_cons_succ])
    refine hK3023 _ _ ?_
    (try clear hK3023 K3023)
    refine wp_seq_k fun K3033 hK3033 => ?_
    refine wl_region ?_
    refine st (.slice A0 l0.length c0) rfl rfl (xr_move (.slice A0 l0.length c0) rfl rfl) ?_
    simp only [List.set_cons_zero, List.set_cons_succ]
    obtain ⟨t3034, A3035, H⟩ := Option.bind_eq_some_iff.mp H
    (try dsimp only at H)
    refine st_call #[.slice A0 l0.length c0] rfl rfl Try.func23 (by kernel_rfl) rfl rfl (by simp only [List.map_toArray, List.map_cons, List.map_nil]; first | done | rfl) ?_
    refine (blazonref01_Lent.calls A0 c0 l0 t3034  (fun z_ => pal [(0, 0)] (c z_)) w (fun _ => pal_lt rfl _) (Ft.arg HP0 rfl) HCP0 A3035).mono ?_
    rintro _ w3037 ⟨C3038, A3040, cp3041, rfl, hs3039, HO3042, HC3043, HT3044, HTC3045⟩
    refine ⟨_, rfl, ?_⟩
    replace HO3042 := Ft.res (U := [(0, 0)]) HO3042 hs3039 [0] rfl rfl rfl
    replace HT3044 := Ft.res (U := [(0, 0)]) HT3044 hs3039 [0] rfl rfl rfl
    replace hs3039 := Step.lift (U := [(0, 0)]) hs3039 [] rfl rfl
    generalize up c C3038 w.heap.size [(0, 0)] = C3038_ at HO3042 HT3044 hs3039
    replace HP0 := HP0.thru hs3039 rfl
    replace HS := HS.trans hs3039 hc rfl
    (try simp only [Act.put, List.setIfInBounds_toArray, List.set_cons_zero, List.set_cons_succ])
    refine st (.slice A3040 t3034.length cp3041) rfl rfl (xr_assign (.slice A3040 t3034.length cp3041) rfl rfl) ?_
    simp only [List.set_cons_zero, List.set_cons_succ]
    refine wl_end ?_
    (try simp only [Act.put, List.setIfInBounds_toArray, List.set_cons_zero, List.set_cons_succ])
    refine hK3033 _ _ ?_
    (try clear hK3033 K3033)
    refine wp_seq_k fun K3046 hK3046 => ?_
    refine wl_region ?_
    obtain ⟨t3047, A3048, H⟩ := Option.bind_eq_some_iff.mp H
    (try dsimp only at H)
    refine st_call #[] rfl rfl Try.func34 (by kernel_rfl) rfl rfl (by simp only [List.map_toArray, List.map_cons, List.map_nil]; first | done | rfl) ?_
    refine (crc_New.calls t3047  (fun z_ => pal [(0, 0)] (C3038_ z_)) w3037 (fun _ => pal_lt rfl _) A3048).mono ?_
    rintro _ w3050 ⟨C3051, v3053, rfl, hs3052, HB3054⟩
    refine ⟨_, rfl, ?_⟩
    replace HB3054 := Ft.res (U := [(0, 0), (5, 12)]) HB3054 hs3052 [12] rfl rfl rfl
    replace hs3052 := Step.lift (U := [(0, 0), (5, 12)]) hs3052 [] rfl rfl
    generalize up C3038_ C3051 w3037.heap.size [(0, 0), (5, 12)] = C3051_ at HB3054 hs3052
    replace HP0 := HP0.thru hs3052 rfl
    replace HO3042 := HO3042.thru hs3052 rfl
    replace HT3044 := HT3044.thru hs3052 rfl
    replace HS := HS.trans hs3052 hc rfl
    (try simp only [Act.put, List.setIfInBounds_toArray, List.set_cons_zero, List.set_cons_succ])
    refine st (.slice A3040 t3034.length cp3041) rfl rfl (xr_move (.slice A3040 t3034.length cp3041) rfl rfl) ?_
    simp only [List.set_cons_zero, List.set_cons_succ]
    obtain ⟨⟨t3055, t3056, t3057, t3058, t3059⟩, A3060, H⟩ := Option.bind_eq_some_iff.mp H
    (try dsimp only at H)
    refine st_call #[v3053, .slice A3040 t3034.length cp3041] rfl rfl Try.func44 (by kernel_rfl) rfl rfl (by simp only [List.map_toArray, List.map_cons, List.map_nil]; first | done | rfl) ?_
    refine (record_Get.calls v3053 t3047 A3040 cp3041 t3034 t3055 t3056 t3057 t3058 t3059  (fun z_ => pal [(0, 0), (12, 1)] (C3051_ z_)) w3050 (fun _ => pal_lt rfl _) (Ft.arg HB3054 rfl) (Ft.arg HO3042 rfl) HC3043 A3060).mono ?_
    rintro _ w3062 ⟨C3063, A3065, cp3066, rfl, hs3064, HO3067, HC3068, HM3069⟩
    refine ⟨_, rfl, ?_⟩
    replace HO3067 := Own.res (U := [(0, 0), (1, 12), (5, 13)]) (j := 13) HO3067 hs3064 (by rfl) (by decide) rfl rfl
    replace HM3069 := Ft.res (U := [(0, 0), (1, 12), (5, 13)]) HM3069 hs3064 [12] rfl rfl rfl
    replace hs3064 := Step.lift (U := [(0, 0), (1, 12), (5, 13)]) hs3064 [12] rfl rfl
    generalize up C3051_ C3063 w3050.heap.size [(0, 0), (1, 12), (5, 13)] = C3063_ at HO3067 HM3069 hs3064
    replace HP0 := HP0.thru hs3064 rfl
    replace HO3042 := HO3042.thru hs3064 rfl
    replace HT3044 := HT3044.thru hs3064 rfl
    replace HS := HS.trans hs3064 hc rfl
    (try simp only [Act.put, List.setIfInBounds_toArray, List.set_cons_zero, List.set_cons_succ])
    refine st (.tuple #[.agg #[.int .i64 t3055, .slice A3065 t3056.length cp3066], .int .i64 t3057, .int .i64 t3058]) rfl rfl (xr_move (.tuple #[.agg #[.int .i64 t3055, .slice A3065 t3056.length cp3066], .int .i64 t3057, .int .i64 t3058]) rfl rfl) ?_
    simp only [List.set_cons_zero, List.set_cons_succ]
    refine st (.agg #[.int .i64 t3055, .slice A3065 t3056.length cp3066]) rfl rfl (xr_extract (.tuple #[.agg #[.int .i64 t3055, .slice A3065 t3056.length cp3066], .int .i64 t3057, .int .i64 t3058]) (.agg #[.int .i64 t3055, .slice A3065 t3056.length cp3066]) rfl rfl rfl) ?_
    simp only [List.set_cons_zero, List.set_cons_succ]
    refine st (.int .i64 t3057) rfl rfl (xr_extract (.tuple #[.agg #[.int .i64 t3055, .slice A3065 t3056.length cp3066], .int .i64 t3057, .int .i64 t3058]) (.int .i64 t3057) rfl rfl rfl) ?_
    simp only [List.set_cons_zero, List.set_cons_succ]
    refine st (.int .i64 t3058) rfl rfl (xr_extract (.tuple #[.agg #[.int .i64 t3055, .slice A3065 t3056.length cp3066], .int .i64 t3057, .int .i64 t3058]) (.int .i64 t3058) rfl rfl rfl) ?_
    simp only [List.set_cons_zero, List.set_cons_succ]
    refine bx_new (C := C3063_) 63 [.int .i64 0, .slice none 0 0] 14 rfl rfl (by first | (go_simp; done) | (go_simp; rfl)) ?_
    intro g3070 w3071 C3072 HX3073 hs3074
    replace HP0 := HP0.thru hs3074 rfl
    replace HO3042 := HO3042.thru hs3074 rfl
    replace HT3044 := HT3044.thru hs3074 rfl
    replace HO3067 := HO3067.thru hs3074 rfl
    replace HS := HS.trans hs3074 hc rfl
    (try simp only [Act.put, List.setIfInBounds_toArray, List.set_cons_zero, List.set_cons_succ])
    refine bx_store (C := C3072) (z := 14) (g := g3070) (j := 0) (tb := 63) (u := .agg #[.int .i64 t3055, .slice A3065 t3056.length cp3066]) (seg := [.int .i64 t3055, .slice A3065 t3056.length cp3066]) (xs := [.int .i64 0, .slice none 0 0]) rfl rfl rfl rfl rfl rfl (by first | kernel_rfl | rfl) (by simp [Value.oneCell']) HX3073 (by simp only [List.length_cons, List.length_nil]; omega) rfl ?_
    intro w3075 HX3076 hs3077
    replace HP0 := HP0.thru hs3077 rfl
    replace HO3042 := HO3042.thru hs3077 rfl
    replace HT3044 := HT3044.thru hs3077 rfl
    replace HO3067 := HO3067.thru hs3077 rfl
    replace HS := HS.trans hs3077 hc rfl
    (try simp only [Act.put, List.setIfInBounds_toArray, List.set_cons_zero, List.set_cons_succ])
    refine st (.int .i64 t3057) rfl rfl (xr_assign (.int .i64 t3057) rfl rfl) ?_
    simp only [List.set_cons_zero, List.set_cons_succ]
    refine st (.int .i64 t3058) rfl rfl (xr_assign (.int .i64 t3058) rfl rfl) ?_
    simp only [List.set_cons_zero, List.set_cons_succ]
    refine wl_end ?_
    (try simp only [Act.put, List.setIfInBounds_toArray, List.set_cons_zero, List.set_cons_succ])
    refine hK3046 _ _ ?_
    (try clear hK3046 K3046)
    refine wp_seq_k fun K3078 hK3078 => ?_
    refine wl_region ?_
    refine st (.slice A0 l0.length c0) rfl rfl (xr_move (.slice A0 l0.length c0) rfl rfl) ?_
    simp only [List.set_cons_zero, List.set_cons_succ]
    obtain ⟨⟨t3079, t3080, t3081, t3082⟩, A3083, H⟩ := Option.bind_eq_some_iff.mp H
    (try dsimp only at H)
    refine st_call #[.slice A0 l0.length c0] rfl rfl Try.func45 (by kernel_rfl) rfl rfl (by simp only [List.map_toArray, List.map_cons, List.map_nil]; first | done | rfl) ?_
    refine (blazonref04_Get.calls k A0 c0 l0 t3079 t3080 t3081 t3082  (fun z_ => pal [(0, 0)] (C3072 z_)) w3075 (fun _ => pal_lt rfl _) (Ft.arg HP0 rfl) HCP0 A3083).mono ?_
    rintro _ w3085 ⟨C3086, A3088, cp3089, rfl, hs3087, HO3090, HC3091⟩
    refine ⟨_, rfl, ?_⟩
    replace HO3090 := Ft.res (U := [(0, 0)]) HO3090 hs3087 [0] rfl rfl rfl
    replace hs3087 := Step.lift (U := [(0, 0)]) hs3087 [] rfl rfl
    generalize up C3072 C3086 w3075.heap.size [(0, 0)] = C3086_ at HO3090 hs3087
    replace HP0 := HP0.thru hs3087 rfl
    replace HO3042 := HO3042.thru hs3087 rfl
    replace HT3044 := HT3044.thru hs3087 rfl
    replace HO3067 := HO3067.thru hs3087 rfl
    replace HX3076 := HX3076.thru hs3087 rfl
    replace HS := HS.trans hs3087 hc rfl
    (try simp only [Act.put, List.setIfInBounds_toArray, List.set_cons_zero, List.set_cons_succ])
    refine st (.tuple #[.int .i64 t3079, .slice A3088 t3080.length cp3089, .int .i64 t3081, .int .i64 t3082]) rfl rfl (xr_move (.tuple #[.int .i64 t3079, .slice A3088 t3080.length cp3089, .int .i64 t3081, .int .i64 t3082]) rfl rfl) ?_
    simp only [List.set_cons_zero, List.set_cons_succ]
    refine st (.int .i64 t3079) rfl rfl (xr_extract (.tuple #[.int .i64 t3079, .slice A3088 t3080.length cp3089, .int .i64 t3081, .int .i64 t3082]) (.int .i64 t3079) rfl rfl rfl) ?_
    simp only [List.set_cons_zero, List.set_cons_succ]
    refine st (.slice A3088 t3080.length cp3089) rfl rfl (xr_extract (.tuple #[.int .i64 t3079, .slice A3088 t3080.length cp3089, .int .i64 t3081, .int .i64 t3082]) (.slice A3088 t3080.length cp3089) rfl rfl rfl) ?_
    simp only [List.set_cons_zero, List.set_cons_succ]
    refine st (.int .i64 t3081) rfl rfl (xr_extract (.tuple #[.int .i64 t3079, .slice A3088 t3080.length cp3089, .int .i64 t3081, .int .i64 t3082]) (.int .i64 t3081) rfl rfl rfl) ?_
    simp only [List.set_cons_zero, List.set_cons_succ]
    refine st (.int .i64 t3082) rfl rfl (xr_extract (.tuple #[.int .i64 t3079, .slice A3088 t3080.length cp3089, .int .i64 t3081, .int .i64 t3082]) (.int .i64 t3082) rfl rfl rfl) ?_
    simp only [List.set_cons_zero, List.set_cons_succ]
    refine st (.int .i64 t3079) rfl rfl (xr_assign (.int .i64 t3079) rfl rfl) ?_
    simp only [List.set_cons_zero, List.set_cons_succ]
    refine st (.slice A3088 t3080.length cp3089) rfl rfl (xr_assign (.slice A3088 t3080.length cp3089) rfl rfl) ?_
    simp only [List.set_cons_zero, List.set_cons_succ]
    refine st (.int .i64 t3081) rfl rfl (xr_assign (.int .i64 t3081) rfl rfl) ?_
    simp only [List.set_cons_zero, List.set_cons_succ]
    refine st (.int .i64 t3082) rfl rfl (xr_assign (.int .i64 t3082) rfl rfl) ?_
    simp only [List.set_cons_zero, List.set_cons_succ]
    refine wl_end ?_
    (try simp only [Act.put, List.setIfInBounds_toArray, List.set_cons_zero, List.set_cons_succ])
    refine hK3078 _ _ ?_
    (try clear hK3078 K3078)
    refine wp_seq_k fun K3092 hK3092 => ?_
    refine wl_region ?_
    refine st (.pointer (some ⟨g3070, 0, none⟩)) rfl rfl (xr_fieldAddr (.pointer (some ⟨g3070, 0, none⟩)) (.pointer (some ⟨g3070, 0, none⟩)) rfl rfl (bx_field Try.underlying63 rfl rfl (by decide) rfl)) ?_
    simp only [List.set_cons_zero, List.set_cons_succ]
    refine st (.int .i64 t3055) rfl rfl (xr_load (.pointer (some ⟨g3070, 0, none⟩)) (.int .i64 t3055) rfl rfl (load_cell Try.underlying3 rfl (bx_cell (l := [.int .i64 t3055, .slice A3065 t3056.length cp3066]) (HX3076).2 0 rfl))) ?_
    simp only [List.set_cons_zero, List.set_cons_succ]
    refine st (.int .i64 t3079) rfl rfl (xr_move (.int .i64 t3079) rfl rfl) ?_
    simp only [List.set_cons_zero, List.set_cons_succ]
    refine st (.bool (decide (t3055 = t3079))) rfl rfl (xr_bin (.int .i64 t3055) (.int .i64 t3079) (.bool (decide (t3055 = t3079))) rfl rfl rfl (B.eql_i64 t3055 t3079)) ?_
    simp only [List.set_cons_zero, List.set_cons_succ]
    refine st (.bool (decide (t3055 = t3079))) rfl rfl (xr_move (.bool (decide (t3055 = t3079))) rfl rfl) ?_
    simp only [List.set_cons_zero, List.set_cons_succ]
    by_cases c3093 : t3055 = t3079
    · rw [if_pos c3093] at H
      (try rw [(decide_eq_true c3093)])
      (try simp only [Bool.not_true, Bool.not_false])
      refine on_guard (guard_on 4 true 35 rfl rfl rfl) ?_
      refine st (.pointer (some ⟨g3070, 1, none⟩)) rfl rfl (xr_fieldAddr (.pointer (some ⟨g3070, 0, none⟩)) (.pointer (some ⟨g3070, 1, none⟩)) rfl rfl (bx_field Try.underlying63 rfl rfl (by decide) rfl)) ?_
      simp only [List.set_cons_zero, List.set_cons_succ]
      refine on_guard (guard_on 4 true 35 rfl rfl rfl) ?_
      refine st (.slice A3065 t3056.length cp3066) rfl rfl (xr_load (.pointer (some ⟨g3070, 1, none⟩)) (.slice A3065 t3056.length cp3066) rfl rfl (load_cell Try.underlying23 rfl (bx_cell (l := [.int .i64 t3055, .slice A3065 t3056.length cp3066]) (HX3076).2 1 rfl))) ?_
      simp only [List.set_cons_zero, List.set_cons_succ]
      refine on_guard (guard_on 4 true 35 rfl rfl rfl) ?_
      refine st (.slice A3088 t3080.length cp3089) rfl rfl (xr_move (.slice A3088 t3080.length cp3089) rfl rfl) ?_
      simp only [List.set_cons_zero, List.set_cons_succ]
      refine on_guard (guard_on 4 true 35 rfl rfl rfl) ?_
      obtain ⟨t3094, A3095, H⟩ := Option.bind_eq_some_iff.mp H
      (try dsimp only at H)
      refine st_call #[.slice A3065 t3056.length cp3066, .slice A3088 t3080.length cp3089] rfl rfl Try.func17 (by kernel_rfl) rfl rfl (by simp only [List.map_toArray, List.map_cons, List.map_nil]; first | done | rfl) ?_
      refine (blazonref01_Same.calls k A3065 cp3066 t3056 A3088 cp3089 t3080 t3094  (fun z_ => pal [(0, 0), (13, 0)] (C3086_ z_)) w3085 (fun _ => pal_lt rfl _) (Ft.arg (HO3067.ft) rfl) HC3068 (Ft.arg HO3090 rfl) HC3091 A3095).mono ?_
      rintro _ w3097 ⟨C3098, rfl, hs3099⟩
      refine ⟨_, rfl, ?_⟩
      replace hs3099 := Step.lift (U := [(0, 0)]) hs3099 [] rfl rfl
      generalize up C3086_ C3098 w3085.heap.size [(0, 0)] = C3098_ at hs3099
      replace HP0 := HP0.thru hs3099 rfl
      replace HO3042 := HO3042.thru hs3099 rfl
      replace HT3044 := HT3044.thru hs3099 rfl
      replace HO3067 := HO3067.thru hs3099 rfl
      replace HX3076 := HX3076.thru hs3099 rfl
      replace HS := HS.trans hs3099 hc rfl
      (try simp only [Act.put, List.setIfInBounds_toArray, List.set_cons_zero, List.set_cons_succ])
      refine st (.bool t3094) rfl rfl (xr_pick true (.bool t3094) rfl rfl rfl) ?_
      simp only [List.set_cons_zero, List.set_cons_succ]
      refine st (.bool t3094) rfl rfl (xr_move (.bool t3094) rfl rfl) ?_
      simp only [List.set_cons_zero, List.set_cons_succ]
      by_cases c3100 : t3094 = true
      · rw [if_pos c3100] at H
        (try rw [c3100])
        (try simp only [Bool.not_true, Bool.not_false])
        refine on_guard (guard_on 10 true 41 rfl rfl rfl) ?_
        refine st (.int .i64 t3057) rfl rfl (xr_move (.int .i64 t3057) rfl rfl) ?_
        simp only [List.set_cons_zero, List.set_cons_succ]
        refine on_guard (guard_on 10 true 41 rfl rfl rfl) ?_
        refine st (.int .i64 t3081) rfl rfl (xr_move (.int .i64 t3081) rfl rfl) ?_
        simp only [List.set_cons_zero, List.set_cons_succ]
        refine on_guard (guard_on 10 true 41 rfl rfl rfl) ?_
        refine st (.bool (decide (t3057 = t3081))) rfl rfl (xr_bin (.int .i64 t3057) (.int .i64 t3081) (.bool (decide (t3057 = t3081))) rfl rfl rfl (B.eql_i64 t3057 t3081)) ?_
        simp only [List.set_cons_zero, List.set_cons_succ]
        refine st (.bool (decide (t3057 = t3081))) rfl rfl (xr_pick true (.bool (decide (t3057 = t3081))) rfl rfl rfl) ?_
        simp only [List.set_cons_zero, List.set_cons_succ]
        refine st (.bool (decide (t3057 = t3081))) rfl rfl (xr_move (.bool (decide (t3057 = t3081))) rfl rfl) ?_
        simp only [List.set_cons_zero, List.set_cons_succ]
        by_cases c3101 : t3057 = t3081
        · rw [if_pos c3101] at H
          (try rw [(decide_eq_true c3101)])
          (try simp only [Bool.not_true, Bool.not_false])
          refine on_guard (guard_on 15 true 46 rfl rfl rfl) ?_
          refine st (.int .i64 t3058) rfl rfl (xr_move (.int .i64 t3058) rfl rfl) ?_
          simp only [List.set_cons_zero, List.set_cons_succ]
          refine on_guard (guard_on 15 true 46 rfl rfl rfl) ?_
          refine st (.int .i64 t3082) rfl rfl (xr_move (.int .i64 t3082) rfl rfl) ?_
          simp only [List.set_cons_zero, List.set_cons_succ]
          refine on_guard (guard_on 15 true 46 rfl rfl rfl) ?_
          refine st (.bool (decide (t3058 = t3082))) rfl rfl (xr_bin (.int .i64 t3058) (.int .i64 t3082) (.bool (decide (t3058 = t3082))) rfl rfl rfl (B.eql_i64 t3058 t3082)) ?_
          simp only [List.set_cons_zero, List.set_cons_succ]
          refine st (.bool (decide (t3058 = t3082))) rfl rfl (xr_pick true (.bool (decide (t3058 = t3082))) rfl rfl rfl) ?_
          simp only [List.set_cons_zero, List.set_cons_succ]
          refine st (.bool (decide (t3058 = t3082))) rfl rfl (xr_move (.bool (decide (t3058 = t3082))) rfl rfl) ?_
          simp only [List.set_cons_zero, List.set_cons_succ]
          by_cases c3102 : t3058 = t3082
          · rw [if_pos c3102] at H
            (try rw [(decide_eq_true c3102)])
            (try simp only [Bool.not_true, Bool.not_false])
            refine on_guard (guard_on 20 true 51 rfl rfl rfl) ?_
            refine st (.slice A3040 t3034.length cp3041) rfl rfl (xr_move (.slice A3040 t3034.length cp3041) rfl rfl) ?_
            simp only [List.set_cons_zero, List.set_cons_succ]
            refine on_guard (guard_on 20 true 51 rfl rfl rfl) ?_
            refine st (.slice A0 l0.length c0) rfl rfl (xr_move (.slice A0 l0.length c0) rfl rfl) ?_
            simp only [List.set_cons_zero, List.set_cons_succ]
            refine on_guard (guard_on 20 true 51 rfl rfl rfl) ?_
            obtain ⟨t3103, A3104, H⟩ := Option.bind_eq_some_iff.mp H
            (try dsimp only at H)
            refine st_call #[.slice A3040 t3034.length cp3041, .slice A0 l0.length c0] rfl rfl Try.func26 (by kernel_rfl) rfl rfl (by simp only [List.map_toArray, List.map_cons, List.map_nil]; first | done | rfl) ?_
            refine (blazonref01_Kept.calls k A3040 cp3041 t3034 A0 c0 l0 t3103  (fun z_ => pal [(0, 0)] (C3098_ z_)) w3097 (fun _ => pal_lt rfl _) (Ft.arg HO3042 rfl) HC3043 (Ft.arg HT3044 rfl) HTC3045 (Ft.arg HP0 rfl) HCP0 A3104).mono ?_
            rintro _ w3106 ⟨C3107, rfl, hs3108⟩
            refine ⟨_, rfl, ?_⟩
            replace hs3108 := Step.lift (U := [(0, 0)]) hs3108 [] rfl rfl
            generalize up C3098_ C3107 w3097.heap.size [(0, 0)] = C3107_ at hs3108
            replace HT3044 := HT3044.thru hs3108 rfl
            replace HO3067 := HO3067.thru hs3108 rfl
            replace HX3076 := HX3076.thru hs3108 rfl
            replace HS := HS.trans hs3108 hc rfl
            (try simp only [Act.put, List.setIfInBounds_toArray, List.set_cons_zero, List.set_cons_succ])
            refine st (.bool t3103) rfl rfl (xr_pick true (.bool t3103) rfl rfl rfl) ?_
            simp only [List.set_cons_zero, List.set_cons_succ]
            refine st (.bool t3103) rfl rfl (xr_move (.bool t3103) rfl rfl) ?_
            simp only [List.set_cons_zero, List.set_cons_succ]
            by_cases c3109 : t3103 = true
            · rw [if_pos c3109] at H
              (try rw [c3109])
              (try simp only [Bool.not_true, Bool.not_false])
              refine on_guard (guard_on 25 true 56 rfl rfl rfl) ?_
              obtain ⟨t3110, A3111, H⟩ := Option.bind_eq_some_iff.mp H
              (try dsimp only at H)
              refine st_call #[] rfl rfl Try.func41 (by kernel_rfl) rfl rfl (by simp only [List.map_toArray, List.map_cons, List.map_nil]; first | done | rfl) ?_
              refine (blazonlaw04_awake.calls k t3110  (fun z_ => pal [(0, 0)] (C3107_ z_)) w3106 (fun _ => pal_lt rfl _) A3111).mono ?_
              rintro _ w3113 ⟨C3114, rfl, hs3115⟩
              refine ⟨_, rfl, ?_⟩
              replace hs3115 := Step.lift (U := [(0, 0)]) hs3115 [] rfl rfl
              generalize up C3107_ C3114 w3106.heap.size [(0, 0)] = C3114_ at hs3115
              replace HT3044 := HT3044.thru hs3115 rfl
              replace HO3067 := HO3067.thru hs3115 rfl
              replace HX3076 := HX3076.thru hs3115 rfl
              replace HS := HS.trans hs3115 hc rfl
              (try simp only [Act.put, List.setIfInBounds_toArray, List.set_cons_zero, List.set_cons_succ])
              refine st (.bool t3110) rfl rfl (xr_pick true (.bool t3110) rfl rfl rfl) ?_
              simp only [List.set_cons_zero, List.set_cons_succ]
              refine st (.bool t3110) rfl rfl (xr_assign (.bool t3110) rfl rfl) ?_
              simp only [List.set_cons_zero, List.set_cons_succ]
              refine wl_end ?_
              (try simp only [Act.put, List.setIfInBounds_toArray, List.set_cons_zero, List.set_cons_succ])
              refine hK3092 _ _ ?_
              (try clear hK3092 K3092)
              refine wp_ret ?_
              (try simp only [Exit.inBlock, Exit.then, Exit.noGoto])
              (try simp only [Act.put, List.setIfInBounds_toArray, List.set_cons_zero, List.set_cons_succ])
              obtain rfl := Option.some.inj H
              refine bodyPost_ret (results_tmp rfl _ _ _) rfl ?_
              exact ⟨_, rfl, HS⟩
            · rw [if_neg c3109] at H
              (try rw [(Bool.eq_false_iff.mpr c3109)])
              (try simp only [Bool.not_true, Bool.not_false])
              refine sk_guard (guard_off 25 true 56 rfl rfl false (by decide) rfl) rfl ?_
              simp only [List.set_cons_zero, List.set_cons_succ]
              refine st (.bool false) rfl rfl (xr_pick false (.bool false) rfl rfl rfl) ?_
              simp only [List.set_cons_zero, List.set_cons_succ]
              refine st (.bool false) rfl rfl (xr_assign (.bool false) rfl rfl) ?_
              simp only [List.set_cons_zero, List.set_cons_succ]
              refine wl_end ?_
              (try simp only [Act.put, List.setIfInBounds_toArray, List.set_cons_zero, List.set_cons_succ])
              refine hK3092 _ _ ?_
              (try clear hK3092 K3092)
              refine wp_ret ?_
              (try simp only [Exit.inBlock, Exit.then, Exit.noGoto])
              (try simp only [Act.put, List.setIfInBounds_toArray, List.set_cons_zero, List.set_cons_succ])
              obtain rfl := Option.some.inj H
              refine bodyPost_ret (results_tmp rfl _ _ _) rfl ?_
              exact ⟨_, rfl, HS⟩
          · rw [if_neg c3102] at H
            (try rw [(decide_eq_false c3102)])
            (try simp only [Bool.not_true, Bool.not_false])
            refine sk_guard (guard_off 20 true 51 rfl rfl false (by decide) rfl) rfl ?_
            simp only [List.set_cons_zero, List.set_cons_succ]
            refine sk_guard (guard_off 20 true 51 rfl rfl false (by decide) rfl) rfl ?_
            simp only [List.set_cons_zero, List.set_cons_succ]
            refine sk_guard (guard_off 20 true 51 rfl rfl false (by decide) rfl) rfl ?_
            simp only [List.set_cons_zero, List.set_cons_succ]
            refine st (.bool false) rfl rfl (xr_pick false (.bool false) rfl rfl rfl) ?_
            simp only [List.set_cons_zero, List.set_cons_succ]
            refine st (.bool false) rfl rfl (xr_move (.bool false) rfl rfl) ?_
            simp only [List.set_cons_zero, List.set_cons_succ]
            refine sk_guard (guard_off 25 true 56 rfl rfl false (by decide) rfl) rfl ?_
            simp only [List.set_cons_zero, List.set_cons_succ]
            refine st (.bool false) rfl rfl (xr_pick false (.bool false) rfl rfl rfl) ?_
            simp only [List.set_cons_zero, List.set_cons_succ]
            refine st (.bool false) rfl rfl (xr_assign (.bool false) rfl rfl) ?_
            simp only [List.set_cons_zero, List.set_cons_succ]
            refine wl_end ?_
            (try simp only [Act.put, List.setIfInBounds_toArray, List.set_cons_zero, List.set_cons_succ])
            refine hK3092 _ _ ?_
            (try clear hK3092 K3092)
            refine wp_ret ?_
            (try simp only [Exit.inBlock, Exit.then, Exit.noGoto])
            (try simp only [Act.put, List.setIfInBounds_toArray, List.set_cons_zero, List.set_cons_succ])
            obtain rfl := Option.some.inj H
            refine bodyPost_ret (results_tmp rfl _ _ _) rfl ?_
            exact ⟨_, rfl, HS⟩
        · rw [if_neg c3101] at H
          (try rw [(decide_eq_false c3101)])
          (try simp only [Bool.not_true, Bool.not_false])
          refine sk_guard (guard_off 15 true 46 rfl rfl false (by decide) rfl) rfl ?_
          simp only [List.set_cons_zero, List.set_cons_succ]
          refine sk_guard (guard_off 15 true 46 rfl rfl false (by decide) rfl) rfl ?_
          simp only [List.set_cons_zero, List.set_cons_succ]
          refine sk_guard (guard_off 15 true 46 rfl rfl false (by decide) rfl) rfl ?_
          simp only [List.set_cons_zero, List.set_cons_succ]
          refine st (.bool false) rfl rfl (xr_pick false (.bool false) rfl rfl rfl) ?_
          simp only [List.set_cons_zero, List.set_cons_succ]
          refine st (.bool false) rfl rfl (xr_move (.bool false) rfl rfl) ?_
          simp only [List.set_cons_zero, List.set_cons_succ]
          refine sk_guard (guard_off 20 true 51 rfl rfl false (by decide) rfl) rfl ?_
          simp only [List.set_cons_zero, List.set_cons_succ]
          refine sk_guard (guard_off 20 true 51 rfl rfl false (by decide) rfl) rfl ?_
          simp only [List.set_cons_zero, List.set_cons_succ]
          refine sk_guard (guard_off 20 true 51 rfl rfl false (by decide) rfl) rfl ?_
          simp only [List.set_cons_zero, List.set_cons_succ]
          refine st (.bool false) rfl rfl (xr_pick false (.bool false) rfl rfl rfl) ?_
          simp only [List.set_cons_zero, List.set_cons_succ]
          refine st (.bool false) rfl rfl (xr_move (.bool false) rfl rfl) ?_
          simp only [List.set_cons_zero, List.set_cons_succ]
          refine sk_guard (guard_off 25 true 56 rfl rfl false (by decide) rfl) rfl ?_
          simp only [List.set_cons_zero, List.set_cons_succ]
          refine st (.bool false) rfl rfl (xr_pick false (.bool false) rfl rfl rfl) ?_
          simp only [List.set_cons_zero, List.set_cons_succ]
          refine st (.bool false) rfl rfl (xr_assign (.bool false) rfl rfl) ?_
          simp only [List.set_cons_zero, List.set_cons_succ]
          refine wl_end ?_
          (try simp only [Act.put, List.setIfInBounds_toArray, List.set_cons_zero, List.set_cons_succ])
          refine hK3092 _ _ ?_
          (try clear hK3092 K3092)
          refine wp_ret ?_
          (try simp only [Exit.inBlock, Exit.then, Exit.noGoto])
          (try simp only [Act.put, List.setIfInBounds_toArray, List.set_cons_zero, List.set_cons_succ])
          obtain rfl := Option.some.inj H
          refine bodyPost_ret (results_tmp rfl _ _ _) rfl ?_
          exact ⟨_, rfl, HS⟩
      · rw [if_neg c3100] at H
        (try rw [(Bool.eq_false_iff.mpr c3100)])
        (try simp only [Bool.not_true, Bool.not_false])
        refine sk_guard (guard_off 10 true 41 rfl rfl false (by decide) rfl) rfl ?_
        simp only [List.set_cons_zero, List.set_cons_succ]
        refine sk_guard (guard_off 10 true 41 rfl rfl false (by decide) rfl) rfl ?_
        simp only [List.set_cons_zero, List.set_cons_succ]
        refine sk_guard (guard_off 10 true 41 rfl rfl false (by decide) rfl) rfl ?_
        simp only [List.set_cons_zero, List.set_cons_succ]
        refine st (.bool false) rfl rfl (xr_pick false (.bool false) rfl rfl rfl) ?_
        simp only [List.set_cons_zero, List.set_cons_succ]
        refine st (.bool false) rfl rfl (xr_move (.bool false) rfl rfl) ?_
        simp only [List.set_cons_zero, List.set_cons_succ]
        refine sk_guard (guard_off 15 true 46 rfl rfl false (by decide) rfl) rfl ?_
        simp only [List.set_cons_zero, List.set_cons_succ]
        refine sk_guard (guard_off 15 true 46 rfl rfl false (by decide) rfl) rfl ?_
        simp only [List.set_cons_zero, List.set_cons_succ]
        refine sk_guard (guard_off 15 true 46 rfl rfl false (by decide) rfl) rfl ?_
        simp only [List.set_cons_zero, List.set_cons_succ]
        refine st (.bool false) rfl rfl (xr_pick false (.bool false) rfl rfl rfl) ?_
        simp only [List.set_cons_zero, List.set_cons_succ]
        refine st (.bool false) rfl rfl (xr_move (.bool false) rfl rfl) ?_
        simp only [List.set_cons_zero, List.set_cons_succ]
        refine sk_guard (guard_off 20 true 51 rfl rfl false (by decide) rfl) rfl ?_
        simp only [List.set_cons_zero, List.set_cons_succ]
        refine sk_guard (guard_off 20 true 51 rfl rfl false (by decide) rfl) rfl ?_
        simp only [List.set_cons_zero, List.set_cons_succ]
        refine sk_guard (guard_off 20 true 51 rfl rfl false (by decide) rfl) rfl ?_
        simp only [List.set_cons_zero, List.set_cons_succ]
        refine st (.bool false) rfl rfl (xr_pick false (.bool false) rfl rfl rfl) ?_
        simp only [List.set_cons_zero, List.set_cons_succ]
        refine st (.bool false) rfl rfl (xr_move (.bool false) rfl rfl) ?_
        simp only [List.set_cons_zero, List.set_cons_succ]
        refine sk_guard (guard_off 25 true 56 rfl rfl false (by decide) rfl) rfl ?_
        simp only [List.set_cons_zero, List.set_cons_succ]
        refine st (.bool false) rfl rfl (xr_pick false (.bool false) rfl rfl rfl) ?_
        simp only [List.set_cons_zero, List.set_cons_succ]
        refine st (.bool false) rfl rfl (xr_assign (.bool false) rfl rfl) ?_
        simp only [List.set_cons_zero, List.set_cons_succ]
        refine wl_end ?_
        (try simp only [Act.put, List.setIfInBounds_toArray, List.set_cons_zero, List.set_cons_succ])
        refine hK3092 _ _ ?_
        (try clear hK3092 K3092)
        refine wp_ret ?_
        (try simp only [Exit.inBlock, Exit.then, Exit.noGoto])
        (try simp only [Act.put, List.setIfInBounds_toArray, List.set_cons_zero, List.set_cons_succ])
        obtain rfl := Option.some.inj H
        refine bodyPost_ret (results_tmp rfl _ _ _) rfl ?_
        exact ⟨_, rfl, HS⟩
    · rw [if_neg c3093] at H
      (try rw [(decide_eq_false c3093)])
      (try simp only [Bool.not_true, Bool.not_false])
      refine sk_guard (guard_off 4 true 35 rfl rfl false (by decide) rfl) rfl ?_
      simp only [List.set_cons_zero, List.set_cons_succ]
      refine sk_guard (guard_off 4 true 35 rfl rfl false (by decide) rfl) rfl ?_
      simp only [List.set_cons_zero, List.set_cons_succ]
      refine sk_guard (guard_off 4 true 35 rfl rfl false (by decide) rfl) rfl ?_
      simp only [List.set_cons_zero, List.set_cons_succ]
      refine sk_guard (guard_off 4 true 35 rfl rfl false (by decide) rfl) rfl ?_
      simp only [List.set_cons_zero, List.set_cons_succ]
      refine st (.bool false) rfl rfl (xr_pick false (.bool false) rfl rfl rfl) ?_
      simp only [List.set_cons_zero, List.set_cons_succ]
      refine st (.bool false) rfl rfl (xr_move (.bool false) rfl rfl) ?_
      simp only [List.set_cons_zero, List.set_cons_succ]
      refine sk_guard (guard_off 10 true 41 rfl rfl false (by decide) rfl) rfl ?_
      simp only [List.set_cons_zero, List.set_cons_succ]
      refine sk_guard (guard_off 10 true 41 rfl rfl false (by decide) rfl) rfl ?_
      simp only [List.set_cons_zero, List.set_cons_succ]
      refine sk_guard (guard_off 10 true 41 rfl rfl false (by decide) rfl) rfl ?_
      simp only [List.set_cons_zero, List.set_cons_succ]
      refine st (.bool false) rfl rfl (xr_pick false (.bool false) rfl rfl rfl) ?_
      simp only [List.set_cons_zero, List.set_cons_succ]
      refine st (.bool false) rfl rfl (xr_move (.bool false) rfl rfl) ?_
      simp only [List.set_cons_zero, List.set_cons_succ]
      refine sk_guard (guard_off 15 true 46 rfl rfl false (by decide) rfl) rfl ?_
      simp only [List.set_cons_zero, List.set_cons_succ]
      refine sk_guard (guard_off 15 true 46 rfl rfl false (by decide) rfl) rfl ?_
      simp only [List.set_cons_zero, List.set_cons_succ]
      refine sk_guard (guard_off 15 true 46 rfl rfl false (by decide) rfl) rfl ?_
      simp only [List.set_cons_zero, List.set_cons_succ]
      refine st (.bool false) rfl rfl (xr_pick false (.bool false) rfl rfl rfl) ?_
      simp only [List.set_cons_zero, List.set_cons_succ]
      refine st (.bool false) rfl rfl (xr_move (.bool false) rfl rfl) ?_
      simp only [List.set_cons_zero, List.set_cons_succ]
      refine sk_guard (guard_off 20 true 51 rfl rfl false (by decide) rfl) rfl ?_
      simp only [List.set_cons_zero, List.set_cons_succ]
      refine sk_guard (guard_off 20 true 51 rfl rfl false (by decide) rfl) rfl ?_
      simp only [List.set_cons_zero, List.set_cons_succ]
      refine sk_guard (guard_off 20 true 51 rfl rfl false (by decide) rfl) rfl ?_
      simp only [List.set_cons_zero, List.set_cons_succ]
      refine st (.bool false) rfl rfl (xr_pick false (.bool false) rfl rfl rfl) ?_
      simp only [List.set_cons_zero, List.set_cons_succ]
      refine st (.bool false) rfl rfl (xr_move (.bool false) rfl rfl) ?_
      simp only [List.set_cons_zero, List.set_cons_succ]
      refine sk_guard (guard_off 25 true 56 rfl rfl false (by decide) rfl) rfl ?_
      simp only [List.set_cons_zero, List.set_cons_succ]
      refine st (.bool false) rfl rfl (xr_pick false (.bool false) rfl rfl rfl) ?_
      simp only [List.set_cons_zero, List.set_cons_succ]
      refine st (.bool false) rfl rfl (xr_assign (.bool false) rfl rfl) ?_
      simp only [List.set_cons_zero, List.set_cons_succ]
      refine wl_end ?_
      (try simp only [Act.put, List.setIfInBounds_toArray, List.set_cons_zero, List.set_cons_succ])
      refine hK3092 _ _ ?_
      (try clear hK3092 K3092)
      refine wp_ret ?_
      (try simp only [Exit.inBlock, Exit.then, Exit.noGoto])
      (try simp only [Act.put, List.setIfInBounds_toArray, List.set_cons_zero, List.set_cons_succ])
      obtain rfl := Option.some.inj H
      refine bodyPost_ret (results_tmp rfl _ _ _) rfl ?_
      exact ⟨_, rfl, HS⟩
/-- THE ONE PURE STATEMENT of blazonlaw04_RecordGets. -/
def blazonlaw04_RecordGets.Pure : Prop := ∀ (l0 : List Int), l0.length ≤ maxLen → l0.length * 1 ≤ 140737488351232 → (∀ x ∈ l0, (Lit.int .u8 x).wf = true) → ∃ k, blazonlaw04_RecordGets.f k l0 = some true
theorem blazonlaw04_RecordGets.walk (P : blazonlaw04_RecordGets.Pure) (a0 : Option Addr) (len0 cap0 : Nat) (z0 : List Int) (w : World) (w0 : (a0 = none ∧ len0 = 0 ∧ cap0 = 0 ∧ z0 = []) ∨ ∃ x, a0 = some x ∧ len0 ≤ cap0 ∧ cap0 ≤ maxLen ∧ z0.length = cap0 ∧ (∀ i, i < z0.length → w.cell? (x.add i) = some (.int .u8 (z0.getD i 0))) ∧ ∀ n ∈ z0, (Lit.int .u8 n).wf = true) (y0 : len0 * 1 ≤ 140737488351232) :
    Calls Try.prog 13 #[.slice a0 len0 cap0] w fun e w' => e = .returned (.bool true) ∧ Below w.heap.size w w' := by
  obtain ⟨l0, rfl, hr0, hm0, hw0, hc0⟩ := ReadsInt.ofRowC w0
  obtain ⟨k, h⟩ := P l0 hm0 y0 hw0
  refine (blazonlaw04_RecordGets.calls k _ _ l0 true (fun _ => 0) w (fun _ => (by decide : (0 : Nat) < 10)) (Ft.of_C (Kd.heap_int .u8) (Kd.C_of_reads (d := (0 : Int)) (h1 := fun _ => rfl) hr0)) hc0 h).mono ?_
  rintro e w' ⟨c', rfl, hs⟩
  exact ⟨rfl, hs.below (fun _ => by simp)⟩

end Go.Proofs.Ytbpagdgbehefkaa.PRec
