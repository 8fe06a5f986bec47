-- By cprint.py, a program of this work. Lean checks it.
import Derived.Test.YtbpagdgbehefkaaPRecx0
import Derived.Test.YtbpagdgbehefkaaPRecx1
import Derived.Test.YtbpagdgbehefkaaPRecx2
import Derived.Test.YtbpagdgbehefkaaPRecx5
namespace Go.Proofs.Ytbpagdgbehefkaa.PRec
open Go.RowKit Go.Proofs.YtbpagdgbehefkaaW.PrintWords Go.Proofs.YtbpagdgbehefkaaW.PrintLast Go.Proofs.YtbpagdgbehefkaaW.PrintMore
set_option linter.unusedVariables false
set_option linter.unusedSimpArgs false

/-! ### blazonlaw04_RecordRows: function 14 -/
mutual
def blazonlaw04_RecordRows.j0 : Nat → (List (S74)) → (List (S63)) → Int → Int → Bool → Option (Bool)
  | 0, _, _, _, _, _ => none
  | k + 1, l0, t4629, x4790, x5037, x5088 => if x5088 = true then (some false) else (blazonlaw04_RecordRows.l0 k l0 t4629 x4790 (wrap64 (x5037 + 1)))
def blazonlaw04_RecordRows.l0 : Nat → (List (S74)) → (List (S63)) → Int → Int → Option (Bool)
  | 0, _, _, _, _ => none
  | k + 1, l0, t4629, x4790, x5037 => if x5037 < x4790 then (if 0 ≤ x5037 then (if x5037 < (t4629.length : Int) then (if x5037 < (l0.length : Int) then (if ((rd_T63 t4629 x5037).f0) = (wrap64 ((rd_T74 l0 x5037).f0)) then ((blazonref01_Same.f k ((rd_T63 t4629 x5037).f1) ((rd_T74 l0 x5037).f1)).bind fun t5118 => (blazonlaw04_RecordRows.j0 k l0 t4629 x4790 x5037 (!t5118))) else (blazonlaw04_RecordRows.j0 k l0 t4629 x4790 x5037 true)) else (none)) else (none)) else (none)) else ((blazonlaw04_awake.f k).bind fun t5125 => (some t5125))
def blazonlaw04_RecordRows.j1 : Nat → (List (S74)) → (List (S63)) → Int → Bool → Option (Bool)
  | 0, _, _, _, _ => none
  | k + 1, l0, t4629, x4790, x4869 => if x4869 = true then (some false) else (blazonlaw04_RecordRows.l0 k l0 t4629 x4790 0)
def blazonlaw04_RecordRows.j2 : Nat → (List (S74)) → Int → (List (S63)) → Int → (List Int) → Int → Bool → Option (Bool)
  | 0, _, _, _, _, _, _, _ => none
  | k + 1, l0, t4612, t4629, t4630, x4536, x4790, x4814 => if x4814 = true then (blazonlaw04_RecordRows.l1 k l0 t4612 t4629 t4630 x4536 (wrap64 (x4790 + 1))) else (if (t4629.length : Int) = x4790 then (if x4790 > 0 then (if 0 ≤ (wrap64 (x4790 - 1)) then (if (wrap64 (x4790 - 1)) < (x4536.length : Int) then (if t4630 = (rd x4536 (wrap64 (x4790 - 1))) then (if x4790 = 0 then (blazonlaw04_RecordRows.j1 k l0 t4629 x4790 (!decide (t4630 = 0))) else (blazonlaw04_RecordRows.j1 k l0 t4629 x4790 false)) else (blazonlaw04_RecordRows.j1 k l0 t4629 x4790 true)) else (none)) else (none)) else (if x4790 = 0 then (blazonlaw04_RecordRows.j1 k l0 t4629 x4790 (!decide (t4630 = 0))) else (blazonlaw04_RecordRows.j1 k l0 t4629 x4790 false))) else (blazonlaw04_RecordRows.j1 k l0 t4629 x4790 true))
def blazonlaw04_RecordRows.l1 : Nat → (List (S74)) → Int → (List (S63)) → Int → (List Int) → Int → Option (Bool)
  | 0, _, _, _, _, _, _ => none
  | k + 1, l0, t4612, t4629, t4630, x4536, x4790 => if x4790 < (x4536.length : Int) then (if 0 ≤ x4790 then (blazonlaw04_RecordRows.j2 k l0 t4612 t4629 t4630 x4536 x4790 (decide ((rd x4536 x4790) ≤ t4612))) else (none)) else (blazonlaw04_RecordRows.j2 k l0 t4612 t4629 t4630 x4536 x4790 false)
def blazonlaw04_RecordRows.l2 : Nat → Int → (List (S74)) → (Option Int) → (List Int) → (List Int) → Int → Option (Bool)
  | 0, _, _, _, _, _, _ => none
  | k + 1, a1, l0, x4527, x4530, x4536, x4542 => if x4542 < (l0.length : Int) then (if 0 ≤ x4542 then (if ((rd_T74 l0 x4542).f1.length : Int) > 200 then ((blazonlaw04_awake.f k).bind fun t4566 => (some t4566)) else ((record_Put.f x4527 x4530 (wrap64 ((rd_T74 l0 x4542).f0)) ((rd_T74 l0 x4542).f1)).bind fun bt4583 => (if bt4583.2.1 = 0 then (if x4536.length < 17592186044416 then ((some (x4536 ++ [(bt4583.1.length : Int)] : List Int)).bind fun y4601 => (blazonlaw04_RecordRows.l2 k a1 l0 bt4583.2.2 bt4583.1 y4601 (wrap64 (x4542 + 1)))) else (none)) else (some false)))) else (none)) else ((blazonref01_Pick.f a1 (wrap64 ((x4530.length : Int) + 1))).bind fun t4612 => (if 0 ≤ t4612 then (if t4612 ≤ (x4530.length : Int) then ((some (x4530.take (t4612 : Int).toNat : List Int)).bind fun y4621 => ((record_All.f k x4527 y4621).bind fun bt4629 => (blazonlaw04_RecordRows.l1 k l0 t4612 bt4629.1 bt4629.2.1 x4536 0))) else (none)) else (none)))
end
def blazonlaw04_RecordRows.f (k : Nat) (l0 : List (S74)) (a1 : Int) : Option (Bool) := if (l0.length : Int) > 10 then ((blazonlaw04_awake.f k).bind fun t4147 => (some t4147)) else ((crc_New.f).bind fun t4154 => (blazonlaw04_RecordRows.l2 k a1 l0 t4154 ([] : List Int) ([] : List Int) 0))
theorem blazonlaw04_RecordRows.mono_l : ∀ k, (∀ y0 y1 y2 y3 y4, LeO (blazonlaw04_RecordRows.j0 k y0 y1 y2 y3 y4) (blazonlaw04_RecordRows.j0 (k + 1) y0 y1 y2 y3 y4)) ∧ (∀ y0 y1 y2 y3, LeO (blazonlaw04_RecordRows.l0 k y0 y1 y2 y3) (blazonlaw04_RecordRows.l0 (k + 1) y0 y1 y2 y3)) ∧ (∀ y0 y1 y2 y3, LeO (blazonlaw04_RecordRows.j1 k y0 y1 y2 y3) (blazonlaw04_RecordRows.j1 (k + 1) y0 y1 y2 y3)) ∧ (∀ y0 y1 y2 y3 y4 y5 y6, LeO (blazonlaw04_RecordRows.j2 k y0 y1 y2 y3 y4 y5 y6) (blazonlaw04_RecordRows.j2 (k + 1) y0 y1 y2 y3 y4 y5 y6)) ∧ (∀ y0 y1 y2 y3 y4 y5, LeO (blazonlaw04_RecordRows.l1 k y0 y1 y2 y3 y4 y5) (blazonlaw04_RecordRows.l1 (k + 1) y0 y1 y2 y3 y4 y5)) ∧ (∀ y0 y1 y2 y3 y4 y5, LeO (blazonlaw04_RecordRows.l2 k y0 y1 y2 y3 y4 y5) (blazonlaw04_RecordRows.l2 (k + 1) y0 y1 y2 y3 y4 y5))
  | 0 => ⟨fun _ _ _ _ _ r h => by simp [blazonlaw04_RecordRows.j0] at h, fun _ _ _ _ r h => by simp [blazonlaw04_RecordRows.l0] at h, fun _ _ _ _ r h => by simp [blazonlaw04_RecordRows.j1] at h, fun _ _ _ _ _ _ _ r h => by simp [blazonlaw04_RecordRows.j2] at h, fun _ _ _ _ _ _ r h => by simp [blazonlaw04_RecordRows.l1] at h, fun _ _ _ _ _ _ r h => by simp [blazonlaw04_RecordRows.l2] at h⟩
  | k + 1 => by
    obtain ⟨ih0, ih1, ih2, ih3, ih4, ih5⟩ := blazonlaw04_RecordRows.mono_l k
    refine ⟨?_, ?_, ?_, ?_, ?_, ?_⟩
    · intro y0 y1 y2 y3 y4
      unfold blazonlaw04_RecordRows.j0
      repeat' first
      | (with_reducible exact ih0 _ _ _ _ _)
      | (with_reducible exact ih1 _ _ _ _)
      | (with_reducible exact ih2 _ _ _ _)
      | (with_reducible exact ih3 _ _ _ _ _ _ _)
      | (with_reducible exact ih4 _ _ _ _ _ _)
      | (with_reducible exact ih5 _ _ _ _ _ _)
      | (with_reducible exact blazonlaw04_awake.mono _)
      | (with_reducible exact blazonref01_Same.mono _ _ _)
      | (with_reducible exact record_All.mono _ _ _)
      | (with_reducible exact LeO.refl _)
      | (with_reducible exact LeO.none _)
      | (with_reducible refine LeO.ite ?_ ?_)
      | (with_reducible refine LeO.bind ?_ (fun _ => ?_))
      | exact ih0 _ _ _ _ _
      | exact ih1 _ _ _ _
      | exact ih2 _ _ _ _
      | exact ih3 _ _ _ _ _ _ _
      | exact ih4 _ _ _ _ _ _
      | exact ih5 _ _ _ _ _ _
      | exact blazonlaw04_awake.mono _
      | exact blazonref01_Same.mono _ _ _
      | exact record_All.mono _ _ _
      | exact LeO.none _
      | refine LeO.ite ?_ ?_
      | refine LeO.bind ?_ (fun _ => ?_)
    · intro y0 y1 y2 y3
      unfold blazonlaw04_RecordRows.l0
      repeat' first
      | (with_reducible exact ih0 _ _ _ _ _)
      | (with_reducible exact ih1 _ _ _ _)
      | (with_reducible exact ih2 _ _ _ _)
      | (with_reducible exact ih3 _ _ _ _ _ _ _)
      | (with_reducible exact ih4 _ _ _ _ _ _)
      | (with_reducible exact ih5 _ _ _ _ _ _)
      | (with_reducible exact blazonlaw04_awake.mono _)
      | (with_reducible exact blazonref01_Same.mono _ _ _)
      | (with_reducible exact record_All.mono _ _ _)
      | (with_reducible exact LeO.refl _)
      | (with_reducible exact LeO.none _)
      | (with_reducible refine LeO.ite ?_ ?_)
      | (with_reducible refine LeO.bind ?_ (fun _ => ?_))
      | exact ih0 _ _ _ _ _
      | exact ih1 _ _ _ _
      | exact ih2 _ _ _ _
      | exact ih3 _ _ _ _ _ _ _
      | exact ih4 _ _ _ _ _ _
      | exact ih5 _ _ _ _ _ _
      | exact blazonlaw04_awake.mono _
      | exact blazonref01_Same.mono _ _ _
      | exact record_All.mono _ _ _
      | exact LeO.none _
      | refine LeO.ite ?_ ?_
      | refine LeO.bind ?_ (fun _ => ?_)
    · intro y0 y1 y2 y3
      unfold blazonlaw04_RecordRows.j1
      repeat' first
      | (with_reducible exact ih0 _ _ _ _ _)
      | (with_reducible exact ih1 _ _ _ _)
      | (with_reducible exact ih2 _ _ _ _)
      | (with_reducible exact ih3 _ _ _ _ _ _ _)
      | (with_reducible exact ih4 _ _ _ _ _ _)
      | (with_reducible exact ih5 _ _ _ _ _ _)
      | (with_reducible exact blazonlaw04_awake.mono _)
      | (with_reducible exact blazonref01_Same.mono _ _ _)
      | (with_reducible exact record_All.mono _ _ _)
      | (with_reducible exact LeO.refl _)
      | (with_reducible exact LeO.none _)
      | (with_reducible refine LeO.ite ?_ ?_)
      | (with_reducible refine LeO.bind ?_ (fun _ => ?_))
      | exact ih0 _ _ _ _ _
      | exact ih1 _ _ _ _
      | exact ih2 _ _ _ _
      | exact ih3 _ _ _ _ _ _ _
      | exact ih4 _ _ _ _ _ _
      | exact ih5 _ _ _ _ _ _
      | exact blazonlaw04_awake.mono _
      | exact blazonref01_Same.mono _ _ _
      | exact record_All.mono _ _ _
      | exact LeO.none _
      | refine LeO.ite ?_ ?_
      | refine LeO.bind ?_ (fun _ => ?_)
    · intro y0 y1 y2 y3 y4 y5 y6
      unfold blazonlaw04_RecordRows.j2
      repeat' first
      | (with_reducible exact ih0 _ _ _ _ _)
      | (with_reducible exact ih1 _ _ _ _)
      | (with_reducible exact ih2 _ _ _ _)
      | (with_reducible exact ih3 _ _ _ _ _ _ _)
      | (with_reducible exact ih4 _ _ _ _ _ _)
      | (with_reducible exact ih5 _ _ _ _ _ _)
      | (with_reducible exact blazonlaw04_awake.mono _)
      | (with_reducible exact blazonref01_Same.mono _ _ _)
      | (with_reducible exact record_All.mono _ _ _)
      | (with_reducible exact LeO.refl _)
      | (with_reducible exact LeO.none _)
      | (with_reducible refine LeO.ite ?_ ?_)
      | (with_reducible refine LeO.bind ?_ (fun _ => ?_))
      | exact ih0 _ _ _ _ _
      | exact ih1 _ _ _ _
      | exact ih2 _ _ _ _
      | exact ih3 _ _ _ _ _ _ _
      | exact ih4 _ _ _ _ _ _
      | exact ih5 _ _ _ _ _ _
      | exact blazonlaw04_awake.mono _
      | exact blazonref01_Same.mono _ _ _
      | exact record_All.mono _ _ _
      | exact LeO.none _
      | refine LeO.ite ?_ ?_
      | refine LeO.bind ?_ (fun _ => ?_)
    · intro y0 y1 y2 y3 y4 y5
      unfold blazonlaw04_RecordRows.l1
      repeat' first
      | (with_reducible exact ih0 _ _ _ _ _)
      | (with_reducible exact ih1 _ _ _ _)
      | (with_reducible exact ih2 _ _ _ _)
      | (with_reducible exact ih3 _ _ _ _ _ _ _)
      | (with_reducible exact ih4 _ _ _ _ _ _)
      | (with_reducible exact ih5 _ _ _ _ _ _)
      | (with_reducible exact blazonlaw04_awake.mono _)
      | (with_reducible exact blazonref01_Same.mono _ _ _)
      | (with_reducible exact record_All.mono _ _ _)
      | (with_reducible exact LeO.refl _)
      | (with_reducible exact LeO.none _)
      | (with_reducible refine LeO.ite ?_ ?_)
      | (with_reducible refine LeO.bind ?_ (fun _ => ?_))
      | exact ih0 _ _ _ _ _
      | exact ih1 _ _ _ _
      | exact ih2 _ _ _ _
      | exact ih3 _ _ _ _ _ _ _
      | exact ih4 _ _ _ _ _ _
      | exact ih5 _ _ _ _ _ _
      | exact blazonlaw04_awake.mono _
      | exact blazonref01_Same.mono _ _ _
      | exact record_All.mono _ _ _
      | exact LeO.none _
      | refine LeO.ite ?_ ?_
      | refine LeO.bind ?_ (fun _ => ?_)
    · intro y0 y1 y2 y3 y4 y5
      unfold blazonlaw04_RecordRows.l2
      repeat' first
      | (with_reducible exact ih0 _ _ _ _ _)
      | (with_reducible exact ih1 _ _ _ _)
      | (with_reducible exact ih2 _ _ _ _)
      | (with_reducible exact ih3 _ _ _ _ _ _ _)
      | (with_reducible exact ih4 _ _ _ _ _ _)
      | (with_reducible exact ih5 _ _ _ _ _ _)
      | (with_reducible exact blazonlaw04_awake.mono _)
      | (with_reducible exact blazonref01_Same.mono _ _ _)
      | (with_reducible exact record_All.mono _ _ _)
      | (with_reducible exact LeO.refl _)
      | (with_reducible exact LeO.none _)
      | (with_reducible refine LeO.ite ?_ ?_)
      | (with_reducible refine LeO.bind ?_ (fun _ => ?_))
      | exact ih0 _ _ _ _ _
      | exact ih1 _ _ _ _
      | exact ih2 _ _ _ _
      | exact ih3 _ _ _ _ _ _ _
      | exact ih4 _ _ _ _ _ _
      | exact ih5 _ _ _ _ _ _
      | exact blazonlaw04_awake.mono _
      | exact blazonref01_Same.mono _ _ _
      | exact record_All.mono _ _ _
      | exact LeO.none _
      | refine LeO.ite ?_ ?_
      | refine LeO.bind ?_ (fun _ => ?_)
theorem blazonlaw04_RecordRows.mono : ∀ a0 a1 k, LeO (blazonlaw04_RecordRows.f k a0 a1) (blazonlaw04_RecordRows.f (k + 1) a0 a1) := by
  intro a0 a1 k
  obtain ⟨ih0, ih1, ih2, ih3, ih4, ih5⟩ := blazonlaw04_RecordRows.mono_l k
  unfold blazonlaw04_RecordRows.f
  repeat' first
      | (with_reducible exact ih0 _ _ _ _ _)
      | (with_reducible exact ih1 _ _ _ _)
      | (with_reducible exact ih2 _ _ _ _)
      | (with_reducible exact ih3 _ _ _ _ _ _ _)
      | (with_reducible exact ih4 _ _ _ _ _ _)
      | (with_reducible exact ih5 _ _ _ _ _ _)
      | (with_reducible exact blazonlaw04_awake.mono _)
      | (with_reducible exact blazonref01_Same.mono _ _ _)
      | (with_reducible exact record_All.mono _ _ _)
      | (with_reducible exact LeO.refl _)
      | (with_reducible exact LeO.none _)
      | (with_reducible refine LeO.ite ?_ ?_)
      | (with_reducible refine LeO.bind ?_ (fun _ => ?_))
      | exact ih0 _ _ _ _ _
      | exact ih1 _ _ _ _
      | exact ih2 _ _ _ _
      | exact ih3 _ _ _ _ _ _ _
      | exact ih4 _ _ _ _ _ _
      | exact ih5 _ _ _ _ _ _
      | exact blazonlaw04_awake.mono _
      | exact blazonref01_Same.mono _ _ _
      | exact record_All.mono _ _ _
      | exact LeO.none _
      | refine LeO.ite ?_ ?_
      | refine LeO.bind ?_ (fun _ => ?_)
set_option maxHeartbeats 2000000 in
set_option maxRecDepth 100000 in
theorem blazonlaw04_RecordRows.calls (k : Nat) (A0 : Option Addr) (c0 : Nat) (l0 : List (S74)) (a1 : Int) (r : Bool) (c : Nat → Nat) (w : World) (hc : ∀ k, c k < 10) (HP0 : Ft c [0] w (fun w_ => k74.C w_ A0 l0.length l0)) (HCP0 : l0.length ≤ c0) (H : blazonlaw04_RecordRows.f k l0 a1 = some r) :
    Calls Try.prog 14 #[.slice A0 l0.length c0, .int .i64 a1] w fun e w' => ∃ (c' : Nat → Nat) , e = .returned (.bool r) ∧ Step c w c' w' [] := by
  unfold blazonlaw04_RecordRows.f at H
  have HS := Step.refl c w []
  go_enter Try.func14, Try.ntmps14
  refine wp_seq_k fun K4142 hK4142 => ?_
  refine wl_region ?_
  refine st (.bool false) rfl rfl (xr_assign (.bool false) rfl rfl) ?_
  simp only [List.set_cons_zero, List.set_cons_succ]
  refine wl_end ?_
  (try simp only [Act.put, List.setIfInBounds_toArray, List.set_cons_zero, List.set_cons_succ])
  refine hK4142 _ _ ?_
  (try clear hK4142 K4142)
  refine wp_seq_k fun K4143 hK4143 => ?_
  refine wp_seq_k fun K4144 hK4144 => ?_
  refine wl_region ?_
  refine st (.slice A0 l0.length c0) rfl rfl (xr_move (.slice A0 l0.length c0) rfl rfl) ?_
  simp only [List.set_cons_zero, List.set_cons_succ]
  refine st (.int .i64 (l0.length : Int)) rfl rfl (xr_builtin #[.slice A0 l0.length c0] (.int .i64 (l0.length : Int)) rfl (by simp only [List.map_toArray, List.map_cons, List.map_nil]; first | done | rfl) (by first | rfl | (go_simp; done) | (go_simp; rfl) | (go_simp; exact i64_w _) | (go_simp; exact i32_w _))) ?_
  simp only [List.set_cons_zero, List.set_cons_succ]
  refine st (.bool (decide ((l0.length : Int) > 10))) rfl rfl (xr_bin (.int .i64 (l0.length : Int)) (.int .i64 10) (.bool (decide ((l0.length : Int) > 10))) rfl rfl rfl (B.gtr_i64 (l0.length : Int) 10)) ?_
  simp only [List.set_cons_zero, List.set_cons_succ]
  refine wl_end ?_
  (try simp only [Act.put, List.setIfInBounds_toArray, List.set_cons_zero, List.set_cons_succ])
  refine hK4144 _ _ ?_
  (try clear hK4144 K4144)
  by_cases c4145 : (l0.length : Int) > 10
  · rw [if_pos c4145] at H
    (try rw [(decide_eq_true c4145)])
    (try simp only [Bool.not_true, Bool.not_false])
    refine wp_cond_true rfl ?_
    refine wp_seq_k fun K4146 hK4146 => ?_
    refine wl_region ?_
    obtain ⟨t4147, A4148, H⟩ := Option.bind_eq_some_iff.mp H
    (try dsimp only at H)
    refine st_call #[] rfl rfl Try.func41 (by kernel_rfl) rfl rfl (by simp only [List.map_toArray, List.map_cons, List.map_nil]; first | done | rfl) ?_
    refine (blazonlaw04_awake.calls k t4147  (fun z_ => pal [(0, 0)] (c z_)) w (fun _ => pal_lt rfl _) A4148).mono ?_
    rintro _ w4150 ⟨C4151, rfl, hs4152⟩
    refine ⟨_, rfl, ?_⟩
    replace hs4152 := Step.lift (U := [(0, 0)]) hs4152 [] rfl rfl
    generalize up c C4151 w.heap.size [(0, 0)] = C4151_ at hs4152
    replace HS := HS.trans hs4152 hc rfl
    (try simp only [Act.put, List.setIfInBounds_toArray, List.set_cons_zero, List.set_cons_succ])
    refine st (.bool t4147) rfl rfl (xr_assign (.bool t4147) rfl rfl) ?_
    simp only [List.set_cons_zero, List.set_cons_succ]
    refine wl_end ?_
    (try simp only [Act.put, List.setIfInBounds_toArray, List.set_cons_zero, List.set_cons_succ])
    refine hK4146 _ _ ?_
    (try clear hK4146 K4146)
    refine wp_ret ?_
    (try simp only [Exit.inBlock, Exit.then, Exit.noGoto])
    (try simp only [Act.put, List.setIfInBounds_toArray, List.set_cons_zero, List.set_cons_succ])
    obtain rfl := Option.some.inj H
    refine bodyPost_ret (results_tmp rfl _ _ _) rfl ?_
    exact ⟨_, rfl, HS⟩
  · rw [if_neg c4145] at H
    (try rw [(decide_eq_false c4145)])
    (try simp only [Bool.not_true, Bool.not_false])
    refine wp_cond_false rfl ?_
    refine wp_skip ?_
    (try simp only [Act.put, List.setIfInBounds_toArray, List.set_cons_zero, List.set_cons_succ])
    refine hK4143 _ _ ?_
    (try clear hK4143 K4143)
    refine wp_seq_k fun K4153 hK4153 => ?_
    refine wl_region ?_
    obtain ⟨t4154, A4155, H⟩ := Option.bind_eq_some_iff.mp H
    (try dsimp only at H)
    refine st_call #[] rfl rfl Try.func34 (by kernel_rfl) rfl rfl (by simp only [List.map_toArray, List.map_cons, List.map_nil]; first | done | rfl) ?_
    refine (crc_New.calls t4154  (fun z_ => pal [(0, 0)] (c z_)) w (fun _ => pal_lt rfl _) A4155).mono ?_
    rintro _ w4157 ⟨C4158, v4160, rfl, hs4159, HB4161⟩
    refine ⟨_, rfl, ?_⟩
    replace HB4161 := Ft.res (U := [(0, 0), (5, 11)]) HB4161 hs4159 [11] rfl rfl rfl
    replace hs4159 := Step.lift (U := [(0, 0), (5, 11)]) hs4159 [] rfl rfl
    generalize up c C4158 w.heap.size [(0, 0), (5, 11)] = C4158_ at HB4161 hs4159
    replace HP0 := HP0.thru hs4159 rfl
    replace HS := HS.trans hs4159 hc rfl
    (try simp only [Act.put, List.setIfInBounds_toArray, List.set_cons_zero, List.set_cons_succ])
    refine st (v4160) rfl rfl (xr_assign (v4160) rfl rfl) ?_
    simp only [List.set_cons_zero, List.set_cons_succ]
    refine wl_end ?_
    (try simp only [Act.put, List.setIfInBounds_toArray, List.set_cons_zero, List.set_cons_succ])
    refine hK4153 _ _ ?_
    (try clear hK4153 K4153)
    refine wp_seq_k fun K4162 hK4162 => ?_
    refine wl_region ?_
    refine st (.slice none 0 0) rfl rfl (xr_assign (.slice none 0 0) rfl rfl) ?_
    simp only [List.set_cons_zero, List.set_cons_succ]
    refine wl_end ?_
    (try simp only [Act.put, List.setIfInBounds_toArray, List.set_cons_zero, List.set_cons_succ])
    refine hK4162 _ _ ?_
    (try clear hK4162 K4162)
    refine wp_seq_k fun K4163 hK4163 => ?_
    refine wl_region ?_
    refine st (.slice none 0 0) rfl rfl (xr_assign (.slice none 0 0) rfl rfl) ?_
    simp only [List.set_cons_zero, List.set_cons_succ]
    refine wl_end ?_
    (try simp only [Act.put, List.setIfInBounds_toArray, List.set_cons_zero, List.set_cons_succ])
    refine hK4163 _ _ ?_
    (try clear hK4163 K4163)
    refine wp_seq_k fun K4164 hK4164 => ?_
    refine wp_seq_k fun K4388 hK4388 => ?_
    refine wl_region ?_
    refine st (.int .i64 0) rfl rfl (xr_assign (.int .i64 0) rfl rfl) ?_
    simp only [List.set_cons_zero, List.set_cons_succ]
    refine wl_end ?_
    (try simp only [Act.put, List.setIfInBounds_toArray, List.set_cons_zero, List.set_cons_succ])
    refine hK4388 _ _ ?_
    (try clear hK4388 K4388)
    refine wp_block ?_
    (try simp only [Act.put, List.setIfInBounds_toArray, List.set_cons_zero, List.set_cons_succ])
    refine wp_looped (looped_ind (fun kq4546 a_ w4545 => ∃ (C4544 : Nat → Nat) (x4542 : Int) (v4528 : Value) (x4527 : Option Int) (A4531 : Option Addr) (n4532 cp4533 : Nat) (x4530 : List Int) (A4537 : Option Addr) (n4538 cp4539 : Nat) (x4536 : List Int) (g4543 : Nat → Value), a_ = ⟨#[.slice A0 l0.length c0, .int .i64 a1, (g4543 2), (g4543 3), (g4543 4), v4528, .slice A4531 n4532 cp4533, .slice A4537 n4538 cp4539, .int .i64 x4542, (g4543 9), (g4543 10), (g4543 11), (g4543 12), (g4543 13), (g4543 14), (g4543 15), (g4543 16), (g4543 17), (g4543 18), (g4543 19), (g4543 20), (g4543 21), (g4543 22), (g4543 23), (g4543 24), (g4543 25), (g4543 26), (g4543 27), (g4543 28), (g4543 29), (g4543 30), (g4543 31), (g4543 32), (g4543 33), (g4543 34), (g4543 35), (g4543 36), (g4543 37), (g4543 38), (g4543 39), (g4543 40), (g4543 41), (g4543 42), (g4543 43), (g4543 44), (g4543 45), (g4543 46), (g4543 47), (g4543 48), (g4543 49), (g4543 50), (g4543 51), (g4543 52), (g4543 53), (g4543 54), (g4543 55), (g4543 56), (g4543 57), (g4543 58), (g4543 59), (g4543 60), (g4543 61), (g4543 62), (g4543 63), (g4543 64), (g4543 65), (g4543 66), (g4543 67), (g4543 68), (g4543 69), (g4543 70), (g4543 71), (g4543 72), (g4543 73), (g4543 74), (g4543 75), (g4543 76), (g4543 77), (g4543 78), (g4543 79), (g4543 80), (g4543 81), (g4543 82), (g4543 83), (g4543 84), (g4543 85), (g4543 86), (g4543 87), (g4543 88), (g4543 89), (g4543 90), (g4543 91), (g4543 92), (g4543 93), (g4543 94), (g4543 95), (g4543 96), (g4543 97), (g4543 98), (g4543 99), (g4543 100), (g4543 101), (g4543 102), (g4543 103), (g4543 104), (g4543 105), (g4543 106), (g4543 107), (g4543 108), (g4543 109), (g4543 110), (g4543 111), (g4543 112), (g4543 113), (g4543 114), (g4543 115), (g4543 116), (g4543 117), (g4543 118), (g4543 119), (g4543 120), (g4543 121), (g4543 122), (g4543 123), (g4543 124), (g4543 125), (g4543 126), (g4543 127), (g4543 128), (g4543 129), (g4543 130), (g4543 131), (g4543 132), (g4543 133), (g4543 134), (g4543 135), (g4543 136), (g4543 137), (g4543 138), (g4543 139), (g4543 140), (g4543 141), (g4543 142), (g4543 143), (g4543 144)], []⟩ ∧ Step c w C4544 w4545 [] ∧ kq4546 ≤ k ∧ (Ft C4544 [0] w4545 (fun w_ => k74.C w_ A0 l0.length l0)) ∧ (Ft C4544 [12] w4545 (fun w_ => Crc.SumO w_ v4528 x4527)) ∧ (Ft C4544 [0] w4545 (fun w_ => (Kd.int .u8).C w_ A4531 n4532 x4530)) ∧ (n4532 ≤ cp4533) ∧ (Own C4544 13 w4545 (Kd.int .i64) 3 (.slice A4537 n4538 cp4539) x4536) ∧ (n4538 ≤ cp4539) ∧ blazonlaw04_RecordRows.l2 kq4546 a1 l0 x4527 x4530 x4536 x4542 = some r) ?step k _ _ ?init)
    case init =>
      replace HP0 := Ft.recol (a := 11) (b := 12) HP0 (.inl rfl)
      replace HB4161 := Ft.recolor (a := 11) (b := 12) HB4161 [12] rfl
      replace HS := Step.recol (a := 11) (b := 12) HS hc (by decide)
      exact ⟨_, 0, v4160, t4154, none, 0, 0, ([] : List Int), none, 0, 0, ([] : List Int), (fun q_ => List.getD [undef, undef, undef, undef, .bool false, undef, undef, undef, undef, undef, undef, undef, undef, undef, undef, undef, .slice A0 l0.length c0, .int .i64 (l0.length : Int), .bool false, undef, v4160, undef, undef, undef, undef, undef, undef, undef, undef, undef, undef, undef, undef, undef, undef, undef, undef, undef, undef, undef, undef, undef, undef, undef, undef, undef, undef, undef, undef, undef, undef, undef, undef, undef, undef, undef, undef, undef, undef, undef, undef, undef, undef, undef, undef, undef, undef, undef, undef, undef, undef, undef, undef, undef, undef, undef, undef, undef, undef, undef, undef, undef, undef, undef, undef, undef, undef, undef, undef, undef, undef, undef, undef, undef, undef, undef, undef, undef, undef, undef, undef, undef, undef, undef, undef, undef, undef, undef, undef, undef, undef, undef, undef, undef, undef, undef, undef, undef, undef, undef, undef, undef, undef, undef, undef, undef, undef, undef, undef, undef, undef, undef, undef, undef, undef, undef, undef, undef, undef, undef, undef, undef, undef, undef, undef] q_ undef), rfl, HS, Nat.le_refl _, HP0, HB4161, (Kd.F_nil _ _ _), (Nat.le_refl 0), (Own.nil _ _ _ _ _), (Nat.le_refl 0), H⟩
    case step =>
      intro kq4546 ih4549 a4550 w4545 hr4551
      obtain ⟨C4544, x4542, v4528, x4527, A4531, n4532, cp4533, x4530, A4537, n4538, cp4539, x4536, g4543, rfl, HS4547, hk4548, HJ4526, HJ4529, HJ4535, HC4534, HJ4541, HC4540, H⟩ := hr4551
      refine looped_round ?_
      obtain rfl : n4532 = x4530.length := (Ft.now HJ4535).1.symm
      obtain rfl : n4538 = x4536.length := HJ4541.at_.1
      cases kq4546 with
      | zero => exact absurd H (by simp [blazonlaw04_RecordRows.l2])
      | succ k4552 =>
        simp only [blazonlaw04_RecordRows.l2] at H
        refine wp_seq_k fun K4553 hK4553 => ?_
        refine wp_seq_k fun K4554 hK4554 => ?_
        refine wl_region ?_
        refine st (.int .i64 x4542) rfl rfl (xr_move (.int .i64 x4542) rfl rfl) ?_
        simp only [List.set_cons_zero, List.set_cons_succ]
        refine st (.slice A0 l0.length c0) rfl rfl (xr_move (.slice A0 l0.length c0) rfl rfl) ?_
        simp only [List.set_cons_zero, List.set_cons_succ]
        refine st (.int .i64 (l0.length : Int)) rfl rfl (xr_builtin #[.slice A0 l0.length c0] (.int .i64 (l0.length : Int)) rfl (by simp only [List.map_toArray, List.map_cons, List.map_nil]; first | done | rfl) (by first | rfl | (go_simp; done) | (go_simp; rfl) | (go_simp; exact i64_w _) | (go_simp; exact i32_w _))) ?_
        simp only [List.set_cons_zero, List.set_cons_succ]
        refine st (.bool (decide (x4542 < (l0.length : Int)))) rfl rfl (xr_bin (.int .i64 x4542) (.int .i64 (l0.length : Int)) (.bool (decide (x4542 < (l0.length : Int)))) rfl rfl rfl (B.lss_i64 x4542 (l0.length : Int))) ?_
        simp only [List.set_cons_zero, List.set_cons_succ]
        refine wl_end ?_
        (try simp only [Act.put, List.setIfInBounds_toArray, List.set_cons_zero, List.set_cons_succ])
        refine hK4554 _ _ ?_
        (try clear hK4554 K4554)
        by_cases c4555 : x4542 < (l0.length : Int)
        · rw [if_pos c4555] at H
          (try rw [(decide_eq_true c4555)])
          (try simp only [Bool.not_true, Bool.not_false])
          refine wp_cond_true rfl ?_
          refine wp_skip ?_
          (try simp only [Act.put, List.setIfInBounds_toArray, List.set_cons_zero, List.set_cons_succ])
          refine hK4553 _ _ ?_
          (try clear hK4553 K4553)
          refine wp_seq_k fun K4556 hK4556 => ?_
          refine wp_block ?_
          refine wp_seq_k fun K4557 hK4557 => ?_
          refine wp_seq_k fun K4558 hK4558 => ?_
          refine wl_region ?_
          refine st (.slice A0 l0.length c0) rfl rfl (xr_move (.slice A0 l0.length c0) rfl rfl) ?_
          simp only [List.set_cons_zero, List.set_cons_succ]
          refine st (.int .i64 x4542) rfl rfl (xr_move (.int .i64 x4542) rfl rfl) ?_
          simp only [List.set_cons_zero, List.set_cons_succ]
          by_cases c4559 : 0 ≤ x4542
          · rw [if_pos c4559] at H
            obtain ⟨ad4560, hA4561⟩ := c_addr (Ft.now HJ4526) (pos_of (j := x4542) (by first | assumption | decide) (by first | assumption | omega))
            refine st (.pointer (some (ad4560.add ((x4542 : Int).toNat * 2)))) rfl rfl (xr_indexAddr (.slice A0 l0.length c0) (.int .i64 x4542) (.pointer (some (ad4560.add ((x4542 : Int).toNat * 2)))) rfl rfl rfl (index_at Try.underlying71 info74 hA4561 (by first | assumption | decide | omega) (by first | assumption | decide | omega))) ?_
            simp only [List.set_cons_zero, List.set_cons_succ]
            refine st (.pointer (some ((ad4560.add ((x4542 : Int).toNat * 2)).add 1))) rfl rfl (xr_fieldAddr (.pointer (some (ad4560.add ((x4542 : Int).toNat * 2)))) (.pointer (some ((ad4560.add ((x4542 : Int).toNat * 2)).add 1))) rfl rfl (field_at2 Try.underlying74 rfl rfl (by kernel_rfl))) ?_
            simp only [List.set_cons_zero, List.set_cons_succ]
            obtain ⟨csq4563, _, hKq4563, hcq4563, hinq4563⟩ := Ft.elem HJ4526 hA4561 z74 x4542 (by first | assumption | decide | omega) (by first | assumption | decide | omega) (by decide)
            obtain ⟨Aq4563_1, cpq4563_1, rfl, HCq4563_1, HRq4563_1⟩ := k74_openF hKq4563
            replace HRq4563_1 : Ft C4544 [0] w4545 (fun w_ => (Kd.int .u8).C w_ Aq4563_1 (rd_T74 l0 x4542).f1.length (rd_T74 l0 x4542).f1) := HRq4563_1
            refine st (.slice Aq4563_1 (rd_T74 l0 x4542).f1.length cpq4563_1) rfl rfl (xr_load (.pointer (some ((ad4560.add ((x4542 : Int).toNat * 2)).add 1))) (.slice Aq4563_1 (rd_T74 l0 x4542).f1.length cpq4563_1) rfl rfl (load_cell Try.underlying23 rfl (hcq4563 1 _ rfl))) ?_
            simp only [List.set_cons_zero, List.set_cons_succ]
            refine st (.int .i64 ((rd_T74 l0 x4542).f1.length : Int)) rfl rfl (xr_builtin #[.slice Aq4563_1 (rd_T74 l0 x4542).f1.length cpq4563_1] (.int .i64 ((rd_T74 l0 x4542).f1.length : Int)) rfl (by simp only [List.map_toArray, List.map_cons, List.map_nil]; first | done | rfl) (by first | rfl | (go_simp; done) | (go_simp; rfl) | (go_simp; exact i64_w _) | (go_simp; exact i32_w _))) ?_
            simp only [List.set_cons_zero, List.set_cons_succ]
            refine st (.bool (decide (((rd_T74 l0 x4542).f1.length : Int) > 200))) rfl rfl (xr_bin (.int .i64 ((rd_T74 l0 x4542).f1.length : Int)) (.int .i64 200) (.bool (decide (((rd_T74 l0 x4542).f1.length : Int) > 200))) rfl rfl rfl (B.gtr_i64 ((rd_T74 l0 x4542).f1.length : Int) 200)) ?_
            simp only [List.set_cons_zero, List.set_cons_succ]
            refine wl_end ?_
            (try simp only [Act.put, List.setIfInBounds_toArray, List.set_cons_zero, List.set_cons_succ])
            refine hK4558 _ _ ?_
            (try clear hK4558 K4558)
            by_cases c4564 : ((rd_T74 l0 x4542).f1.length : Int) > 200
            · rw [if_pos c4564] at H
              (try rw [(decide_eq_true c4564)])
              (try simp only [Bool.not_true, Bool.not_false])
              refine wp_cond_true rfl ?_
              refine wp_seq_k fun K4565 hK4565 => ?_
              refine wl_region ?_
              obtain ⟨t4566, A4567, H⟩ := Option.bind_eq_some_iff.mp H
              (try dsimp only at H)
              refine st_call #[] rfl rfl Try.func41 (by kernel_rfl) rfl rfl (by simp only [List.map_toArray, List.map_cons, List.map_nil]; first | done | rfl) ?_
              refine (blazonlaw04_awake.calls k4552 t4566  (fun z_ => pal [(0, 0)] (C4544 z_)) w4545 (fun _ => pal_lt rfl _) A4567).mono ?_
              rintro _ w4569 ⟨C4570, rfl, hs4571⟩
              refine ⟨_, rfl, ?_⟩
              replace hs4571 := Step.lift (U := [(0, 0)]) hs4571 [] rfl rfl
              generalize up C4544 C4570 w4545.heap.size [(0, 0)] = C4570_ at hs4571
              replace HS4547 := HS4547.trans hs4571 hc rfl
              (try simp only [Act.put, List.setIfInBounds_toArray, List.set_cons_zero, List.set_cons_succ])
              refine st (.bool t4566) rfl rfl (xr_assign (.bool t4566) rfl rfl) ?_
              simp only [List.set_cons_zero, List.set_cons_succ]
              refine wl_end ?_
              (try simp only [Act.put, List.setIfInBounds_toArray, List.set_cons_zero, List.set_cons_succ])
              refine hK4565 _ _ ?_
              (try clear hK4565 K4565)
              refine wp_ret ?_
              (try simp only [Exit.inBlock, Exit.then, Exit.noGoto])
              (try simp only [Act.put, List.setIfInBounds_toArray, List.set_cons_zero, List.set_cons_succ])
              obtain rfl := Option.some.inj H
              refine bodyPost_ret (results_tmp rfl _ _ _) rfl ?_
              exact ⟨_, rfl, HS4547⟩
            · rw [if_neg c4564] at H
              (try rw [(decide_eq_false c4564)])
              (try simp only [Bool.not_true, Bool.not_false])
              refine wp_cond_false rfl ?_
              refine wp_skip ?_
              (try simp only [Act.put, List.setIfInBounds_toArray, List.set_cons_zero, List.set_cons_succ])
              refine hK4557 _ _ ?_
              (try clear hK4557 K4557)
              refine wp_seq_k fun K4572 hK4572 => ?_
              have HQ4573 := Ft.same C4544 [0] w4545
              (try simp only [Act.put, List.setIfInBounds_toArray, List.set_cons_zero, List.set_cons_succ])
              refine al_start #[false, false, false, false, false, false, false, false, false, false, false, false, false, false, false, false, false, false, false, false] rfl rfl rfl (fun w_ => k74.C w_ A0 l0.length l0 ∧ (∀ k_, C4544 k_ ∈ [0] → k_ < (w4545).drew.heap.size → w_.heap[k_]? = (w4545).drew.heap[k_]?)) ⟨(Ft.now (HJ4526).drew), (Ft.now (HQ4573.drew))⟩ ?_
              replace HJ4526 := HJ4526.drew
              replace HJ4529 := HJ4529.drew
              replace HJ4535 := HJ4535.drew
              replace HJ4541 := HJ4541.drew
              replace HRq4563_1 := HRq4563_1.drew
              replace HQ4573 := HQ4573.drew
              replace HS4547 := Step.ofDrew HS4547
              replace HQ4573 := Ft.same C4544 [0] (w4545.drew)
              generalize w4545.drew = w4574 at *
              refine al_pure 0 36 (v4528) #[true, false, false, false, false, false, false, false, false, false, false, false, false, false, false, false, false, false, false, false] rfl rfl (by kernel_rfl) (fun _ _ _ h_ => h_) rfl (fun w_ => xr_move (v4528) rfl rfl) ?_
              simp only [List.set_cons_zero, List.set_cons_succ]
              refine al_pure 1 37 (.slice A4531 x4530.length cp4533) #[true, true, false, false, false, false, false, false, false, false, false, false, false, false, false, false, false, false, false, false] rfl rfl (by kernel_rfl) (fun _ _ _ h_ => h_) rfl (fun w_ => xr_move (.slice A4531 x4530.length cp4533) rfl rfl) ?_
              simp only [List.set_cons_zero, List.set_cons_succ]
              refine al_pure 2 38 (.slice A0 l0.length c0) #[true, true, true, false, false, false, false, false, false, false, false, false, false, false, false, false, false, false, false, false] rfl rfl (by kernel_rfl) (fun _ _ _ h_ => h_) rfl (fun w_ => xr_move (.slice A0 l0.length c0) rfl rfl) ?_
              simp only [List.set_cons_zero, List.set_cons_succ]
              refine al_pure 3 39 (.int .i64 x4542) #[true, true, true, true, false, false, false, false, false, false, false, false, false, false, false, false, false, false, false, false] rfl rfl (by kernel_rfl) (fun _ _ _ h_ => h_) rfl (fun w_ => xr_move (.int .i64 x4542) rfl rfl) ?_
              simp only [List.set_cons_zero, List.set_cons_succ]
              obtain ⟨ad4575, hA4576⟩ := c_addr (Ft.now HJ4526) (pos_of (j := x4542) (by first | assumption | decide) (by first | assumption | omega))
              refine al_pure 4 40 (.pointer (some (ad4575.add ((x4542 : Int).toNat * 2)))) #[true, true, true, true, true, false, false, false, false, false, false, false, false, false, false, false, false, false, false, false] rfl rfl (by kernel_rfl) (fun _ _ _ h_ => h_) rfl (fun w_ => xr_indexAddr (.slice A0 l0.length c0) (.int .i64 x4542) (.pointer (some (ad4575.add ((x4542 : Int).toNat * 2)))) rfl rfl rfl (index_at Try.underlying71 info74 hA4576 (by first | assumption | decide | omega) (by first | assumption | decide | omega))) ?_
              simp only [List.set_cons_zero, List.set_cons_succ]
              refine al_pure 5 41 (.pointer (some ((ad4575.add ((x4542 : Int).toNat * 2)).add 0))) #[true, true, true, true, true, true, false, false, false, false, false, false, false, false, false, false, false, false, false, false] rfl rfl (by kernel_rfl) (fun _ _ _ h_ => h_) rfl (fun w_ => xr_fieldAddr (.pointer (some (ad4575.add ((x4542 : Int).toNat * 2)))) (.pointer (some ((ad4575.add ((x4542 : Int).toNat * 2)).add 0))) rfl rfl (field_at2 Try.underlying74 rfl rfl (by kernel_rfl))) ?_
              simp only [List.set_cons_zero, List.set_cons_succ]
              refine al_pure 8 44 (.slice A0 l0.length c0) #[true, true, true, true, true, true, false, false, true, false, false, false, false, false, false, false, false, false, false, false] rfl rfl (by kernel_rfl) (fun _ _ _ h_ => h_) rfl (fun w_ => xr_move (.slice A0 l0.length c0) rfl rfl) ?_
              simp only [List.set_cons_zero, List.set_cons_succ]
              refine al_pure 9 45 (.int .i64 x4542) #[true, true, true, true, true, true, false, false, true, true, false, false, false, false, false, false, false, false, false, false] rfl rfl (by kernel_rfl) (fun _ _ _ h_ => h_) rfl (fun w_ => xr_move (.int .i64 x4542) rfl rfl) ?_
              simp only [List.set_cons_zero, List.set_cons_succ]
              obtain ⟨ad4577, hA4578⟩ := c_addr (Ft.now HJ4526) (pos_of (j := x4542) (by first | assumption | decide) (by first | assumption | omega))
              refine al_pure 10 46 (.pointer (some (ad4577.add ((x4542 : Int).toNat * 2)))) #[true, true, true, true, true, true, false, false, true, true, true, false, false, false, false, false, false, false, false, false] rfl rfl (by kernel_rfl) (fun _ _ _ h_ => h_) rfl (fun w_ => xr_indexAddr (.slice A0 l0.length c0) (.int .i64 x4542) (.pointer (some (ad4577.add ((x4542 : Int).toNat * 2)))) rfl rfl rfl (index_at Try.underlying71 info74 hA4578 (by first | assumption | decide | omega) (by first | assumption | decide | omega))) ?_
              simp only [List.set_cons_zero, List.set_cons_succ]
              refine al_pure 11 47 (.pointer (some ((ad4577.add ((x4542 : Int).toNat * 2)).add 1))) #[true, true, true, true, true, true, false, false, true, true, true, true, false, false, false, false, false, false, false, false] rfl rfl (by kernel_rfl) (fun _ _ _ h_ => h_) rfl (fun w_ => xr_fieldAddr (.pointer (some (ad4577.add ((x4542 : Int).toNat * 2)))) (.pointer (some ((ad4577.add ((x4542 : Int).toNat * 2)).add 1))) rfl rfl (field_at2 Try.underlying74 rfl rfl (by kernel_rfl))) ?_
              simp only [List.set_cons_zero, List.set_cons_succ]
              obtain ⟨csq4580, _, hKq4580, hcq4580, hinq4580⟩ := Ft.elem HJ4526 hA4576 z74 x4542 (by first | assumption | decide | omega) (by first | assumption | decide | omega) (by decide)
              obtain ⟨Aq4580_1, cpq4580_1, rfl, HCq4580_1, HRq4580_1⟩ := k74_openF hKq4580
              replace HRq4580_1 : Ft C4544 [0] w4574 (fun w_ => (Kd.int .u8).C w_ Aq4580_1 (rd_T74 l0 x4542).f1.length (rd_T74 l0 x4542).f1) := HRq4580_1
              refine al_take 6 42 (.int .u8 ((rd_T74 l0 x4542).f0)) #[true, true, true, true, true, true, true, false, true, true, true, true, false, false, false, false, false, false, false, false] rfl rfl (by kernel_rfl) (fun _ _ _ h_ => h_) rfl (fun w_ hS_ => xr_load (.pointer (some ((ad4575.add ((x4542 : Int).toNat * 2)).add 0))) (.int .u8 ((rd_T74 l0 x4542).f0)) rfl rfl (load_cell Try.underlying5 rfl (by have h_ := (same_cell hS_.2 hinq4580 (add2_block _ _ _) (hcq4580 0 _ rfl)); rw [add_zero_] at h_; exact h_))) ⟨(Ft.now HJ4526), (Ft.now (HQ4573))⟩ ?_
              simp only [List.set_cons_zero, List.set_cons_succ]
              refine al_pure 7 43 (.int .i64 (wrap64 ((rd_T74 l0 x4542).f0))) #[true, true, true, true, true, true, true, true, true, true, true, true, false, false, false, false, false, false, false, false] rfl rfl (by kernel_rfl) (fun _ _ _ h_ => h_) rfl (fun w_ => xr_conv (.int .u8 ((rd_T74 l0 x4542).f0)) (.int .i64 (wrap64 ((rd_T74 l0 x4542).f0))) rfl rfl (by first | rfl | (go_simp; done) | (go_simp; rfl) | (go_simp; exact i64_w _) | (go_simp; exact i32_w _))) ?_
              simp only [List.set_cons_zero, List.set_cons_succ]
              obtain ⟨csq4582, _, hKq4582, hcq4582, hinq4582⟩ := Ft.elem HJ4526 hA4578 z74 x4542 (by first | assumption | decide | omega) (by first | assumption | decide | omega) (by decide)
              obtain ⟨Aq4582_1, cpq4582_1, rfl, HCq4582_1, HRq4582_1⟩ := k74_openF hKq4582
              replace HRq4582_1 : Ft C4544 [0] w4574 (fun w_ => (Kd.int .u8).C w_ Aq4582_1 (rd_T74 l0 x4542).f1.length (rd_T74 l0 x4542).f1) := HRq4582_1
              refine al_take 12 48 (.slice Aq4582_1 (rd_T74 l0 x4542).f1.length cpq4582_1) #[true, true, true, true, true, true, true, true, true, true, true, true, true, false, false, false, false, false, false, false] rfl rfl (by kernel_rfl) (fun _ _ _ h_ => h_) rfl (fun w_ hS_ => xr_load (.pointer (some ((ad4577.add ((x4542 : Int).toNat * 2)).add 1))) (.slice Aq4582_1 (rd_T74 l0 x4542).f1.length cpq4582_1) rfl rfl (load_cell Try.underlying23 rfl (same_cell hS_.2 hinq4582 (add2_block _ _ _) (hcq4582 1 _ rfl)))) ⟨(Ft.now HJ4526), (Ft.now (HQ4573))⟩ ?_
              simp only [List.set_cons_zero, List.set_cons_succ]
              refine al_pure 13 49 (.agg #[.int .i64 (wrap64 ((rd_T74 l0 x4542).f0)), .slice Aq4582_1 (rd_T74 l0 x4542).f1.length cpq4582_1]) #[true, true, true, true, true, true, true, true, true, true, true, true, true, true, false, false, false, false, false, false] rfl rfl (by kernel_rfl) (fun _ _ _ h_ => h_) rfl (fun w_ => xr_build #[(0, .int .i64 (wrap64 ((rd_T74 l0 x4542).f0))), (1, .slice Aq4582_1 (rd_T74 l0 x4542).f1.length cpq4582_1)] (.agg #[.int .i64 (wrap64 ((rd_T74 l0 x4542).f0)), .slice Aq4582_1 (rd_T74 l0 x4542).f1.length cpq4582_1]) rfl (by simp only [List.map_toArray, List.map_cons, List.map_nil]; first | done | rfl) (by first | rfl | (go_simp; done) | (go_simp; rfl) | (go_simp; exact i64_w _) | (go_simp; exact i32_w _))) ?_
              simp only [List.set_cons_zero, List.set_cons_succ]
              obtain ⟨⟨t4583, t4584, t4585⟩, A4586, H⟩ := Option.bind_eq_some_iff.mp H
              (try dsimp only at H)
              refine al_one 14 #[true, true, true, true, true, true, true, true, true, true, true, true, true, true, true, false, false, false, false, false] rfl rfl (by kernel_rfl) (fun K_ hK_ => ?_)
              refine goes_ Try.func42 (by kernel_rfl) rfl #[v4528, .slice A4531 x4530.length cp4533, .agg #[.int .i64 (wrap64 ((rd_T74 l0 x4542).f0)), .slice Aq4582_1 (rd_T74 l0 x4542).f1.length cpq4582_1]] rfl rfl rfl (by rw [map_ev]; simp only [List.map_toArray, List.map_cons, List.map_nil]; first | done | rfl) ?_
              refine (record_Put.calls v4528 x4527 A4531 cp4533 x4530 (wrap64 ((rd_T74 l0 x4542).f0)) Aq4582_1 cpq4582_1 ((rd_T74 l0 x4542).f1) t4583 t4584 t4585  (fun z_ => pal [(0, 0), (12, 1)] (C4544 z_)) w4574 (fun _ => pal_lt rfl _) (Ft.arg HJ4529 rfl) (Ft.arg HJ4535 rfl) HC4534 (Ft.arg HRq4582_1 rfl) HCq4582_1 A4586).mono ?_
              rintro _ w4588 ⟨C4589, A4591, cp4592, rfl, hs4590, HO4593, HC4594, HM4595⟩
              refine ⟨_, rfl, ?_⟩
              replace HO4593 := Ft.res (U := [(0, 0), (1, 12)]) HO4593 hs4590 [0] rfl rfl rfl
              replace HM4595 := Ft.res (U := [(0, 0), (1, 12)]) HM4595 hs4590 [12] rfl rfl rfl
              replace hs4590 := Step.lift (U := [(0, 0), (1, 12)]) hs4590 [12] rfl rfl
              generalize up C4544 C4589 w4574.heap.size [(0, 0), (1, 12)] = C4589_ at HO4593 HM4595 hs4590
              replace HJ4526 := HJ4526.thru hs4590 rfl
              replace HJ4541 := HJ4541.thru hs4590 rfl
              replace HQ4573 := HQ4573.thru hs4590 rfl
              replace HS4547 := HS4547.trans hs4590 hc rfl
              refine hK_ _ _ ⟨(Ft.now HJ4526), (Ft.now (HQ4573))⟩ ?_
              clear hK_ K_
              (try simp only [Act.put, List.setIfInBounds_toArray, List.set_cons_zero, List.set_cons_succ])
              refine al_pure 15 35 (.tuple #[.slice A4591 t4583.length cp4592, .int .i64 t4584]) #[true, true, true, true, true, true, true, true, true, true, true, true, true, true, true, true, false, false, false, false] rfl rfl (by kernel_rfl) (fun _ _ _ h_ => h_) rfl (fun w_ => xr_move (.tuple #[.slice A4591 t4583.length cp4592, .int .i64 t4584]) rfl rfl) ?_
              simp only [List.set_cons_zero, List.set_cons_succ]
              refine al_pure 16 51 (.slice A4591 t4583.length cp4592) #[true, true, true, true, true, true, true, true, true, true, true, true, true, true, true, true, true, false, false, false] rfl rfl (by kernel_rfl) (fun _ _ _ h_ => h_) rfl (fun w_ => xr_extract (.tuple #[.slice A4591 t4583.length cp4592, .int .i64 t4584]) (.slice A4591 t4583.length cp4592) rfl rfl rfl) ?_
              simp only [List.set_cons_zero, List.set_cons_succ]
              refine al_pure 17 52 (.int .i64 t4584) #[true, true, true, true, true, true, true, true, true, true, true, true, true, true, true, true, true, true, false, false] rfl rfl (by kernel_rfl) (fun _ _ _ h_ => h_) rfl (fun w_ => xr_extract (.tuple #[.slice A4591 t4583.length cp4592, .int .i64 t4584]) (.int .i64 t4584) rfl rfl rfl) ?_
              simp only [List.set_cons_zero, List.set_cons_succ]
              refine al_pure 18 9 (.slice A4591 t4583.length cp4592) #[true, true, true, true, true, true, true, true, true, true, true, true, true, true, true, true, true, true, true, false] rfl rfl (by kernel_rfl) (fun _ _ _ h_ => h_) rfl (fun w_ => xr_assign (.slice A4591 t4583.length cp4592) rfl rfl) ?_
              simp only [List.set_cons_zero, List.set_cons_succ]
              refine al_pure 19 10 (.int .i64 t4584) #[true, true, true, true, true, true, true, true, true, true, true, true, true, true, true, true, true, true, true, true] rfl rfl (by kernel_rfl) (fun _ _ _ h_ => h_) rfl (fun w_ => xr_assign (.int .i64 t4584) rfl rfl) ?_
              simp only [List.set_cons_zero, List.set_cons_succ]
              refine al_end (by kernel_rfl) ?_
              (try simp only [Act.put, List.setIfInBounds_toArray, List.set_cons_zero, List.set_cons_succ])
              refine hK4572 _ _ ?_
              (try clear hK4572 K4572)
              refine wp_seq_k fun K4596 hK4596 => ?_
              refine wp_seq_k fun K4597 hK4597 => ?_
              refine wl_region ?_
              refine st (.int .i64 t4584) rfl rfl (xr_move (.int .i64 t4584) rfl rfl) ?_
              simp only [List.set_cons_zero, List.set_cons_succ]
              refine st (.bool (!decide (t4584 = 0))) rfl rfl (xr_bin (.int .i64 t4584) (.int .i64 0) (.bool (!decide (t4584 = 0))) rfl rfl rfl (B.neq_i64 t4584 0)) ?_
              simp only [List.set_cons_zero, List.set_cons_succ]
              refine wl_end ?_
              (try simp only [Act.put, List.setIfInBounds_toArray, List.set_cons_zero, List.set_cons_succ])
              refine hK4597 _ _ ?_
              (try clear hK4597 K4597)
              by_cases c4598 : t4584 = 0
              · rw [if_pos c4598] at H
                (try rw [(decide_eq_true c4598)])
                (try simp only [Bool.not_true, Bool.not_false])
                refine wp_cond_false rfl ?_
                refine wp_skip ?_
                (try simp only [Act.put, List.setIfInBounds_toArray, List.set_cons_zero, List.set_cons_succ])
                refine hK4596 _ _ ?_
                (try clear hK4596 K4596)
                refine wp_seq_k fun K4599 hK4599 => ?_
                refine wl_region ?_
                refine st (.slice A4591 t4583.length cp4592) rfl rfl (xr_move (.slice A4591 t4583.length cp4592) rfl rfl) ?_
                simp only [List.set_cons_zero, List.set_cons_succ]
                refine st (.slice A4591 t4583.length cp4592) rfl rfl (xr_assign (.slice A4591 t4583.length cp4592) rfl rfl) ?_
                simp only [List.set_cons_zero, List.set_cons_succ]
                refine wl_end ?_
                (try simp only [Act.put, List.setIfInBounds_toArray, List.set_cons_zero, List.set_cons_succ])
                refine hK4599 _ _ ?_
                (try clear hK4599 K4599)
                refine wl_region ?_
                refine st (.slice A4537 x4536.length cp4539) rfl rfl (xr_move (.slice A4537 x4536.length cp4539) rfl rfl) ?_
                simp only [List.set_cons_zero, List.set_cons_succ]
                refine st (.slice A4591 t4583.length cp4592) rfl rfl (xr_move (.slice A4591 t4583.length cp4592) rfl rfl) ?_
                simp only [List.set_cons_zero, List.set_cons_succ]
                refine st (.int .i64 (t4583.length : Int)) rfl rfl (xr_builtin #[.slice A4591 t4583.length cp4592] (.int .i64 (t4583.length : Int)) rfl (by simp only [List.map_toArray, List.map_cons, List.map_nil]; first | done | rfl) (by first | rfl | (go_simp; done) | (go_simp; rfl) | (go_simp; exact i64_w _) | (go_simp; exact i32_w _))) ?_
                simp only [List.set_cons_zero, List.set_cons_succ]
                refine ev_run (w1 := w4588.alloc (.cells #[.int .i64 (t4583.length : Int)] 3)) (.slice (some ⟨w4588.heap.size, 0, none⟩) 1 1) rfl rfl (by first | (go_simp; done) | (go_simp; rfl)) ?_
                (try simp only [Act.put, List.setIfInBounds_toArray, List.set_cons_zero, List.set_cons_succ])
                by_cases c4600 : x4536.length < 17592186044416
                · rw [if_pos c4600] at H
                  obtain ⟨y4601, A4602, H⟩ := Option.bind_eq_some_iff.mp H
                  (try dsimp only at H)
                  refine Own.append (Kd.int .i64) (C := C4589_) (i := 13) rfl (.tmp 56) (.tmp 59) 72 3 (.int .i64 0) 8 rfl Try.underlying72 info3 rfl (by decide) (by decide) (.slice A4537 x4536.length cp4539) x4536 (t4583.length : Int) [.int .i64 (t4583.length : Int)] rfl rfl (fk_int .i64 _ _ (t4583.length : Int)) HJ4541 (by decide) (by omega) (Option.some.inj A4602) ?_
                  intro A4603 cp4604 w4605 C4606 HO4607 HC4608 hs4609
                  replace HJ4526 := HJ4526.thru hs4609 rfl
                  replace HM4595 := HM4595.thru hs4609 rfl
                  replace HO4593 := HO4593.thru hs4609 rfl
                  replace HQ4573 := HQ4573.thru hs4609 rfl
                  replace HS4547 := HS4547.trans hs4609 hc rfl
                  (try simp only [Act.put, List.setIfInBounds_toArray, List.set_cons_zero, List.set_cons_succ])
                  refine st (.slice A4603 y4601.length cp4604) rfl rfl (xr_assign (.slice A4603 y4601.length cp4604) rfl rfl) ?_
                  simp only [List.set_cons_zero, List.set_cons_succ]
                  refine wl_end ?_
                  (try simp only [Act.put, List.setIfInBounds_toArray, List.set_cons_zero, List.set_cons_succ])
                  refine hK4556 _ _ ?_
                  (try clear hK4556 K4556)
                  refine wl_region ?_
                  refine st (.int .i64 x4542) rfl rfl (xr_move (.int .i64 x4542) rfl rfl) ?_
                  simp only [List.set_cons_zero, List.set_cons_succ]
                  refine st (.int .i64 (wrap64 (x4542 + 1))) rfl rfl (xr_bin (.int .i64 x4542) (.int .i64 1) (.int .i64 (wrap64 (x4542 + 1))) rfl rfl rfl (B.add_i64 x4542 1)) ?_
                  simp only [List.set_cons_zero, List.set_cons_succ]
                  refine st (.int .i64 (wrap64 (x4542 + 1))) rfl rfl (xr_assign (.int .i64 (wrap64 (x4542 + 1))) rfl rfl) ?_
                  simp only [List.set_cons_zero, List.set_cons_succ]
                  refine wl_end ?_
                  (try simp only [Act.put, List.setIfInBounds_toArray, List.set_cons_zero, List.set_cons_succ])
                  exact ih4549 k4552 (by omega) _ _ ⟨_, wrap64 (x4542 + 1), v4528, t4585, A4591, t4583.length, cp4592, t4583, A4603, y4601.length, cp4604, y4601, (fun q_ => List.getD [undef, undef, (g4543 2), (g4543 3), (g4543 4), undef, undef, undef, undef, .slice A4591 t4583.length cp4592, .int .i64 t4584, (g4543 11), (g4543 12), (g4543 13), (g4543 14), (g4543 15), (g4543 16), (g4543 17), (g4543 18), (g4543 19), (g4543 20), .int .i64 x4542, .slice A0 l0.length c0, .int .i64 (l0.length : Int), .bool true, .int .i64 x4542, .int .i64 (wrap64 (x4542 + 1)), .slice A0 l0.length c0, .int .i64 x4542, .pointer (some (ad4560.add ((x4542 : Int).toNat * 2))), .pointer (some ((ad4560.add ((x4542 : Int).toNat * 2)).add 1)), .slice Aq4563_1 (rd_T74 l0 x4542).f1.length cpq4563_1, .int .i64 ((rd_T74 l0 x4542).f1.length : Int), .bool false, (g4543 34), .tuple #[.slice A4591 t4583.length cp4592, .int .i64 t4584], v4528, .slice A4531 x4530.length cp4533, .slice A0 l0.length c0, .int .i64 x4542, .pointer (some (ad4575.add ((x4542 : Int).toNat * 2))), .pointer (some ((ad4575.add ((x4542 : Int).toNat * 2)).add 0)), .int .u8 ((rd_T74 l0 x4542).f0), .int .i64 (wrap64 ((rd_T74 l0 x4542).f0)), .slice A0 l0.length c0, .int .i64 x4542, .pointer (some (ad4577.add ((x4542 : Int).toNat * 2))), .pointer (some ((ad4577.add ((x4542 : Int).toNat * 2)).add 1)), .slice Aq4582_1 (rd_T74 l0 x4542).f1.length cpq4582_1, .agg #[.int .i64 (wrap64 ((rd_T74 l0 x4542).f0)), .slice Aq4582_1 (rd_T74 l0 x4542).f1.length cpq4582_1], .tuple #[.slice A4591 t4583.length cp4592, .int .i64 t4584], .slice A4591 t4583.length cp4592, .int .i64 t4584, .int .i64 t4584, .bool false, .slice A4591 t4583.length cp4592, .slice A4537 x4536.length cp4539, .slice A4591 t4583.length cp4592, .int .i64 (t4583.length : Int), .slice (some ⟨w4588.heap.size, 0, none⟩) 1 1, .slice A4603 y4601.length cp4604, (g4543 61), (g4543 62), (g4543 63), (g4543 64), (g4543 65), (g4543 66), (g4543 67), (g4543 68), (g4543 69), (g4543 70), (g4543 71), (g4543 72), (g4543 73), (g4543 74), (g4543 75), (g4543 76), (g4543 77), (g4543 78), (g4543 79), (g4543 80), (g4543 81), (g4543 82), (g4543 83), (g4543 84), (g4543 85), (g4543 86), (g4543 87), (g4543 88), (g4543 89), (g4543 90), (g4543 91), (g4543 92), (g4543 93), (g4543 94), (g4543 95), (g4543 96), (g4543 97), (g4543 98), (g4543 99), (g4543 100), (g4543 101), (g4543 102), (g4543 103), (g4543 104), (g4543 105), (g4543 106), (g4543 107), (g4543 108), (g4543 109), (g4543 110), (g4543 111), (g4543 112), (g4543 113), (g4543 114), (g4543 115), (g4543 116), (g4543 117), (g4543 118), (g4543 119), (g4543 120), (g4543 121), (g4543 122), (g4543 123), (g4543 124), (g4543 125), (g4543 126), (g4543 127), (g4543 128), (g4543 129), (g4543 130), (g4543 131), (g4543 132), (g4543 133), (g4543 134), (g4543 135), (g4543 136), (g4543 137), (g4543 138), (g4543 139), (g4543 140), (g4543 141), (g4543 142), (g4543 143), (g4543 144)] q_ undef), rfl, HS4547, (by omega), HJ4526, HM4595, HO4593, HC4594, HO4607, HC4608, H⟩
                · rw [if_neg c4600] at H
                  exact absurd H (by simp)
              · rw [if_neg c4598] at H
                (try rw [(decide_eq_false c4598)])
                (try simp only [Bool.not_true, Bool.not_false])
                refine wp_cond_true rfl ?_
                refine wp_seq_k fun K4610 hK4610 => ?_
                refine wl_region ?_
                refine st (.bool false) rfl rfl (xr_assign (.bool false) rfl rfl) ?_
                simp only [List.set_cons_zero, List.set_cons_succ]
                refine wl_end ?_
                (try simp only [Act.put, List.setIfInBounds_toArray, List.set_cons_zero, List.set_cons_succ])
                refine hK4610 _ _ ?_
                (try clear hK4610 K4610)
                refine wp_ret ?_
                (try simp only [Exit.inBlock, Exit.then, Exit.noGoto])
                (try simp only [Act.put, List.setIfInBounds_toArray, List.set_cons_zero, List.set_cons_succ])
                obtain rfl := Option.some.inj H
                refine bodyPost_ret (results_tmp rfl _ _ _) rfl ?_
                exact ⟨_, rfl, HS4547⟩
          · rw [if_neg c4559] at H
            exact absurd H (by simp)
        · rw [if_neg c4555] at H
          (try rw [(decide_eq_false c4555)])
          (try simp only [Bool.not_true, Bool.not_false])
          refine wp_cond_false rfl ?_
          refine wp_exit ?_
          (try simp only [Act.put, List.setIfInBounds_toArray, List.set_cons_zero, List.set_cons_succ])
          refine hK4164 _ _ ?_
          (try clear hK4164 K4164)
          refine wp_seq_k fun K4611 hK4611 => ?_
          refine wl_region ?_
          refine st (.int .i64 a1) rfl rfl (xr_move (.int .i64 a1) rfl rfl) ?_
          simp only [List.set_cons_zero, List.set_cons_succ]
          refine st (.slice A4531 x4530.length cp4533) rfl rfl (xr_move (.slice A4531 x4530.length cp4533) rfl rfl) ?_
          simp only [List.set_cons_zero, List.set_cons_succ]
          refine st (.int .i64 (x4530.length : Int)) rfl rfl (xr_builtin #[.slice A4531 x4530.length cp4533] (.int .i64 (x4530.length : Int)) rfl (by simp only [List.map_toArray, List.map_cons, List.map_nil]; first | done | rfl) (by first | rfl | (go_simp; done) | (go_simp; rfl) | (go_simp; exact i64_w _) | (go_simp; exact i32_w _))) ?_
          simp only [List.set_cons_zero, List.set_cons_succ]
          refine st (.int .i64 (wrap64 ((x4530.length : Int) + 1))) rfl rfl (xr_bin (.int .i64 (x4530.length : Int)) (.int .i64 1) (.int .i64 (wrap64 ((x4530.length : Int) + 1))) rfl rfl rfl (B.add_i64 (x4530.length : Int) 1)) ?_
          simp only [List.set_cons_zero, List.set_cons_succ]
          obtain ⟨t4612, A4613, H⟩ := Option.bind_eq_some_iff.mp H
          (try dsimp only at H)
          refine st_call #[.int .i64 a1, .int .i64 (wrap64 ((x4530.length : Int) + 1))] rfl rfl Try.func35 (by kernel_rfl) rfl rfl (by simp only [List.map_toArray, List.map_cons, List.map_nil]; first | done | rfl) ?_
          refine (blazonref01_Pick.calls a1 (wrap64 ((x4530.length : Int) + 1)) t4612  (fun z_ => pal [(0, 0)] (C4544 z_)) w4545 (fun _ => pal_lt rfl _) A4613).mono ?_
          rintro _ w4615 ⟨C4616, rfl, hs4617⟩
          refine ⟨_, rfl, ?_⟩
          replace hs4617 := Step.lift (U := [(0, 0)]) hs4617 [] rfl rfl
          generalize up C4544 C4616 w4545.heap.size [(0, 0)] = C4616_ at hs4617
          replace HJ4526 := HJ4526.thru hs4617 rfl
          replace HJ4529 := HJ4529.thru hs4617 rfl
          replace HJ4535 := HJ4535.thru hs4617 rfl
          replace HJ4541 := HJ4541.thru hs4617 rfl
          replace HS4547 := HS4547.trans hs4617 hc rfl
          (try simp only [Act.put, List.setIfInBounds_toArray, List.set_cons_zero, List.set_cons_succ])
          refine st (.int .i64 t4612) rfl rfl (xr_assign (.int .i64 t4612) rfl rfl) ?_
          simp only [List.set_cons_zero, List.set_cons_succ]
          refine wl_end ?_
          (try simp only [Act.put, List.setIfInBounds_toArray, List.set_cons_zero, List.set_cons_succ])
          refine hK4611 _ _ ?_
          (try clear hK4611 K4611)
          refine wp_seq_k fun K4618 hK4618 => ?_
          refine wl_region ?_
          refine st (v4528) rfl rfl (xr_move (v4528) rfl rfl) ?_
          simp only [List.set_cons_zero, List.set_cons_succ]
          refine st (.slice A4531 x4530.length cp4533) rfl rfl (xr_move (.slice A4531 x4530.length cp4533) rfl rfl) ?_
          simp only [List.set_cons_zero, List.set_cons_succ]
          refine st (.int .i64 t4612) rfl rfl (xr_move (.int .i64 t4612) rfl rfl) ?_
          simp only [List.set_cons_zero, List.set_cons_succ]
          by_cases c4619 : 0 ≤ t4612
          · rw [if_pos c4619] at H
            by_cases c4620 : t4612 ≤ (x4530.length : Int)
            · rw [if_pos c4620] at H
              obtain ⟨y4621, A4622, H⟩ := Option.bind_eq_some_iff.mp H
              (try dsimp only at H)
              obtain ⟨iz4628, hiz4628, _, hzz4628, _⟩ := info_parts info5
              obtain ⟨hr4627, HR4625, HC4626⟩ := cutTo (t := 23) (Kd.int .u8) 5 .i64 Try.underlying23 hiz4628 HJ4535 HC4534 (by first | assumption | omega | decide) (by first | assumption | omega | decide) (Option.some.inj A4622)
              refine st (.slice A4531 y4621.length cp4533) rfl rfl (xr_slice (.slice A4531 x4530.length cp4533) none (some (.int .i64 t4612)) none (.slice A4531 y4621.length cp4533) rfl rfl rfl rfl rfl (hr4627 _)) ?_
              simp only [List.set_cons_zero, List.set_cons_succ]
              clear hr4627 hiz4628 hzz4628
              obtain ⟨⟨t4629, t4630, t4631⟩, A4632, H⟩ := Option.bind_eq_some_iff.mp H
              (try dsimp only at H)
              refine st_call #[v4528, .slice A4531 y4621.length cp4533] rfl rfl Try.func46 (by kernel_rfl) rfl rfl (by simp only [List.map_toArray, List.map_cons, List.map_nil]; first | done | rfl) ?_
              refine (record_All.calls k4552 v4528 x4527 A4531 cp4533 y4621 t4629 t4630 t4631  (fun z_ => pal [(0, 0), (12, 1)] (C4616_ z_)) w4615 (fun _ => pal_lt rfl _) (Ft.arg HJ4529 rfl) (Ft.arg HR4625 rfl) HC4626 A4632).mono ?_
              rintro _ w4634 ⟨C4635, A4637, cp4638, rfl, hs4636, HO4639, HC4640, HM4641⟩
              refine ⟨_, rfl, ?_⟩
              replace HO4639 := Own.res (U := [(0, 0), (1, 12), (5, 14)]) (j := 14) HO4639 hs4636 (by rfl) (by decide) rfl rfl
              replace HM4641 := Ft.res (U := [(0, 0), (1, 12), (5, 14)]) HM4641 hs4636 [12] rfl rfl rfl
              replace hs4636 := Step.lift (U := [(0, 0), (1, 12), (5, 14)]) hs4636 [12] rfl rfl
              generalize up C4616_ C4635 w4615.heap.size [(0, 0), (1, 12), (5, 14)] = C4635_ at HO4639 HM4641 hs4636
              replace HJ4526 := HJ4526.thru hs4636 rfl
              replace HJ4541 := HJ4541.thru hs4636 rfl
              replace HS4547 := HS4547.trans hs4636 hc rfl
              (try simp only [Act.put, List.setIfInBounds_toArray, List.set_cons_zero, List.set_cons_succ])
              refine st (.tuple #[.slice A4637 t4629.length cp4638, .int .i64 t4630]) rfl rfl (xr_move (.tuple #[.slice A4637 t4629.length cp4638, .int .i64 t4630]) rfl rfl) ?_
              simp only [List.set_cons_zero, List.set_cons_succ]
              refine st (.slice A4637 t4629.length cp4638) rfl rfl (xr_extract (.tuple #[.slice A4637 t4629.length cp4638, .int .i64 t4630]) (.slice A4637 t4629.length cp4638) rfl rfl rfl) ?_
              simp only [List.set_cons_zero, List.set_cons_succ]
              refine st (.int .i64 t4630) rfl rfl (xr_extract (.tuple #[.slice A4637 t4629.length cp4638, .int .i64 t4630]) (.int .i64 t4630) rfl rfl rfl) ?_
              simp only [List.set_cons_zero, List.set_cons_succ]
              refine st (.slice A4637 t4629.length cp4638) rfl rfl (xr_assign (.slice A4637 t4629.length cp4638) rfl rfl) ?_
              simp only [List.set_cons_zero, List.set_cons_succ]
              refine st (.int .i64 t4630) rfl rfl (xr_assign (.int .i64 t4630) rfl rfl) ?_
              simp only [List.set_cons_zero, List.set_cons_succ]
              refine wl_end ?_
              (try simp only [Act.put, List.setIfInBounds_toArray, List.set_cons_zero, List.set_cons_succ])
              refine hK4618 _ _ ?_
              (try clear hK4618 K4618)
              refine wp_seq_k fun K4642 hK4642 => ?_
              refine wl_region ?_
              refine st (.int .i64 0) rfl rfl (xr_assign (.int .i64 0) rfl rfl) ?_
              simp only [List.set_cons_zero, List.set_cons_succ]
              refine wl_end ?_
              (try simp only [Act.put, List.setIfInBounds_toArray, List.set_cons_zero, List.set_cons_succ])
              refine hK4642 _ _ ?_
              (try clear hK4642 K4642)
              refine wp_seq_k fun K4643 hK4643 => ?_
              refine wp_block ?_
              (try simp only [Act.put, List.setIfInBounds_toArray, List.set_cons_zero, List.set_cons_succ])
              refine wp_looped (looped_ind (fun kq4794 a_ w4793 => ∃ (C4792 : Nat → Nat) (x4790 : Int) (g4791 : Nat → Value), a_ = ⟨#[.slice A0 l0.length c0, (g4791 1), (g4791 2), (g4791 3), (g4791 4), (g4791 5), (g4791 6), .slice A4537 x4536.length cp4539, (g4791 8), (g4791 9), (g4791 10), .int .i64 t4612, .slice A4637 t4629.length cp4638, .int .i64 t4630, .int .i64 x4790, (g4791 15), (g4791 16), (g4791 17), (g4791 18), (g4791 19), (g4791 20), (g4791 21), (g4791 22), (g4791 23), (g4791 24), (g4791 25), (g4791 26), (g4791 27), (g4791 28), (g4791 29), (g4791 30), (g4791 31), (g4791 32), (g4791 33), (g4791 34), (g4791 35), (g4791 36), (g4791 37), (g4791 38), (g4791 39), (g4791 40), (g4791 41), (g4791 42), (g4791 43), (g4791 44), (g4791 45), (g4791 46), (g4791 47), (g4791 48), (g4791 49), (g4791 50), (g4791 51), (g4791 52), (g4791 53), (g4791 54), (g4791 55), (g4791 56), (g4791 57), (g4791 58), (g4791 59), (g4791 60), (g4791 61), (g4791 62), (g4791 63), (g4791 64), (g4791 65), (g4791 66), (g4791 67), (g4791 68), (g4791 69), (g4791 70), (g4791 71), (g4791 72), (g4791 73), (g4791 74), (g4791 75), (g4791 76), (g4791 77), (g4791 78), (g4791 79), (g4791 80), (g4791 81), (g4791 82), (g4791 83), (g4791 84), (g4791 85), (g4791 86), (g4791 87), (g4791 88), (g4791 89), (g4791 90), (g4791 91), (g4791 92), (g4791 93), (g4791 94), (g4791 95), (g4791 96), (g4791 97), (g4791 98), (g4791 99), (g4791 100), (g4791 101), (g4791 102), (g4791 103), (g4791 104), (g4791 105), (g4791 106), (g4791 107), (g4791 108), (g4791 109), (g4791 110), (g4791 111), (g4791 112), (g4791 113), (g4791 114), (g4791 115), (g4791 116), (g4791 117), (g4791 118), (g4791 119), (g4791 120), (g4791 121), (g4791 122), (g4791 123), (g4791 124), (g4791 125), (g4791 126), (g4791 127), (g4791 128), (g4791 129), (g4791 130), (g4791 131), (g4791 132), (g4791 133), (g4791 134), (g4791 135), (g4791 136), (g4791 137), (g4791 138), (g4791 139), (g4791 140), (g4791 141), (g4791 142), (g4791 143), (g4791 144)], []⟩ ∧ Step c w C4792 w4793 [] ∧ kq4794 ≤ k4552 ∧ (Ft C4792 [0] w4793 (fun w_ => k74.C w_ A0 l0.length l0)) ∧ (Own C4792 13 w4793 (Kd.int .i64) 3 (.slice A4537 x4536.length cp4539) x4536) ∧ (Own C4792 14 w4793 k63 63 (.slice A4637 t4629.length cp4638) t4629) ∧ blazonlaw04_RecordRows.l1 kq4794 l0 t4612 t4629 t4630 x4536 x4790 = some r) ?step k4552 _ _ ?init)
              case init =>
                exact ⟨_, 0, (fun q_ => List.getD [undef, .int .i64 a1, (g4543 2), (g4543 3), (g4543 4), v4528, .slice A4531 x4530.length cp4533, undef, .int .i64 x4542, (g4543 9), (g4543 10), undef, undef, undef, undef, (g4543 15), (g4543 16), (g4543 17), (g4543 18), (g4543 19), (g4543 20), .int .i64 x4542, .slice A0 l0.length c0, .int .i64 (l0.length : Int), .bool false, (g4543 25), (g4543 26), (g4543 27), (g4543 28), (g4543 29), (g4543 30), (g4543 31), (g4543 32), (g4543 33), (g4543 34), (g4543 35), (g4543 36), (g4543 37), (g4543 38), (g4543 39), (g4543 40), (g4543 41), (g4543 42), (g4543 43), (g4543 44), (g4543 45), (g4543 46), (g4543 47), (g4543 48), (g4543 49), (g4543 50), (g4543 51), (g4543 52), (g4543 53), (g4543 54), (g4543 55), (g4543 56), (g4543 57), (g4543 58), (g4543 59), (g4543 60), .int .i64 a1, .slice A4531 x4530.length cp4533, .int .i64 (x4530.length : Int), .int .i64 (wrap64 ((x4530.length : Int) + 1)), .int .i64 t4612, .tuple #[.slice A4637 t4629.length cp4638, .int .i64 t4630], v4528, .slice A4531 x4530.length cp4533, .int .i64 t4612, .slice A4531 y4621.length cp4533, .tuple #[.slice A4637 t4629.length cp4638, .int .i64 t4630], .slice A4637 t4629.length cp4638, .int .i64 t4630, (g4543 74), (g4543 75), (g4543 76), (g4543 77), (g4543 78), (g4543 79), (g4543 80), (g4543 81), (g4543 82), (g4543 83), (g4543 84), (g4543 85), (g4543 86), (g4543 87), (g4543 88), (g4543 89), (g4543 90), (g4543 91), (g4543 92), (g4543 93), (g4543 94), (g4543 95), (g4543 96), (g4543 97), (g4543 98), (g4543 99), (g4543 100), (g4543 101), (g4543 102), (g4543 103), (g4543 104), (g4543 105), (g4543 106), (g4543 107), (g4543 108), (g4543 109), (g4543 110), (g4543 111), (g4543 112), (g4543 113), (g4543 114), (g4543 115), (g4543 116), (g4543 117), (g4543 118), (g4543 119), (g4543 120), (g4543 121), (g4543 122), (g4543 123), (g4543 124), (g4543 125), (g4543 126), (g4543 127), (g4543 128), (g4543 129), (g4543 130), (g4543 131), (g4543 132), (g4543 133), (g4543 134), (g4543 135), (g4543 136), (g4543 137), (g4543 138), (g4543 139), (g4543 140), (g4543 141), (g4543 142), (g4543 143), (g4543 144)] q_ undef), rfl, HS4547, Nat.le_refl _, HJ4526, HJ4541, HO4639, H⟩
              case step =>
                intro kq4794 ih4797 a4798 w4793 hr4799
                obtain ⟨C4792, x4790, g4791, rfl, HS4795, hk4796, HJ4787, HJ4788, HJ4789, H⟩ := hr4799
                refine looped_round ?_
                cases kq4794 with
                | zero => exact absurd H (by simp [blazonlaw04_RecordRows.l1])
                | succ k4800 =>
                  simp only [blazonlaw04_RecordRows.l1] at H
                  refine wp_seq_k fun K4801 hK4801 => ?_
                  refine wp_seq_k fun K4802 hK4802 => ?_
                  have hj4807 : ∀ (kq4816 : Nat) (C4808 : Nat → Nat) (w4809 : World) (x4814 : Bool) (g4815 : Nat → Value), Step c w C4808 w4809 [] → kq4816 ≤ k4800 → (Ft C4808 [0] w4809 (fun w_ => k74.C w_ A0 l0.length l0)) → (Own C4808 13 w4809 (Kd.int .i64) 3 (.slice A4537 x4536.length cp4539) x4536) → (Own C4808 14 w4809 k63 63 (.slice A4637 t4629.length cp4638) t4629) → blazonlaw04_RecordRows.j2 kq4816 l0 t4612 t4629 t4630 x4536 x4790 x4814 = some r → K4802 ⟨#[.slice A0 l0.length c0, (g4815 1), (g4815 2), (g4815 3), (g4815 4), (g4815 5), (g4815 6), .slice A4537 x4536.length cp4539, (g4815 8), (g4815 9), (g4815 10), .int .i64 t4612, .slice A4637 t4629.length cp4638, .int .i64 t4630, .int .i64 x4790, (g4815 15), (g4815 16), (g4815 17), (g4815 18), (g4815 19), (g4815 20), (g4815 21), (g4815 22), (g4815 23), (g4815 24), (g4815 25), (g4815 26), (g4815 27), (g4815 28), (g4815 29), (g4815 30), (g4815 31), (g4815 32), (g4815 33), (g4815 34), (g4815 35), (g4815 36), (g4815 37), (g4815 38), (g4815 39), (g4815 40), (g4815 41), (g4815 42), (g4815 43), (g4815 44), (g4815 45), (g4815 46), (g4815 47), (g4815 48), (g4815 49), (g4815 50), (g4815 51), (g4815 52), (g4815 53), (g4815 54), (g4815 55), (g4815 56), (g4815 57), (g4815 58), (g4815 59), (g4815 60), (g4815 61), (g4815 62), (g4815 63), (g4815 64), (g4815 65), (g4815 66), (g4815 67), (g4815 68), (g4815 69), (g4815 70), (g4815 71), (g4815 72), (g4815 73), (g4815 74), (g4815 75), (g4815 76), (g4815 77), (g4815 78), (g4815 79), (g4815 80), (g4815 81), (g4815 82), (g4815 83), (g4815 84), .bool x4814, (g4815 86), (g4815 87), (g4815 88), (g4815 89), (g4815 90), (g4815 91), (g4815 92), (g4815 93), (g4815 94), (g4815 95), (g4815 96), (g4815 97), (g4815 98), (g4815 99), (g4815 100), (g4815 101), (g4815 102), (g4815 103), (g4815 104), (g4815 105), (g4815 106), (g4815 107), (g4815 108), (g4815 109), (g4815 110), (g4815 111), (g4815 112), (g4815 113), (g4815 114), (g4815 115), (g4815 116), (g4815 117), (g4815 118), (g4815 119), (g4815 120), (g4815 121), (g4815 122), (g4815 123), (g4815 124), (g4815 125), (g4815 126), (g4815 127), (g4815 128), (g4815 129), (g4815 130), (g4815 131), (g4815 132), (g4815 133), (g4815 134), (g4815 135), (g4815 136), (g4815 137), (g4815 138), (g4815 139), (g4815 140), (g4815 141), (g4815 142), (g4815 143), (g4815 144)], []⟩ w4809 := by
                    intro kq4816 C4808 w4809 x4814 g4815 HS4810 hk4817 HJ4811 HJ4812 HJ4813 H
                    cases kq4816 with
                    | zero => exact absurd H (by simp [blazonlaw04_RecordRows.j2])
                    | succ k4818 =>
                      simp only [blazonlaw04_RecordRows.j2] at H
                      refine hK4802 _ _ ?_
                      (try clear hK4802)
                      by_cases c4819 : x4814 = true
                      · rw [if_pos c4819] at H
                        (try rw [c4819])
                        (try simp only [Bool.not_true, Bool.not_false])
                        refine wp_cond_true rfl ?_
                        refine wp_skip ?_
                        (try simp only [Act.put, List.setIfInBounds_toArray, List.set_cons_zero, List.set_cons_succ])
                        refine hK4801 _ _ ?_
                        (try clear hK4801 K4801)
                        refine wp_block ?_
                        refine wl_region ?_
                        refine st (.int .i64 x4790) rfl rfl (xr_move (.int .i64 x4790) rfl rfl) ?_
                        simp only [List.set_cons_zero, List.set_cons_succ]
                        refine st (.int .i64 (wrap64 (x4790 + 1))) rfl rfl (xr_bin (.int .i64 x4790) (.int .i64 1) (.int .i64 (wrap64 (x4790 + 1))) rfl rfl rfl (B.add_i64 x4790 1)) ?_
                        simp only [List.set_cons_zero, List.set_cons_succ]
                        refine st (.int .i64 (wrap64 (x4790 + 1))) rfl rfl (xr_assign (.int .i64 (wrap64 (x4790 + 1))) rfl rfl) ?_
                        simp only [List.set_cons_zero, List.set_cons_succ]
                        refine wl_end ?_
                        (try simp only [Act.put, List.setIfInBounds_toArray, List.set_cons_zero, List.set_cons_succ])
                        exact ih4797 k4818 (by omega) _ _ ⟨_, wrap64 (x4790 + 1), (fun q_ => List.getD [undef, (g4815 1), (g4815 2), (g4815 3), (g4815 4), (g4815 5), (g4815 6), undef, (g4815 8), (g4815 9), (g4815 10), undef, undef, undef, undef, (g4815 15), (g4815 16), (g4815 17), (g4815 18), (g4815 19), (g4815 20), (g4815 21), (g4815 22), (g4815 23), (g4815 24), (g4815 25), (g4815 26), (g4815 27), (g4815 28), (g4815 29), (g4815 30), (g4815 31), (g4815 32), (g4815 33), (g4815 34), (g4815 35), (g4815 36), (g4815 37), (g4815 38), (g4815 39), (g4815 40), (g4815 41), (g4815 42), (g4815 43), (g4815 44), (g4815 45), (g4815 46), (g4815 47), (g4815 48), (g4815 49), (g4815 50), (g4815 51), (g4815 52), (g4815 53), (g4815 54), (g4815 55), (g4815 56), (g4815 57), (g4815 58), (g4815 59), (g4815 60), (g4815 61), (g4815 62), (g4815 63), (g4815 64), (g4815 65), (g4815 66), (g4815 67), (g4815 68), (g4815 69), (g4815 70), (g4815 71), (g4815 72), (g4815 73), (g4815 74), (g4815 75), (g4815 76), (g4815 77), (g4815 78), (g4815 79), (g4815 80), (g4815 81), (g4815 82), (g4815 83), (g4815 84), .bool true, .int .i64 x4790, .int .i64 (wrap64 (x4790 + 1)), (g4815 88), (g4815 89), (g4815 90), (g4815 91), (g4815 92), (g4815 93), (g4815 94), (g4815 95), (g4815 96), (g4815 97), (g4815 98), (g4815 99), (g4815 100), (g4815 101), (g4815 102), (g4815 103), (g4815 104), (g4815 105), (g4815 106), (g4815 107), (g4815 108), (g4815 109), (g4815 110), (g4815 111), (g4815 112), (g4815 113), (g4815 114), (g4815 115), (g4815 116), (g4815 117), (g4815 118), (g4815 119), (g4815 120), (g4815 121), (g4815 122), (g4815 123), (g4815 124), (g4815 125), (g4815 126), (g4815 127), (g4815 128), (g4815 129), (g4815 130), (g4815 131), (g4815 132), (g4815 133), (g4815 134), (g4815 135), (g4815 136), (g4815 137), (g4815 138), (g4815 139), (g4815 140), (g4815 141), (g4815 142), (g4815 143), (g4815 144)] q_ undef), rfl, HS4810, (by omega), HJ4811, HJ4812, HJ4813, H⟩
                      · rw [if_neg c4819] at H
                        (try rw [(Bool.eq_false_iff.mpr c4819)])
                        (try simp only [Bool.not_true, Bool.not_false])
                        refine wp_cond_false rfl ?_
                        refine wp_exit ?_
                        (try simp only [Act.put, List.setIfInBounds_toArray, List.set_cons_zero, List.set_cons_succ])
                        refine hK4643 _ _ ?_
                        (try clear hK4643 K4643)
                        refine wp_seq_k fun K4820 hK4820 => ?_
                        refine wp_seq_k fun K4853 hK4853 => ?_
                        have hj4863 : ∀ (kq4871 : Nat) (C4864 : Nat → Nat) (w4865 : World) (x4869 : Bool) (g4870 : Nat → Value), Step c w C4864 w4865 [] → kq4871 ≤ k4818 → (Ft C4864 [0] w4865 (fun w_ => k74.C w_ A0 l0.length l0)) → (Own C4864 14 w4865 k63 63 (.slice A4637 t4629.length cp4638) t4629) → blazonlaw04_RecordRows.j1 kq4871 l0 t4629 x4790 x4869 = some r → K4853 ⟨#[.slice A0 l0.length c0, (g4870 1), (g4870 2), (g4870 3), (g4870 4), (g4870 5), (g4870 6), (g4870 7), (g4870 8), (g4870 9), (g4870 10), (g4870 11), .slice A4637 t4629.length cp4638, (g4870 13), .int .i64 x4790, (g4870 15), (g4870 16), (g4870 17), (g4870 18), (g4870 19), (g4870 20), (g4870 21), (g4870 22), (g4870 23), (g4870 24), (g4870 25), (g4870 26), (g4870 27), (g4870 28), (g4870 29), (g4870 30), (g4870 31), (g4870 32), (g4870 33), (g4870 34), (g4870 35), (g4870 36), (g4870 37), (g4870 38), (g4870 39), (g4870 40), (g4870 41), (g4870 42), (g4870 43), (g4870 44), (g4870 45), (g4870 46), (g4870 47), (g4870 48), (g4870 49), (g4870 50), (g4870 51), (g4870 52), (g4870 53), (g4870 54), (g4870 55), (g4870 56), (g4870 57), (g4870 58), (g4870 59), (g4870 60), (g4870 61), (g4870 62), (g4870 63), (g4870 64), (g4870 65), (g4870 66), (g4870 67), (g4870 68), (g4870 69), (g4870 70), (g4870 71), (g4870 72), (g4870 73), (g4870 74), (g4870 75), (g4870 76), (g4870 77), (g4870 78), (g4870 79), (g4870 80), (g4870 81), (g4870 82), (g4870 83), (g4870 84), (g4870 85), (g4870 86), (g4870 87), (g4870 88), (g4870 89), (g4870 90), (g4870 91), (g4870 92), (g4870 93), (g4870 94), (g4870 95), (g4870 96), (g4870 97), (g4870 98), (g4870 99), (g4870 100), (g4870 101), (g4870 102), (g4870 103), (g4870 104), (g4870 105), (g4870 106), (g4870 107), (g4870 108), (g4870 109), (g4870 110), (g4870 111), .bool x4869, (g4870 113), (g4870 114), (g4870 115), (g4870 116), (g4870 117), (g4870 118), (g4870 119), (g4870 120), (g4870 121), (g4870 122), (g4870 123), (g4870 124), (g4870 125), (g4870 126), (g4870 127), (g4870 128), (g4870 129), (g4870 130), (g4870 131), (g4870 132), (g4870 133), (g4870 134), (g4870 135), (g4870 136), (g4870 137), (g4870 138), (g4870 139), (g4870 140), (g4870 141), (g4870 142), (g4870 143), (g4870 144)], []⟩ w4865 := by
                          intro kq4871 C4864 w4865 x4869 g4870 HS4866 hk4872 HJ4867 HJ4868 H
                          cases kq4871 with
                          | zero => exact absurd H (by simp [blazonlaw04_RecordRows.j1])
                          | succ k4873 =>
                            simp only [blazonlaw04_RecordRows.j1] at H
                            refine hK4853 _ _ ?_
                            (try clear hK4853)
                            by_cases c4874 : x4869 = true
                            · rw [if_pos c4874] at H
                              (try rw [c4874])
                              (try simp only [Bool.not_true, Bool.not_false])
                              refine wp_cond_true rfl ?_
                              refine wp_seq_k fun K4875 hK4875 => ?_
                              refine wl_region ?_
                              refine st (.bool false) rfl rfl (xr_assign (.bool false) rfl rfl) ?_
                              simp only [List.set_cons_zero, List.set_cons_succ]
                              refine wl_end ?_
                              (try simp only [Act.put, List.setIfInBounds_toArray, List.set_cons_zero, List.set_cons_succ])
                              refine hK4875 _ _ ?_
                              (try clear hK4875 K4875)
                              refine wp_ret ?_
                              (try simp only [Exit.inBlock, Exit.then, Exit.noGoto])
                              (try simp only [Act.put, List.setIfInBounds_toArray, List.set_cons_zero, List.set_cons_succ])
                              obtain rfl := Option.some.inj H
                              refine bodyPost_ret (results_tmp rfl _ _ _) rfl ?_
                              exact ⟨_, rfl, HS4866⟩
                            · rw [if_neg c4874] at H
                              (try rw [(Bool.eq_false_iff.mpr c4874)])
                              (try simp only [Bool.not_true, Bool.not_false])
                              refine wp_cond_false rfl ?_
                              refine wp_skip ?_
                              (try simp only [Act.put, List.setIfInBounds_toArray, List.set_cons_zero, List.set_cons_succ])
                              refine hK4820 _ _ ?_
                              (try clear hK4820 K4820)
                              refine wp_seq_k fun K4876 hK4876 => ?_
                              refine wp_seq_k fun K4877 hK4877 => ?_
                              refine wl_region ?_
                              refine st (.int .i64 0) rfl rfl (xr_assign (.int .i64 0) rfl rfl) ?_
                              simp only [List.set_cons_zero, List.set_cons_succ]
                              refine wl_end ?_
                              (try simp only [Act.put, List.setIfInBounds_toArray, List.set_cons_zero, List.set_cons_succ])
                              refine hK4877 _ _ ?_
                              (try clear hK4877 K4877)
                              refine wp_block ?_
                              (try simp only [Act.put, List.setIfInBounds_toArray, List.set_cons_zero, List.set_cons_succ])
                              refine wp_looped (looped_ind (fun kq5041 a_ w5040 => ∃ (C5039 : Nat → Nat) (x5037 : Int) (g5038 : Nat → Value), a_ = ⟨#[.slice A0 l0.length c0, (g5038 1), (g5038 2), (g5038 3), (g5038 4), (g5038 5), (g5038 6), (g5038 7), (g5038 8), (g5038 9), (g5038 10), (g5038 11), .slice A4637 t4629.length cp4638, (g5038 13), .int .i64 x4790, .int .i64 x5037, (g5038 16), (g5038 17), (g5038 18), (g5038 19), (g5038 20), (g5038 21), (g5038 22), (g5038 23), (g5038 24), (g5038 25), (g5038 26), (g5038 27), (g5038 28), (g5038 29), (g5038 30), (g5038 31), (g5038 32), (g5038 33), (g5038 34), (g5038 35), (g5038 36), (g5038 37), (g5038 38), (g5038 39), (g5038 40), (g5038 41), (g5038 42), (g5038 43), (g5038 44), (g5038 45), (g5038 46), (g5038 47), (g5038 48), (g5038 49), (g5038 50), (g5038 51), (g5038 52), (g5038 53), (g5038 54), (g5038 55), (g5038 56), (g5038 57), (g5038 58), (g5038 59), (g5038 60), (g5038 61), (g5038 62), (g5038 63), (g5038 64), (g5038 65), (g5038 66), (g5038 67), (g5038 68), (g5038 69), (g5038 70), (g5038 71), (g5038 72), (g5038 73), (g5038 74), (g5038 75), (g5038 76), (g5038 77), (g5038 78), (g5038 79), (g5038 80), (g5038 81), (g5038 82), (g5038 83), (g5038 84), (g5038 85), (g5038 86), (g5038 87), (g5038 88), (g5038 89), (g5038 90), (g5038 91), (g5038 92), (g5038 93), (g5038 94), (g5038 95), (g5038 96), (g5038 97), (g5038 98), (g5038 99), (g5038 100), (g5038 101), (g5038 102), (g5038 103), (g5038 104), (g5038 105), (g5038 106), (g5038 107), (g5038 108), (g5038 109), (g5038 110), (g5038 111), (g5038 112), (g5038 113), (g5038 114), (g5038 115), (g5038 116), (g5038 117), (g5038 118), (g5038 119), (g5038 120), (g5038 121), (g5038 122), (g5038 123), (g5038 124), (g5038 125), (g5038 126), (g5038 127), (g5038 128), (g5038 129), (g5038 130), (g5038 131), (g5038 132), (g5038 133), (g5038 134), (g5038 135), (g5038 136), (g5038 137), (g5038 138), (g5038 139), (g5038 140), (g5038 141), (g5038 142), (g5038 143), (g5038 144)], []⟩ ∧ Step c w C5039 w5040 [] ∧ kq5041 ≤ k4873 ∧ (Ft C5039 [0] w5040 (fun w_ => k74.C w_ A0 l0.length l0)) ∧ (Own C5039 14 w5040 k63 63 (.slice A4637 t4629.length cp4638) t4629) ∧ blazonlaw04_RecordRows.l0 kq5041 l0 t4629 x4790 x5037 = some r) ?step k4873 _ _ ?init)
                              case init =>
                                exact ⟨_, 0, (fun q_ => List.getD [undef, (g4870 1), (g4870 2), (g4870 3), (g4870 4), (g4870 5), (g4870 6), (g4870 7), (g4870 8), (g4870 9), (g4870 10), (g4870 11), undef, (g4870 13), undef, undef, (g4870 16), (g4870 17), (g4870 18), (g4870 19), (g4870 20), (g4870 21), (g4870 22), (g4870 23), (g4870 24), (g4870 25), (g4870 26), (g4870 27), (g4870 28), (g4870 29), (g4870 30), (g4870 31), (g4870 32), (g4870 33), (g4870 34), (g4870 35), (g4870 36), (g4870 37), (g4870 38), (g4870 39), (g4870 40), (g4870 41), (g4870 42), (g4870 43), (g4870 44), (g4870 45), (g4870 46), (g4870 47), (g4870 48), (g4870 49), (g4870 50), (g4870 51), (g4870 52), (g4870 53), (g4870 54), (g4870 55), (g4870 56), (g4870 57), (g4870 58), (g4870 59), (g4870 60), (g4870 61), (g4870 62), (g4870 63), (g4870 64), (g4870 65), (g4870 66), (g4870 67), (g4870 68), (g4870 69), (g4870 70), (g4870 71), (g4870 72), (g4870 73), (g4870 74), (g4870 75), (g4870 76), (g4870 77), (g4870 78), (g4870 79), (g4870 80), (g4870 81), (g4870 82), (g4870 83), (g4870 84), (g4870 85), (g4870 86), (g4870 87), (g4870 88), (g4870 89), (g4870 90), (g4870 91), (g4870 92), (g4870 93), (g4870 94), (g4870 95), (g4870 96), (g4870 97), (g4870 98), (g4870 99), (g4870 100), (g4870 101), (g4870 102), (g4870 103), (g4870 104), (g4870 105), (g4870 106), (g4870 107), (g4870 108), (g4870 109), (g4870 110), (g4870 111), .bool false, (g4870 113), (g4870 114), (g4870 115), (g4870 116), (g4870 117), (g4870 118), (g4870 119), (g4870 120), (g4870 121), (g4870 122), (g4870 123), (g4870 124), (g4870 125), (g4870 126), (g4870 127), (g4870 128), (g4870 129), (g4870 130), (g4870 131), (g4870 132), (g4870 133), (g4870 134), (g4870 135), (g4870 136), (g4870 137), (g4870 138), (g4870 139), (g4870 140), (g4870 141), (g4870 142), (g4870 143), (g4870 144)] q_ undef), rfl, HS4866, Nat.le_refl _, HJ4867, HJ4868, H⟩
                              case step =>
                                intro kq5041 ih5044 a5045 w5040 hr5046
                                obtain ⟨C5039, x5037, g5038, rfl, HS5042, hk5043, HJ5035, HJ5036, H⟩ := hr5046
                                refine looped_round ?_
                                cases kq5041 with
                                | zero => exact absurd H (by simp [blazonlaw04_RecordRows.l0])
                                | succ k5047 =>
                                  simp only [blazonlaw04_RecordRows.l0] at H
                                  refine wp_seq_k fun K5048 hK5048 => ?_
                                  refine wp_seq_k fun K5049 hK5049 => ?_
                                  refine wl_region ?_
                                  refine st (.int .i64 x5037) rfl rfl (xr_move (.int .i64 x5037) rfl rfl) ?_
                                  simp only [List.set_cons_zero, List.set_cons_succ]
                                  refine st (.int .i64 x4790) rfl rfl (xr_move (.int .i64 x4790) rfl rfl) ?_
                                  simp only [List.set_cons_zero, List.set_cons_succ]
                                  refine st (.bool (decide (x5037 < x4790))) rfl rfl (xr_bin (.int .i64 x5037) (.int .i64 x4790) (.bool (decide (x5037 < x4790))) rfl rfl rfl (B.lss_i64 x5037 x4790)) ?_
                                  simp only [List.set_cons_zero, List.set_cons_succ]
                                  refine wl_end ?_
                                  (try simp only [Act.put, List.setIfInBounds_toArray, List.set_cons_zero, List.set_cons_succ])
                                  refine hK5049 _ _ ?_
                                  (try clear hK5049 K5049)
                                  by_cases c5050 : x5037 < x4790
                                  · rw [if_pos c5050] at H
                                    (try rw [(decide_eq_true c5050)])
                                    (try simp only [Bool.not_true, Bool.not_false])
                                    refine wp_cond_true rfl ?_
                                    refine wp_skip ?_
                                    (try simp only [Act.put, List.setIfInBounds_toArray, List.set_cons_zero, List.set_cons_succ])
                                    refine hK5048 _ _ ?_
                                    (try clear hK5048 K5048)
                                    refine wp_seq_k fun K5051 hK5051 => ?_
                                    refine wp_block ?_
                                    refine wp_seq_k fun K5052 hK5052 => ?_
                                    have hj5082 : ∀ (kq5090 : Nat) (C5083 : Nat → Nat) (w5084 : World) (x5088 : Bool) (g5089 : Nat → Value), Step c w C5083 w5084 [] → kq5090 ≤ k5047 → (Ft C5083 [0] w5084 (fun w_ => k74.C w_ A0 l0.length l0)) → (Own C5083 14 w5084 k63 63 (.slice A4637 t4629.length cp4638) t4629) → blazonlaw04_RecordRows.j0 kq5090 l0 t4629 x4790 x5037 x5088 = some r → K5052 ⟨#[.slice A0 l0.length c0, (g5089 1), (g5089 2), (g5089 3), (g5089 4), (g5089 5), (g5089 6), (g5089 7), (g5089 8), (g5089 9), (g5089 10), (g5089 11), .slice A4637 t4629.length cp4638, (g5089 13), .int .i64 x4790, .int .i64 x5037, (g5089 16), (g5089 17), (g5089 18), (g5089 19), (g5089 20), (g5089 21), (g5089 22), (g5089 23), (g5089 24), (g5089 25), (g5089 26), (g5089 27), (g5089 28), (g5089 29), (g5089 30), (g5089 31), (g5089 32), (g5089 33), (g5089 34), (g5089 35), (g5089 36), (g5089 37), (g5089 38), (g5089 39), (g5089 40), (g5089 41), (g5089 42), (g5089 43), (g5089 44), (g5089 45), (g5089 46), (g5089 47), (g5089 48), (g5089 49), (g5089 50), (g5089 51), (g5089 52), (g5089 53), (g5089 54), (g5089 55), (g5089 56), (g5089 57), (g5089 58), (g5089 59), (g5089 60), (g5089 61), (g5089 62), (g5089 63), (g5089 64), (g5089 65), (g5089 66), (g5089 67), (g5089 68), (g5089 69), (g5089 70), (g5089 71), (g5089 72), (g5089 73), (g5089 74), (g5089 75), (g5089 76), (g5089 77), (g5089 78), (g5089 79), (g5089 80), (g5089 81), (g5089 82), (g5089 83), (g5089 84), (g5089 85), (g5089 86), (g5089 87), (g5089 88), (g5089 89), (g5089 90), (g5089 91), (g5089 92), (g5089 93), (g5089 94), (g5089 95), (g5089 96), (g5089 97), (g5089 98), (g5089 99), (g5089 100), (g5089 101), (g5089 102), (g5089 103), (g5089 104), (g5089 105), (g5089 106), (g5089 107), (g5089 108), (g5089 109), (g5089 110), (g5089 111), (g5089 112), (g5089 113), (g5089 114), (g5089 115), (g5089 116), (g5089 117), (g5089 118), (g5089 119), (g5089 120), (g5089 121), (g5089 122), (g5089 123), (g5089 124), (g5089 125), (g5089 126), (g5089 127), (g5089 128), (g5089 129), (g5089 130), (g5089 131), (g5089 132), (g5089 133), (g5089 134), (g5089 135), (g5089 136), (g5089 137), (g5089 138), (g5089 139), (g5089 140), (g5089 141), (g5089 142), .bool x5088, (g5089 144)], []⟩ w5084 := by
                                      intro kq5090 C5083 w5084 x5088 g5089 HS5085 hk5091 HJ5086 HJ5087 H
                                      cases kq5090 with
                                      | zero => exact absurd H (by simp [blazonlaw04_RecordRows.j0])
                                      | succ k5092 =>
                                        simp only [blazonlaw04_RecordRows.j0] at H
                                        refine hK5052 _ _ ?_
                                        (try clear hK5052)
                                        by_cases c5093 : x5088 = true
                                        · rw [if_pos c5093] at H
                                          (try rw [c5093])
                                          (try simp only [Bool.not_true, Bool.not_false])
                                          refine wp_cond_true rfl ?_
                                          refine wp_seq_k fun K5094 hK5094 => ?_
                                          refine wl_region ?_
                                          refine st (.bool false) rfl rfl (xr_assign (.bool false) rfl rfl) ?_
                                          simp only [List.set_cons_zero, List.set_cons_succ]
                                          refine wl_end ?_
                                          (try simp only [Act.put, List.setIfInBounds_toArray, List.set_cons_zero, List.set_cons_succ])
                                          refine hK5094 _ _ ?_
                                          (try clear hK5094 K5094)
                                          refine wp_ret ?_
                                          (try simp only [Exit.inBlock, Exit.then, Exit.noGoto])
                                          (try simp only [Act.put, List.setIfInBounds_toArray, List.set_cons_zero, List.set_cons_succ])
                                          obtain rfl := Option.some.inj H
                                          refine bodyPost_ret (results_tmp rfl _ _ _) rfl ?_
                                          exact ⟨_, rfl, HS5085⟩
                                        · rw [if_neg c5093] at H
                                          (try rw [(Bool.eq_false_iff.mpr c5093)])
                                          (try simp only [Bool.not_true, Bool.not_false])
                                          refine wp_cond_false rfl ?_
                                          refine wp_skip ?_
                                          (try simp only [Act.put, List.setIfInBounds_toArray, List.set_cons_zero, List.set_cons_succ])
                                          refine hK5051 _ _ ?_
                                          (try clear hK5051 K5051)
                                          refine wl_region ?_
                                          refine st (.int .i64 x5037) rfl rfl (xr_move (.int .i64 x5037) rfl rfl) ?_
                                          simp only [List.set_cons_zero, List.set_cons_succ]
                                          refine st (.int .i64 (wrap64 (x5037 + 1))) rfl rfl (xr_bin (.int .i64 x5037) (.int .i64 1) (.int .i64 (wrap64 (x5037 + 1))) rfl rfl rfl (B.add_i64 x5037 1)) ?_
                                          simp only [List.set_cons_zero, List.set_cons_succ]
                                          refine st (.int .i64 (wrap64 (x5037 + 1))) rfl rfl (xr_assign (.int .i64 (wrap64 (x5037 + 1))) rfl rfl) ?_
                                          simp only [List.set_cons_zero, List.set_cons_succ]
                                          refine wl_end ?_
                                          (try simp only [Act.put, List.setIfInBounds_toArray, List.set_cons_zero, List.set_cons_succ])
                                          exact ih5044 k5092 (by omega) _ _ ⟨_, wrap64 (x5037 + 1), (fun q_ => List.getD [undef, (g5089 1), (g5089 2), (g5089 3), (g5089 4), (g5089 5), (g5089 6), (g5089 7), (g5089 8), (g5089 9), (g5089 10), (g5089 11), undef, (g5089 13), undef, undef, (g5089 16), (g5089 17), (g5089 18), (g5089 19), (g5089 20), (g5089 21), (g5089 22), (g5089 23), (g5089 24), (g5089 25), (g5089 26), (g5089 27), (g5089 28), (g5089 29), (g5089 30), (g5089 31), (g5089 32), (g5089 33), (g5089 34), (g5089 35), (g5089 36), (g5089 37), (g5089 38), (g5089 39), (g5089 40), (g5089 41), (g5089 42), (g5089 43), (g5089 44), (g5089 45), (g5089 46), (g5089 47), (g5089 48), (g5089 49), (g5089 50), (g5089 51), (g5089 52), (g5089 53), (g5089 54), (g5089 55), (g5089 56), (g5089 57), (g5089 58), (g5089 59), (g5089 60), (g5089 61), (g5089 62), (g5089 63), (g5089 64), (g5089 65), (g5089 66), (g5089 67), (g5089 68), (g5089 69), (g5089 70), (g5089 71), (g5089 72), (g5089 73), (g5089 74), (g5089 75), (g5089 76), (g5089 77), (g5089 78), (g5089 79), (g5089 80), (g5089 81), (g5089 82), (g5089 83), (g5089 84), (g5089 85), (g5089 86), (g5089 87), (g5089 88), (g5089 89), (g5089 90), (g5089 91), (g5089 92), (g5089 93), (g5089 94), (g5089 95), (g5089 96), (g5089 97), (g5089 98), (g5089 99), (g5089 100), (g5089 101), (g5089 102), (g5089 103), (g5089 104), (g5089 105), (g5089 106), (g5089 107), (g5089 108), (g5089 109), (g5089 110), (g5089 111), (g5089 112), (g5089 113), (g5089 114), (g5089 115), .int .i64 x5037, .int .i64 (wrap64 (x5037 + 1)), (g5089 118), (g5089 119), (g5089 120), (g5089 121), (g5089 122), (g5089 123), (g5089 124), (g5089 125), (g5089 126), (g5089 127), (g5089 128), (g5089 129), (g5089 130), (g5089 131), (g5089 132), (g5089 133), (g5089 134), (g5089 135), (g5089 136), (g5089 137), (g5089 138), (g5089 139), (g5089 140), (g5089 141), (g5089 142), .bool false, (g5089 144)] q_ undef), rfl, HS5085, (by omega), HJ5086, HJ5087, H⟩
                                    have HQ5095 := Ft.same C5039 [0] w5040
                                    have HQ5096 := Ft.same C5039 [14, 0] w5040
                                    (try simp only [Act.put, List.setIfInBounds_toArray, List.set_cons_zero, List.set_cons_succ])
                                    refine al_start #[false, false, false, false, false, false, false, false, false, false, false, false, false, false, false, false, false, false, false, false, false, false, false, false, false, false] rfl rfl rfl (fun w_ => k74.C w_ A0 l0.length l0 ∧ k63.C w_ A4637 t4629.length t4629 ∧ (∀ k_, C5039 k_ ∈ [0] → k_ < (w5040).drew.heap.size → w_.heap[k_]? = (w5040).drew.heap[k_]?) ∧ (∀ k_, C5039 k_ ∈ [14, 0] → k_ < (w5040).drew.heap.size → w_.heap[k_]? = (w5040).drew.heap[k_]?)) ⟨(Ft.now (HJ5035).drew), (Ft.now ((HJ5036.ft)).drew), (Ft.now (HQ5095.drew)), (Ft.now (HQ5096.drew))⟩ ?_
                                    replace HJ5035 := HJ5035.drew
                                    replace HJ5036 := HJ5036.drew
                                    replace HQ5095 := HQ5095.drew
                                    replace HQ5096 := HQ5096.drew
                                    replace HS5042 := Step.ofDrew HS5042
                                    replace HQ5095 := Ft.same C5039 [0] (w5040.drew)
                                    replace HQ5096 := Ft.same C5039 [14, 0] (w5040.drew)
                                    generalize w5040.drew = w5097 at *
                                    refine al_pure 0 118 (.slice A4637 t4629.length cp4638) #[true, false, false, false, false, false, false, false, false, false, false, false, false, false, false, false, false, false, false, false, false, false, false, false, false, false] rfl rfl (by kernel_rfl) (fun _ _ _ h_ => h_) rfl (fun w_ => xr_move (.slice A4637 t4629.length cp4638) rfl rfl) ?_
                                    simp only [List.set_cons_zero, List.set_cons_succ]
                                    refine al_pure 1 119 (.int .i64 x5037) #[true, true, false, false, false, false, false, false, false, false, false, false, false, false, false, false, false, false, false, false, false, false, false, false, false, false] rfl rfl (by kernel_rfl) (fun _ _ _ h_ => h_) rfl (fun w_ => xr_move (.int .i64 x5037) rfl rfl) ?_
                                    simp only [List.set_cons_zero, List.set_cons_succ]
                                    by_cases c5098 : 0 ≤ x5037
                                    · rw [if_pos c5098] at H
                                      by_cases c5099 : x5037 < (t4629.length : Int)
                                      · rw [if_pos c5099] at H
                                        obtain ⟨g5100, hA5101⟩ := HJ5036.form (pos_of (j := x5037) (by first | assumption | decide) (by first | assumption | omega))
                                        refine al_pure 2 120 (.pointer (some ((⟨g5100, 0, none⟩ : Addr).add ((x5037 : Int).toNat * 2)))) #[true, true, true, false, false, false, false, false, false, false, false, false, false, false, false, false, false, false, false, false, false, false, false, false, false, false] rfl rfl (by kernel_rfl) (fun _ _ _ h_ => h_) rfl (fun w_ => xr_indexAddr (.slice A4637 t4629.length cp4638) (.int .i64 x5037) (.pointer (some ((⟨g5100, 0, none⟩ : Addr).add ((x5037 : Int).toNat * 2)))) rfl rfl rfl (index_at Try.underlying75 info63 hA5101 (by first | assumption | decide | omega) (by first | assumption | decide | omega))) ?_
                                        simp only [List.set_cons_zero, List.set_cons_succ]
                                        refine al_pure 3 121 (.pointer (some (((⟨g5100, 0, none⟩ : Addr).add ((x5037 : Int).toNat * 2)).add 0))) #[true, true, true, true, false, false, false, false, false, false, false, false, false, false, false, false, false, false, false, false, false, false, false, false, false, false] rfl rfl (by kernel_rfl) (fun _ _ _ h_ => h_) rfl (fun w_ => xr_fieldAddr (.pointer (some ((⟨g5100, 0, none⟩ : Addr).add ((x5037 : Int).toNat * 2)))) (.pointer (some (((⟨g5100, 0, none⟩ : Addr).add ((x5037 : Int).toNat * 2)).add 0))) rfl rfl (field_at2 Try.underlying63 rfl rfl (by kernel_rfl))) ?_
                                        simp only [List.set_cons_zero, List.set_cons_succ]
                                        refine al_pure 5 123 (.slice A0 l0.length c0) #[true, true, true, true, false, true, false, false, false, false, false, false, false, false, false, false, false, false, false, false, false, false, false, false, false, false] rfl rfl (by kernel_rfl) (fun _ _ _ h_ => h_) rfl (fun w_ => xr_move (.slice A0 l0.length c0) rfl rfl) ?_
                                        simp only [List.set_cons_zero, List.set_cons_succ]
                                        refine al_pure 6 124 (.int .i64 x5037) #[true, true, true, true, false, true, true, false, false, false, false, false, false, false, false, false, false, false, false, false, false, false, false, false, false, false] rfl rfl (by kernel_rfl) (fun _ _ _ h_ => h_) rfl (fun w_ => xr_move (.int .i64 x5037) rfl rfl) ?_
                                        simp only [List.set_cons_zero, List.set_cons_succ]
                                        by_cases c5102 : x5037 < (l0.length : Int)
                                        · rw [if_pos c5102] at H
                                          obtain ⟨ad5103, hA5104⟩ := c_addr (Ft.now HJ5035) (pos_of (j := x5037) (by first | assumption | decide) (by first | assumption | omega))
                                          refine al_pure 7 125 (.pointer (some (ad5103.add ((x5037 : Int).toNat * 2)))) #[true, true, true, true, false, true, true, true, false, false, false, false, false, false, false, false, false, false, false, false, false, false, false, false, false, false] rfl rfl (by kernel_rfl) (fun _ _ _ h_ => h_) rfl (fun w_ => xr_indexAddr (.slice A0 l0.length c0) (.int .i64 x5037) (.pointer (some (ad5103.add ((x5037 : Int).toNat * 2)))) rfl rfl rfl (index_at Try.underlying71 info74 hA5104 (by first | assumption | decide | omega) (by first | assumption | decide | omega))) ?_
                                          simp only [List.set_cons_zero, List.set_cons_succ]
                                          refine al_pure 8 126 (.pointer (some ((ad5103.add ((x5037 : Int).toNat * 2)).add 0))) #[true, true, true, true, false, true, true, true, true, false, false, false, false, false, false, false, false, false, false, false, false, false, false, false, false, false] rfl rfl (by kernel_rfl) (fun _ _ _ h_ => h_) rfl (fun w_ => xr_fieldAddr (.pointer (some (ad5103.add ((x5037 : Int).toNat * 2)))) (.pointer (some ((ad5103.add ((x5037 : Int).toNat * 2)).add 0))) rfl rfl (field_at2 Try.underlying74 rfl rfl (by kernel_rfl))) ?_
                                          simp only [List.set_cons_zero, List.set_cons_succ]
                                          obtain ⟨csq5106, _, hKq5106, hcq5106, hinq5106⟩ := Ft.elem (HJ5036.ft) hA5101 z63 x5037 (by first | assumption | decide | omega) (by first | assumption | decide | omega) (by decide)
                                          obtain ⟨Aq5106_1, cpq5106_1, rfl, HCq5106_1, HRq5106_1⟩ := k63_openF hKq5106
                                          replace HRq5106_1 : Ft C5039 [14, 0] w5097 (fun w_ => (Kd.int .u8).C w_ Aq5106_1 (rd_T63 t4629 x5037).f1.length (rd_T63 t4629 x5037).f1) := HRq5106_1
                                          refine al_take 4 122 (.int .i64 ((rd_T63 t4629 x5037).f0)) #[true, true, true, true, true, true, true, true, true, false, false, false, false, false, false, false, false, false, false, false, false, false, false, false, false, false] rfl rfl (by kernel_rfl) (fun _ _ _ h_ => h_) rfl (fun w_ hS_ => xr_load (.pointer (some (((⟨g5100, 0, none⟩ : Addr).add ((x5037 : Int).toNat * 2)).add 0))) (.int .i64 ((rd_T63 t4629 x5037).f0)) rfl rfl (load_cell Try.underlying3 rfl (by have h_ := (same_cell hS_.2.2.2 hinq5106 (add2_block _ _ _) (hcq5106 0 _ rfl)); rw [add_zero_] at h_; exact h_))) ⟨(Ft.now HJ5035), (Ft.now (HJ5036.ft)), (Ft.now (HQ5095)), (Ft.now (HQ5096))⟩ ?_
                                          simp only [List.set_cons_zero, List.set_cons_succ]
                                          obtain ⟨csq5108, _, hKq5108, hcq5108, hinq5108⟩ := Ft.elem HJ5035 hA5104 z74 x5037 (by first | assumption | decide | omega) (by first | assumption | decide | omega) (by decide)
                                          obtain ⟨Aq5108_1, cpq5108_1, rfl, HCq5108_1, HRq5108_1⟩ := k74_openF hKq5108
                                          replace HRq5108_1 : Ft C5039 [0] w5097 (fun w_ => (Kd.int .u8).C w_ Aq5108_1 (rd_T74 l0 x5037).f1.length (rd_T74 l0 x5037).f1) := HRq5108_1
                                          refine al_take 9 127 (.int .u8 ((rd_T74 l0 x5037).f0)) #[true, true, true, true, true, true, true, true, true, true, false, false, false, false, false, false, false, false, false, false, false, false, false, false, false, false] rfl rfl (by kernel_rfl) (fun _ _ _ h_ => h_) rfl (fun w_ hS_ => xr_load (.pointer (some ((ad5103.add ((x5037 : Int).toNat * 2)).add 0))) (.int .u8 ((rd_T74 l0 x5037).f0)) rfl rfl (load_cell Try.underlying5 rfl (by have h_ := (same_cell hS_.2.2.1 hinq5108 (add2_block _ _ _) (hcq5108 0 _ rfl)); rw [add_zero_] at h_; exact h_))) ⟨(Ft.now HJ5035), (Ft.now (HJ5036.ft)), (Ft.now (HQ5095)), (Ft.now (HQ5096))⟩ ?_
                                          simp only [List.set_cons_zero, List.set_cons_succ]
                                          refine al_pure 10 128 (.int .i64 (wrap64 ((rd_T74 l0 x5037).f0))) #[true, true, true, true, true, true, true, true, true, true, true, false, false, false, false, false, false, false, false, false, false, false, false, false, false, false] rfl rfl (by kernel_rfl) (fun _ _ _ h_ => h_) rfl (fun w_ => xr_conv (.int .u8 ((rd_T74 l0 x5037).f0)) (.int .i64 (wrap64 ((rd_T74 l0 x5037).f0))) rfl rfl (by first | rfl | (go_simp; done) | (go_simp; rfl) | (go_simp; exact i64_w _) | (go_simp; exact i32_w _))) ?_
                                          simp only [List.set_cons_zero, List.set_cons_succ]
                                          refine al_pure 11 129 (.bool (!decide (((rd_T63 t4629 x5037).f0) = (wrap64 ((rd_T74 l0 x5037).f0))))) #[true, true, true, true, true, true, true, true, true, true, true, true, false, false, false, false, false, false, false, false, false, false, false, false, false, false] rfl rfl (by kernel_rfl) (fun _ _ _ h_ => h_) rfl (fun w_ => xr_bin (.int .i64 ((rd_T63 t4629 x5037).f0)) (.int .i64 (wrap64 ((rd_T74 l0 x5037).f0))) (.bool (!decide (((rd_T63 t4629 x5037).f0) = (wrap64 ((rd_T74 l0 x5037).f0))))) rfl rfl rfl (B.neq_i64 ((rd_T63 t4629 x5037).f0) (wrap64 ((rd_T74 l0 x5037).f0)))) ?_
                                          simp only [List.set_cons_zero, List.set_cons_succ]
                                          refine al_pure 12 130 (.bool (!decide (((rd_T63 t4629 x5037).f0) = (wrap64 ((rd_T74 l0 x5037).f0))))) #[true, true, true, true, true, true, true, true, true, true, true, true, true, false, false, false, false, false, false, false, false, false, false, false, false, false] rfl rfl (by kernel_rfl) (fun _ _ _ h_ => h_) rfl (fun w_ => xr_move (.bool (!decide (((rd_T63 t4629 x5037).f0) = (wrap64 ((rd_T74 l0 x5037).f0))))) rfl rfl) ?_
                                          simp only [List.set_cons_zero, List.set_cons_succ]
                                          by_cases c5109 : ((rd_T63 t4629 x5037).f0) = (wrap64 ((rd_T74 l0 x5037).f0))
                                          · rw [if_pos c5109] at H
                                            (try rw [(decide_eq_true c5109)])
                                            (try simp only [Bool.not_true, Bool.not_false])
                                            refine al_pure 13 131 (.slice A4637 t4629.length cp4638) #[true, true, true, true, true, true, true, true, true, true, true, true, true, true, false, false, false, false, false, false, false, false, false, false, false, false] rfl rfl (by kernel_rfl) (fun _ _ _ h_ => h_) (guard_on 12 false 130 rfl rfl rfl) (fun w_ => xr_move (.slice A4637 t4629.length cp4638) rfl rfl) ?_
                                            simp only [List.set_cons_zero, List.set_cons_succ]
                                            refine al_pure 14 132 (.int .i64 x5037) #[true, true, true, true, true, true, true, true, true, true, true, true, true, true, true, false, false, false, false, false, false, false, false, false, false, false] rfl rfl (by kernel_rfl) (fun _ _ _ h_ => h_) (guard_on 12 false 130 rfl rfl rfl) (fun w_ => xr_move (.int .i64 x5037) rfl rfl) ?_
                                            simp only [List.set_cons_zero, List.set_cons_succ]
                                            obtain ⟨g5110, hA5111⟩ := HJ5036.form (pos_of (j := x5037) (by first | assumption | decide) (by first | assumption | omega))
                                            refine al_pure 15 133 (.pointer (some ((⟨g5110, 0, none⟩ : Addr).add ((x5037 : Int).toNat * 2)))) #[true, true, true, true, true, true, true, true, true, true, true, true, true, true, true, true, false, false, false, false, false, false, false, false, false, false] rfl rfl (by kernel_rfl) (fun _ _ _ h_ => h_) (guard_on 12 false 130 rfl rfl rfl) (fun w_ => xr_indexAddr (.slice A4637 t4629.length cp4638) (.int .i64 x5037) (.pointer (some ((⟨g5110, 0, none⟩ : Addr).add ((x5037 : Int).toNat * 2)))) rfl rfl rfl (index_at Try.underlying75 info63 hA5111 (by first | assumption | decide | omega) (by first | assumption | decide | omega))) ?_
                                            simp only [List.set_cons_zero, List.set_cons_succ]
                                            refine al_pure 16 134 (.pointer (some (((⟨g5110, 0, none⟩ : Addr).add ((x5037 : Int).toNat * 2)).add 1))) #[true, true, true, true, true, true, true, true, true, true, true, true, true, true, true, true, true, false, false, false, false, false, false, false, false, false] rfl rfl (by kernel_rfl) (fun _ _ _ h_ => h_) (guard_on 12 false 130 rfl rfl rfl) (fun w_ => xr_fieldAddr (.pointer (some ((⟨g5110, 0, none⟩ : Addr).add ((x5037 : Int).toNat * 2)))) (.pointer (some (((⟨g5110, 0, none⟩ : Addr).add ((x5037 : Int).toNat * 2)).add 1))) rfl rfl (field_at2 Try.underlying63 rfl rfl (by kernel_rfl))) ?_
                                            simp only [List.set_cons_zero, List.set_cons_succ]
                                            refine al_pure 18 136 (.slice A0 l0.length c0) #[true, true, true, true, true, true, true, true, true, true, true, true, true, true, true, true, true, false, true, false, false, false, false, false, false, false] rfl rfl (by kernel_rfl) (fun _ _ _ h_ => h_) (guard_on 12 false 130 rfl rfl rfl) (fun w_ => xr_move (.slice A0 l0.length c0) rfl rfl) ?_
                                            simp only [List.set_cons_zero, List.set_cons_succ]
                                            refine al_pure 19 137 (.int .i64 x5037) #[true, true, true, true, true, true, true, true, true, true, true, true, true, true, true, true, true, false, true, true, false, false, false, false, false, false] rfl rfl (by kernel_rfl) (fun _ _ _ h_ => h_) (guard_on 12 false 130 rfl rfl rfl) (fun w_ => xr_move (.int .i64 x5037) rfl rfl) ?_
                                            simp only [List.set_cons_zero, List.set_cons_succ]
                                            obtain ⟨ad5112, hA5113⟩ := c_addr (Ft.now HJ5035) (pos_of (j := x5037) (by first | assumption | decide) (by first | assumption | omega))
                                            refine al_pure 20 138 (.pointer (some (ad5112.add ((x5037 : Int).toNat * 2)))) #[true, true, true, true, true, true, true, true, true, true, true, true, true, true, true, true, true, false, true, true, true, false, false, false, false, false] rfl rfl (by kernel_rfl) (fun _ _ _ h_ => h_) (guard_on 12 false 130 rfl rfl rfl) (fun w_ => xr_indexAddr (.slice A0 l0.length c0) (.int .i64 x5037) (.pointer (some (ad5112.add ((x5037 : Int).toNat * 2)))) rfl rfl rfl (index_at Try.underlying71 info74 hA5113 (by first | assumption | decide | omega) (by first | assumption | decide | omega))) ?_
                                            simp only [List.set_cons_zero, List.set_cons_succ]
                                            refine al_pure 21 139 (.pointer (some ((ad5112.add ((x5037 : Int).toNat * 2)).add 1))) #[true, true, true, true, true, true, true, true, true, true, true, true, true, true, true, true, true, false, true, true, true, true, false, false, false, false] rfl rfl (by kernel_rfl) (fun _ _ _ h_ => h_) (guard_on 12 false 130 rfl rfl rfl) (fun w_ => xr_fieldAddr (.pointer (some (ad5112.add ((x5037 : Int).toNat * 2)))) (.pointer (some ((ad5112.add ((x5037 : Int).toNat * 2)).add 1))) rfl rfl (field_at2 Try.underlying74 rfl rfl (by kernel_rfl))) ?_
                                            simp only [List.set_cons_zero, List.set_cons_succ]
                                            obtain ⟨csq5115, _, hKq5115, hcq5115, hinq5115⟩ := Ft.elem (HJ5036.ft) hA5111 z63 x5037 (by first | assumption | decide | omega) (by first | assumption | decide | omega) (by decide)
                                            obtain ⟨Aq5115_1, cpq5115_1, rfl, HCq5115_1, HRq5115_1⟩ := k63_openF hKq5115
                                            replace HRq5115_1 : Ft C5039 [14, 0] w5097 (fun w_ => (Kd.int .u8).C w_ Aq5115_1 (rd_T63 t4629 x5037).f1.length (rd_T63 t4629 x5037).f1) := HRq5115_1
                                            refine al_take 17 135 (.slice Aq5115_1 (rd_T63 t4629 x5037).f1.length cpq5115_1) #[true, true, true, true, true, true, true, true, true, true, true, true, true, true, true, true, true, true, true, true, true, true, false, false, false, false] rfl rfl (by kernel_rfl) (fun _ _ _ h_ => h_) (guard_on 12 false 130 rfl rfl rfl) (fun w_ hS_ => xr_load (.pointer (some (((⟨g5110, 0, none⟩ : Addr).add ((x5037 : Int).toNat * 2)).add 1))) (.slice Aq5115_1 (rd_T63 t4629 x5037).f1.length cpq5115_1) rfl rfl (load_cell Try.underlying23 rfl (same_cell hS_.2.2.2 hinq5115 (add2_block _ _ _) (hcq5115 1 _ rfl)))) ⟨(Ft.now HJ5035), (Ft.now (HJ5036.ft)), (Ft.now (HQ5095)), (Ft.now (HQ5096))⟩ ?_
                                            simp only [List.set_cons_zero, List.set_cons_succ]
                                            obtain ⟨csq5117, _, hKq5117, hcq5117, hinq5117⟩ := Ft.elem HJ5035 hA5113 z74 x5037 (by first | assumption | decide | omega) (by first | assumption | decide | omega) (by decide)
                                            obtain ⟨Aq5117_1, cpq5117_1, rfl, HCq5117_1, HRq5117_1⟩ := k74_openF hKq5117
                                            replace HRq5117_1 : Ft C5039 [0] w5097 (fun w_ => (Kd.int .u8).C w_ Aq5117_1 (rd_T74 l0 x5037).f1.length (rd_T74 l0 x5037).f1) := HRq5117_1
                                            refine al_take 22 140 (.slice Aq5117_1 (rd_T74 l0 x5037).f1.length cpq5117_1) #[true, true, true, true, true, true, true, true, true, true, true, true, true, true, true, true, true, true, true, true, true, true, true, false, false, false] rfl rfl (by kernel_rfl) (fun _ _ _ h_ => h_) (guard_on 12 false 130 rfl rfl rfl) (fun w_ hS_ => xr_load (.pointer (some ((ad5112.add ((x5037 : Int).toNat * 2)).add 1))) (.slice Aq5117_1 (rd_T74 l0 x5037).f1.length cpq5117_1) rfl rfl (load_cell Try.underlying23 rfl (same_cell hS_.2.2.1 hinq5117 (add2_block _ _ _) (hcq5117 1 _ rfl)))) ⟨(Ft.now HJ5035), (Ft.now (HJ5036.ft)), (Ft.now (HQ5095)), (Ft.now (HQ5096))⟩ ?_
                                            simp only [List.set_cons_zero, List.set_cons_succ]
                                            obtain ⟨t5118, A5119, H⟩ := Option.bind_eq_some_iff.mp H
                                            (try dsimp only at H)
                                            refine al_one 23 #[true, true, true, true, true, true, true, true, true, true, true, true, true, true, true, true, true, true, true, true, true, true, true, true, false, false] rfl rfl (by kernel_rfl) (fun K_ hK_ => ?_)
                                            refine goes_ Try.func17 (by kernel_rfl) rfl #[.slice Aq5115_1 (rd_T63 t4629 x5037).f1.length cpq5115_1, .slice Aq5117_1 (rd_T74 l0 x5037).f1.length cpq5117_1] (guard_on 12 false 130 rfl rfl rfl) rfl rfl (by rw [map_ev]; simp only [List.map_toArray, List.map_cons, List.map_nil]; first | done | rfl) ?_
                                            refine (blazonref01_Same.calls k5047 Aq5115_1 cpq5115_1 ((rd_T63 t4629 x5037).f1) Aq5117_1 cpq5117_1 ((rd_T74 l0 x5037).f1) t5118  (fun z_ => pal [(0, 0), (14, 0)] (C5039 z_)) w5097 (fun _ => pal_lt rfl _) (Ft.arg HRq5115_1 rfl) HCq5115_1 (Ft.arg HRq5117_1 rfl) HCq5117_1 A5119).mono ?_
                                            rintro _ w5121 ⟨C5122, rfl, hs5123⟩
                                            refine ⟨_, rfl, ?_⟩
                                            replace hs5123 := Step.lift (U := [(0, 0)]) hs5123 [] rfl rfl
                                            generalize up C5039 C5122 w5097.heap.size [(0, 0)] = C5122_ at hs5123
                                            replace HJ5035 := HJ5035.thru hs5123 rfl
                                            replace HJ5036 := HJ5036.thru hs5123 rfl
                                            replace HQ5095 := HQ5095.thru hs5123 rfl
                                            replace HQ5096 := HQ5096.thru hs5123 rfl
                                            replace HRq5115_1 := HRq5115_1.thru hs5123 rfl
                                            replace HRq5117_1 := HRq5117_1.thru hs5123 rfl
                                            replace HS5042 := HS5042.trans hs5123 hc rfl
                                            refine hK_ _ _ ⟨(Ft.now HJ5035), (Ft.now (HJ5036.ft)), (Ft.now (HQ5095)), (Ft.now (HQ5096))⟩ ?_
                                            clear hK_ K_
                                            (try simp only [Act.put, List.setIfInBounds_toArray, List.set_cons_zero, List.set_cons_succ])
                                            refine al_pure 24 142 (.bool (!t5118)) #[true, true, true, true, true, true, true, true, true, true, true, true, true, true, true, true, true, true, true, true, true, true, true, true, true, false] rfl rfl (by kernel_rfl) (fun _ _ _ h_ => h_) (guard_on 12 false 130 rfl rfl rfl) (fun w_ => xr_un (.bool t5118) (.bool (!t5118)) rfl rfl (by first | rfl | (go_simp; done) | (go_simp; rfl) | (go_simp; exact i64_w _) | (go_simp; exact i32_w _))) ?_
                                            simp only [List.set_cons_zero, List.set_cons_succ]
                                            refine al_pure 25 143 (.bool (!t5118)) #[true, true, true, true, true, true, true, true, true, true, true, true, true, true, true, true, true, true, true, true, true, true, true, true, true, true] rfl rfl (by kernel_rfl) (fun _ _ _ h_ => h_) rfl (fun w_ => xr_pick false (.bool (!t5118)) rfl rfl rfl) ?_
                                            simp only [List.set_cons_zero, List.set_cons_succ]
                                            refine al_end (by kernel_rfl) ?_
                                            (try simp only [Act.put, List.setIfInBounds_toArray, List.set_cons_zero, List.set_cons_succ])
                                            exact hj5082 _ _ _ (!t5118) (fun q_ => List.getD [undef, (g5038 1), (g5038 2), (g5038 3), (g5038 4), (g5038 5), (g5038 6), (g5038 7), (g5038 8), (g5038 9), (g5038 10), (g5038 11), undef, (g5038 13), undef, undef, (g5038 16), (g5038 17), (g5038 18), (g5038 19), (g5038 20), (g5038 21), (g5038 22), (g5038 23), (g5038 24), (g5038 25), (g5038 26), (g5038 27), (g5038 28), (g5038 29), (g5038 30), (g5038 31), (g5038 32), (g5038 33), (g5038 34), (g5038 35), (g5038 36), (g5038 37), (g5038 38), (g5038 39), (g5038 40), (g5038 41), (g5038 42), (g5038 43), (g5038 44), (g5038 45), (g5038 46), (g5038 47), (g5038 48), (g5038 49), (g5038 50), (g5038 51), (g5038 52), (g5038 53), (g5038 54), (g5038 55), (g5038 56), (g5038 57), (g5038 58), (g5038 59), (g5038 60), (g5038 61), (g5038 62), (g5038 63), (g5038 64), (g5038 65), (g5038 66), (g5038 67), (g5038 68), (g5038 69), (g5038 70), (g5038 71), (g5038 72), (g5038 73), (g5038 74), (g5038 75), (g5038 76), (g5038 77), (g5038 78), (g5038 79), (g5038 80), (g5038 81), (g5038 82), (g5038 83), (g5038 84), (g5038 85), (g5038 86), (g5038 87), (g5038 88), (g5038 89), (g5038 90), (g5038 91), (g5038 92), (g5038 93), (g5038 94), (g5038 95), (g5038 96), (g5038 97), (g5038 98), (g5038 99), (g5038 100), (g5038 101), (g5038 102), (g5038 103), (g5038 104), (g5038 105), (g5038 106), (g5038 107), (g5038 108), (g5038 109), (g5038 110), (g5038 111), (g5038 112), .int .i64 x5037, .int .i64 x4790, .bool true, (g5038 116), (g5038 117), .slice A4637 t4629.length cp4638, .int .i64 x5037, .pointer (some ((⟨g5100, 0, none⟩ : Addr).add ((x5037 : Int).toNat * 2))), .pointer (some (((⟨g5100, 0, none⟩ : Addr).add ((x5037 : Int).toNat * 2)).add 0)), .int .i64 ((rd_T63 t4629 x5037).f0), .slice A0 l0.length c0, .int .i64 x5037, .pointer (some (ad5103.add ((x5037 : Int).toNat * 2))), .pointer (some ((ad5103.add ((x5037 : Int).toNat * 2)).add 0)), .int .u8 ((rd_T74 l0 x5037).f0), .int .i64 (wrap64 ((rd_T74 l0 x5037).f0)), .bool false, .bool false, .slice A4637 t4629.length cp4638, .int .i64 x5037, .pointer (some ((⟨g5110, 0, none⟩ : Addr).add ((x5037 : Int).toNat * 2))), .pointer (some (((⟨g5110, 0, none⟩ : Addr).add ((x5037 : Int).toNat * 2)).add 1)), .slice Aq5115_1 (rd_T63 t4629 x5037).f1.length cpq5115_1, .slice A0 l0.length c0, .int .i64 x5037, .pointer (some (ad5112.add ((x5037 : Int).toNat * 2))), .pointer (some ((ad5112.add ((x5037 : Int).toNat * 2)).add 1)), .slice Aq5117_1 (rd_T74 l0 x5037).f1.length cpq5117_1, .bool t5118, .bool (!t5118), undef, (g5038 144)] q_ undef)  HS5042 (by omega) HJ5035 HJ5036 H
                                          · rw [if_neg c5109] at H
                                            (try rw [(decide_eq_false c5109)])
                                            (try simp only [Bool.not_true, Bool.not_false])
                                            refine al_off 13 131 #[true, true, true, true, true, true, true, true, true, true, true, true, true, true, false, false, false, false, false, false, false, false, false, false, false, false] rfl rfl (by kernel_rfl) (fun _ _ _ h_ => h_) (guard_off 12 false 130 rfl rfl true (by decide) rfl) ?_
                                            simp only [List.set_cons_zero, List.set_cons_succ]
                                            refine al_off 14 132 #[true, true, true, true, true, true, true, true, true, true, true, true, true, true, true, false, false, false, false, false, false, false, false, false, false, false] rfl rfl (by kernel_rfl) (fun _ _ _ h_ => h_) (guard_off 12 false 130 rfl rfl true (by decide) rfl) ?_
                                            simp only [List.set_cons_zero, List.set_cons_succ]
                                            refine al_off 15 133 #[true, true, true, true, true, true, true, true, true, true, true, true, true, true, true, true, false, false, false, false, false, false, false, false, false, false] rfl rfl (by kernel_rfl) (fun _ _ _ h_ => h_) (guard_off 12 false 130 rfl rfl true (by decide) rfl) ?_
                                            simp only [List.set_cons_zero, List.set_cons_succ]
                                            refine al_off 16 134 #[true, true, true, true, true, true, true, true, true, true, true, true, true, true, true, true, true, false, false, false, false, false, false, false, false, false] rfl rfl (by kernel_rfl) (fun _ _ _ h_ => h_) (guard_off 12 false 130 rfl rfl true (by decide) rfl) ?_
                                            simp only [List.set_cons_zero, List.set_cons_succ]
                                            refine al_off 17 135 #[true, true, true, true, true, true, true, true, true, true, true, true, true, true, true, true, true, true, false, false, false, false, false, false, false, false] rfl rfl (by kernel_rfl) (fun _ _ _ h_ => h_) (guard_off 12 false 130 rfl rfl true (by decide) rfl) ?_
                                            simp only [List.set_cons_zero, List.set_cons_succ]
                                            refine al_off 18 136 #[true, true, true, true, true, true, true, true, true, true, true, true, true, true, true, true, true, true, true, false, false, false, false, false, false, false] rfl rfl (by kernel_rfl) (fun _ _ _ h_ => h_) (guard_off 12 false 130 rfl rfl true (by decide) rfl) ?_
                                            simp only [List.set_cons_zero, List.set_cons_succ]
                                            refine al_off 19 137 #[true, true, true, true, true, true, true, true, true, true, true, true, true, true, true, true, true, true, true, true, false, false, false, false, false, false] rfl rfl (by kernel_rfl) (fun _ _ _ h_ => h_) (guard_off 12 false 130 rfl rfl true (by decide) rfl) ?_
                                            simp only [List.set_cons_zero, List.set_cons_succ]
                                            refine al_off 20 138 #[true, true, true, true, true, true, true, true, true, true, true, true, true, true, true, true, true, true, true, true, true, false, false, false, false, false] rfl rfl (by kernel_rfl) (fun _ _ _ h_ => h_) (guard_off 12 false 130 rfl rfl true (by decide) rfl) ?_
                                            simp only [List.set_cons_zero, List.set_cons_succ]
                                            refine al_off 21 139 #[true, true, true, true, true, true, true, true, true, true, true, true, true, true, true, true, true, true, true, true, true, true, false, false, false, false] rfl rfl (by kernel_rfl) (fun _ _ _ h_ => h_) (guard_off 12 false 130 rfl rfl true (by decide) rfl) ?_
                                            simp only [List.set_cons_zero, List.set_cons_succ]
                                            refine al_off 22 140 #[true, true, true, true, true, true, true, true, true, true, true, true, true, true, true, true, true, true, true, true, true, true, true, false, false, false] rfl rfl (by kernel_rfl) (fun _ _ _ h_ => h_) (guard_off 12 false 130 rfl rfl true (by decide) rfl) ?_
                                            simp only [List.set_cons_zero, List.set_cons_succ]
                                            refine al_off 23 141 #[true, true, true, true, true, true, true, true, true, true, true, true, true, true, true, true, true, true, true, true, true, true, true, true, false, false] rfl rfl (by kernel_rfl) (fun _ _ _ h_ => h_) (guard_off 12 false 130 rfl rfl true (by decide) rfl) ?_
                                            simp only [List.set_cons_zero, List.set_cons_succ]
                                            refine al_off 24 142 #[true, true, true, true, true, true, true, true, true, true, true, true, true, true, true, true, true, true, true, true, true, true, true, true, true, false] rfl rfl (by kernel_rfl) (fun _ _ _ h_ => h_) (guard_off 12 false 130 rfl rfl true (by decide) rfl) ?_
                                            simp only [List.set_cons_zero, List.set_cons_succ]
                                            refine al_pure 25 143 (.bool true) #[true, true, true, true, true, true, true, true, true, true, true, true, true, true, true, true, true, true, true, true, true, true, true, true, true, true] rfl rfl (by kernel_rfl) (fun _ _ _ h_ => h_) rfl (fun w_ => xr_pick true (.bool true) rfl rfl rfl) ?_
                                            simp only [List.set_cons_zero, List.set_cons_succ]
                                            refine al_end (by kernel_rfl) ?_
                                            (try simp only [Act.put, List.setIfInBounds_toArray, List.set_cons_zero, List.set_cons_succ])
                                            exact hj5082 _ _ _ (true) (fun q_ => List.getD [undef, (g5038 1), (g5038 2), (g5038 3), (g5038 4), (g5038 5), (g5038 6), (g5038 7), (g5038 8), (g5038 9), (g5038 10), (g5038 11), undef, (g5038 13), undef, undef, (g5038 16), (g5038 17), (g5038 18), (g5038 19), (g5038 20), (g5038 21), (g5038 22), (g5038 23), (g5038 24), (g5038 25), (g5038 26), (g5038 27), (g5038 28), (g5038 29), (g5038 30), (g5038 31), (g5038 32), (g5038 33), (g5038 34), (g5038 35), (g5038 36), (g5038 37), (g5038 38), (g5038 39), (g5038 40), (g5038 41), (g5038 42), (g5038 43), (g5038 44), (g5038 45), (g5038 46), (g5038 47), (g5038 48), (g5038 49), (g5038 50), (g5038 51), (g5038 52), (g5038 53), (g5038 54), (g5038 55), (g5038 56), (g5038 57), (g5038 58), (g5038 59), (g5038 60), (g5038 61), (g5038 62), (g5038 63), (g5038 64), (g5038 65), (g5038 66), (g5038 67), (g5038 68), (g5038 69), (g5038 70), (g5038 71), (g5038 72), (g5038 73), (g5038 74), (g5038 75), (g5038 76), (g5038 77), (g5038 78), (g5038 79), (g5038 80), (g5038 81), (g5038 82), (g5038 83), (g5038 84), (g5038 85), (g5038 86), (g5038 87), (g5038 88), (g5038 89), (g5038 90), (g5038 91), (g5038 92), (g5038 93), (g5038 94), (g5038 95), (g5038 96), (g5038 97), (g5038 98), (g5038 99), (g5038 100), (g5038 101), (g5038 102), (g5038 103), (g5038 104), (g5038 105), (g5038 106), (g5038 107), (g5038 108), (g5038 109), (g5038 110), (g5038 111), (g5038 112), .int .i64 x5037, .int .i64 x4790, .bool true, (g5038 116), (g5038 117), .slice A4637 t4629.length cp4638, .int .i64 x5037, .pointer (some ((⟨g5100, 0, none⟩ : Addr).add ((x5037 : Int).toNat * 2))), .pointer (some (((⟨g5100, 0, none⟩ : Addr).add ((x5037 : Int).toNat * 2)).add 0)), .int .i64 ((rd_T63 t4629 x5037).f0), .slice A0 l0.length c0, .int .i64 x5037, .pointer (some (ad5103.add ((x5037 : Int).toNat * 2))), .pointer (some ((ad5103.add ((x5037 : Int).toNat * 2)).add 0)), .int .u8 ((rd_T74 l0 x5037).f0), .int .i64 (wrap64 ((rd_T74 l0 x5037).f0)), .bool true, .bool true, undef, undef, undef, undef, undef, undef, undef, undef, undef, undef, undef, undef, undef, (g5038 144)] q_ undef)  HS5042 (by omega) HJ5035 HJ5036 H
                                        · rw [if_neg c5102] at H
                                          exact absurd H (by simp)
                                      · rw [if_neg c5099] at H
                                        exact absurd H (by simp)
                                    · rw [if_neg c5098] at H
                                      exact absurd H (by simp)
                                  · rw [if_neg c5050] at H
                                    (try rw [(decide_eq_false c5050)])
                                    (try simp only [Bool.not_true, Bool.not_false])
                                    refine wp_cond_false rfl ?_
                                    refine wp_exit ?_
                                    (try simp only [Act.put, List.setIfInBounds_toArray, List.set_cons_zero, List.set_cons_succ])
                                    refine hK4876 _ _ ?_
                                    (try clear hK4876 K4876)
                                    refine wp_seq_k fun K5124 hK5124 => ?_
                                    refine wl_region ?_
                                    obtain ⟨t5125, A5126, H⟩ := Option.bind_eq_some_iff.mp H
                                    (try dsimp only at H)
                                    refine st_call #[] rfl rfl Try.func41 (by kernel_rfl) rfl rfl (by simp only [List.map_toArray, List.map_cons, List.map_nil]; first | done | rfl) ?_
                                    refine (blazonlaw04_awake.calls k5047 t5125  (fun z_ => pal [(0, 0)] (C5039 z_)) w5040 (fun _ => pal_lt rfl _) A5126).mono ?_
                                    rintro _ w5128 ⟨C5129, rfl, hs5130⟩
                                    refine ⟨_, rfl, ?_⟩
                                    replace hs5130 := Step.lift (U := [(0, 0)]) hs5130 [] rfl rfl
                                    generalize up C5039 C5129 w5040.heap.size [(0, 0)] = C5129_ at hs5130
                                    replace HS5042 := HS5042.trans hs5130 hc rfl
                                    (try simp only [Act.put, List.setIfInBounds_toArray, List.set_cons_zero, List.set_cons_succ])
                                    refine st (.bool t5125) rfl rfl (xr_assign (.bool t5125) rfl rfl) ?_
                                    simp only [List.set_cons_zero, List.set_cons_succ]
                                    refine wl_end ?_
                                    (try simp only [Act.put, List.setIfInBounds_toArray, List.set_cons_zero, List.set_cons_succ])
                                    refine hK5124 _ _ ?_
                                    (try clear hK5124 K5124)
                                    refine wp_ret ?_
                                    (try simp only [Exit.inBlock, Exit.then, Exit.noGoto])
                                    (try simp only [Act.put, List.setIfInBounds_toArray, List.set_cons_zero, List.set_cons_succ])
                                    obtain rfl := Option.some.inj H
                                    refine bodyPost_ret (results_tmp rfl _ _ _) rfl ?_
                                    exact ⟨_, rfl, HS5042⟩
                        refine wl_region ?_
                        refine st (.slice A4637 t4629.length cp4638) rfl rfl (xr_move (.slice A4637 t4629.length cp4638) rfl rfl) ?_
                        simp only [List.set_cons_zero, List.set_cons_succ]
                        refine st (.int .i64 (t4629.length : Int)) rfl rfl (xr_builtin #[.slice A4637 t4629.length cp4638] (.int .i64 (t4629.length : Int)) rfl (by simp only [List.map_toArray, List.map_cons, List.map_nil]; first | done | rfl) (by first | rfl | (go_simp; done) | (go_simp; rfl) | (go_simp; exact i64_w _) | (go_simp; exact i32_w _))) ?_
                        simp only [List.set_cons_zero, List.set_cons_succ]
                        refine st (.int .i64 x4790) rfl rfl (xr_move (.int .i64 x4790) rfl rfl) ?_
                        simp only [List.set_cons_zero, List.set_cons_succ]
                        refine st (.bool (!decide ((t4629.length : Int) = x4790))) rfl rfl (xr_bin (.int .i64 (t4629.length : Int)) (.int .i64 x4790) (.bool (!decide ((t4629.length : Int) = x4790))) rfl rfl rfl (B.neq_i64 (t4629.length : Int) x4790)) ?_
                        simp only [List.set_cons_zero, List.set_cons_succ]
                        refine st (.bool (!decide ((t4629.length : Int) = x4790))) rfl rfl (xr_move (.bool (!decide ((t4629.length : Int) = x4790))) rfl rfl) ?_
                        simp only [List.set_cons_zero, List.set_cons_succ]
                        by_cases c5131 : (t4629.length : Int) = x4790
                        · rw [if_pos c5131] at H
                          (try rw [(decide_eq_true c5131)])
                          (try simp only [Bool.not_true, Bool.not_false])
                          refine on_guard (guard_on 4 false 92 rfl rfl rfl) ?_
                          refine st (.int .i64 x4790) rfl rfl (xr_move (.int .i64 x4790) rfl rfl) ?_
                          simp only [List.set_cons_zero, List.set_cons_succ]
                          refine on_guard (guard_on 4 false 92 rfl rfl rfl) ?_
                          refine st (.bool (decide (x4790 > 0))) rfl rfl (xr_bin (.int .i64 x4790) (.int .i64 0) (.bool (decide (x4790 > 0))) rfl rfl rfl (B.gtr_i64 x4790 0)) ?_
                          simp only [List.set_cons_zero, List.set_cons_succ]
                          refine on_guard (guard_on 4 false 92 rfl rfl rfl) ?_
                          refine st (.bool (decide (x4790 > 0))) rfl rfl (xr_move (.bool (decide (x4790 > 0))) rfl rfl) ?_
                          simp only [List.set_cons_zero, List.set_cons_succ]
                          by_cases c5132 : x4790 > 0
                          · rw [if_pos c5132] at H
                            (try rw [(decide_eq_true c5132)])
                            (try simp only [Bool.not_true, Bool.not_false])
                            refine on_guard (guard_on 7 true 95 rfl rfl rfl) ?_
                            refine st (.int .i64 t4630) rfl rfl (xr_move (.int .i64 t4630) rfl rfl) ?_
                            simp only [List.set_cons_zero, List.set_cons_succ]
                            refine on_guard (guard_on 7 true 95 rfl rfl rfl) ?_
                            refine st (.slice A4537 x4536.length cp4539) rfl rfl (xr_move (.slice A4537 x4536.length cp4539) rfl rfl) ?_
                            simp only [List.set_cons_zero, List.set_cons_succ]
                            refine on_guard (guard_on 7 true 95 rfl rfl rfl) ?_
                            refine st (.int .i64 x4790) rfl rfl (xr_move (.int .i64 x4790) rfl rfl) ?_
                            simp only [List.set_cons_zero, List.set_cons_succ]
                            refine on_guard (guard_on 7 true 95 rfl rfl rfl) ?_
                            refine st (.int .i64 (wrap64 (x4790 - 1))) rfl rfl (xr_bin (.int .i64 x4790) (.int .i64 1) (.int .i64 (wrap64 (x4790 - 1))) rfl rfl rfl (B.sub_i64 x4790 1)) ?_
                            simp only [List.set_cons_zero, List.set_cons_succ]
                            refine on_guard (guard_on 7 true 95 rfl rfl rfl) ?_
                            by_cases c5133 : 0 ≤ (wrap64 (x4790 - 1))
                            · rw [if_pos c5133] at H
                              by_cases c5134 : (wrap64 (x4790 - 1)) < (x4536.length : Int)
                              · rw [if_pos c5134] at H
                                obtain ⟨g5135, hA5136⟩ := HJ4812.form (pos_of (j := (wrap64 (x4790 - 1))) (by first | assumption | decide) (by first | assumption | omega))
                                refine st (.pointer (some ((⟨g5135, 0, none⟩ : Addr).add ((wrap64 (x4790 - 1) : Int).toNat * 1)))) rfl rfl (xr_indexAddr (.slice A4537 x4536.length cp4539) (.int .i64 (wrap64 (x4790 - 1))) (.pointer (some ((⟨g5135, 0, none⟩ : Addr).add ((wrap64 (x4790 - 1) : Int).toNat * 1)))) rfl rfl rfl (index_at Try.underlying72 info3 hA5136 (by first | assumption | decide | omega) (by first | assumption | decide | omega))) ?_
                                simp only [List.set_cons_zero, List.set_cons_succ]
                                refine on_guard (guard_on 7 true 95 rfl rfl rfl) ?_
                                refine st (.int .i64 (rd x4536 (wrap64 (x4790 - 1)))) rfl rfl (xr_load (.pointer (some ((⟨g5135, 0, none⟩ : Addr).add ((wrap64 (x4790 - 1) : Int).toNat * 1)))) (.int .i64 (rd x4536 (wrap64 (x4790 - 1)))) rfl rfl (load_int Try.underlying3 rfl hA5136 (Ft.now (HJ4812.ft)) (by first | assumption | decide | omega) (by first | assumption | decide | omega))) ?_
                                simp only [List.set_cons_zero, List.set_cons_succ]
                                refine on_guard (guard_on 7 true 95 rfl rfl rfl) ?_
                                refine st (.bool (!decide (t4630 = (rd x4536 (wrap64 (x4790 - 1)))))) rfl rfl (xr_bin (.int .i64 t4630) (.int .i64 (rd x4536 (wrap64 (x4790 - 1)))) (.bool (!decide (t4630 = (rd x4536 (wrap64 (x4790 - 1)))))) rfl rfl rfl (B.neq_i64 t4630 (rd x4536 (wrap64 (x4790 - 1))))) ?_
                                simp only [List.set_cons_zero, List.set_cons_succ]
                                refine on_guard (guard_on 4 false 92 rfl rfl rfl) ?_
                                refine st (.bool (!decide (t4630 = (rd x4536 (wrap64 (x4790 - 1)))))) rfl rfl (xr_pick true (.bool (!decide (t4630 = (rd x4536 (wrap64 (x4790 - 1)))))) rfl rfl rfl) ?_
                                simp only [List.set_cons_zero, List.set_cons_succ]
                                refine st (.bool (!decide (t4630 = (rd x4536 (wrap64 (x4790 - 1)))))) rfl rfl (xr_pick false (.bool (!decide (t4630 = (rd x4536 (wrap64 (x4790 - 1)))))) rfl rfl rfl) ?_
                                simp only [List.set_cons_zero, List.set_cons_succ]
                                refine st (.bool (!decide (t4630 = (rd x4536 (wrap64 (x4790 - 1)))))) rfl rfl (xr_move (.bool (!decide (t4630 = (rd x4536 (wrap64 (x4790 - 1)))))) rfl rfl) ?_
                                simp only [List.set_cons_zero, List.set_cons_succ]
                                by_cases c5137 : t4630 = (rd x4536 (wrap64 (x4790 - 1)))
                                · rw [if_pos c5137] at H
                                  (try rw [(decide_eq_true c5137)])
                                  (try simp only [Bool.not_true, Bool.not_false])
                                  refine on_guard (guard_on 17 false 105 rfl rfl rfl) ?_
                                  refine st (.int .i64 x4790) rfl rfl (xr_move (.int .i64 x4790) rfl rfl) ?_
                                  simp only [List.set_cons_zero, List.set_cons_succ]
                                  refine on_guard (guard_on 17 false 105 rfl rfl rfl) ?_
                                  refine st (.bool (decide (x4790 = 0))) rfl rfl (xr_bin (.int .i64 x4790) (.int .i64 0) (.bool (decide (x4790 = 0))) rfl rfl rfl (B.eql_i64 x4790 0)) ?_
                                  simp only [List.set_cons_zero, List.set_cons_succ]
                                  refine on_guard (guard_on 17 false 105 rfl rfl rfl) ?_
                                  refine st (.bool (decide (x4790 = 0))) rfl rfl (xr_move (.bool (decide (x4790 = 0))) rfl rfl) ?_
                                  simp only [List.set_cons_zero, List.set_cons_succ]
                                  by_cases c5138 : x4790 = 0
                                  · rw [if_pos c5138] at H
                                    (try rw [(decide_eq_true c5138)])
                                    (try simp only [Bool.not_true, Bool.not_false])
                                    refine on_guard (guard_on 20 true 108 rfl rfl rfl) ?_
                                    refine st (.int .i64 t4630) rfl rfl (xr_move (.int .i64 t4630) rfl rfl) ?_
                                    simp only [List.set_cons_zero, List.set_cons_succ]
                                    refine on_guard (guard_on 20 true 108 rfl rfl rfl) ?_
                                    refine st (.bool (!decide (t4630 = 0))) rfl rfl (xr_bin (.int .i64 t4630) (.int .i64 0) (.bool (!decide (t4630 = 0))) rfl rfl rfl (B.neq_i64 t4630 0)) ?_
                                    simp only [List.set_cons_zero, List.set_cons_succ]
                                    refine on_guard (guard_on 17 false 105 rfl rfl rfl) ?_
                                    refine st (.bool (!decide (t4630 = 0))) rfl rfl (xr_pick true (.bool (!decide (t4630 = 0))) rfl rfl rfl) ?_
                                    simp only [List.set_cons_zero, List.set_cons_succ]
                                    refine st (.bool (!decide (t4630 = 0))) rfl rfl (xr_pick false (.bool (!decide (t4630 = 0))) rfl rfl rfl) ?_
                                    simp only [List.set_cons_zero, List.set_cons_succ]
                                    refine wl_end ?_
                                    (try simp only [Act.put, List.setIfInBounds_toArray, List.set_cons_zero, List.set_cons_succ])
                                    exact hj4863 _ _ _ (!decide (t4630 = 0)) (fun q_ => List.getD [undef, (g4815 1), (g4815 2), (g4815 3), (g4815 4), (g4815 5), (g4815 6), .slice A4537 x4536.length cp4539, (g4815 8), (g4815 9), (g4815 10), .int .i64 t4612, undef, .int .i64 t4630, undef, (g4815 15), (g4815 16), (g4815 17), (g4815 18), (g4815 19), (g4815 20), (g4815 21), (g4815 22), (g4815 23), (g4815 24), (g4815 25), (g4815 26), (g4815 27), (g4815 28), (g4815 29), (g4815 30), (g4815 31), (g4815 32), (g4815 33), (g4815 34), (g4815 35), (g4815 36), (g4815 37), (g4815 38), (g4815 39), (g4815 40), (g4815 41), (g4815 42), (g4815 43), (g4815 44), (g4815 45), (g4815 46), (g4815 47), (g4815 48), (g4815 49), (g4815 50), (g4815 51), (g4815 52), (g4815 53), (g4815 54), (g4815 55), (g4815 56), (g4815 57), (g4815 58), (g4815 59), (g4815 60), (g4815 61), (g4815 62), (g4815 63), (g4815 64), (g4815 65), (g4815 66), (g4815 67), (g4815 68), (g4815 69), (g4815 70), (g4815 71), (g4815 72), (g4815 73), (g4815 74), (g4815 75), (g4815 76), (g4815 77), (g4815 78), (g4815 79), (g4815 80), (g4815 81), (g4815 82), (g4815 83), (g4815 84), .bool false, (g4815 86), (g4815 87), .slice A4637 t4629.length cp4638, .int .i64 (t4629.length : Int), .int .i64 x4790, .bool false, .bool false, .int .i64 x4790, .bool true, .bool true, .int .i64 t4630, .slice A4537 x4536.length cp4539, .int .i64 x4790, .int .i64 (wrap64 (x4790 - 1)), .pointer (some ((⟨g5135, 0, none⟩ : Addr).add ((wrap64 (x4790 - 1) : Int).toNat * 1))), .int .i64 (rd x4536 (wrap64 (x4790 - 1))), .bool false, .bool false, .bool false, .bool false, .int .i64 x4790, .bool true, .bool true, .int .i64 t4630, .bool (!decide (t4630 = 0)), .bool (!decide (t4630 = 0)), undef, (g4815 113), (g4815 114), (g4815 115), (g4815 116), (g4815 117), (g4815 118), (g4815 119), (g4815 120), (g4815 121), (g4815 122), (g4815 123), (g4815 124), (g4815 125), (g4815 126), (g4815 127), (g4815 128), (g4815 129), (g4815 130), (g4815 131), (g4815 132), (g4815 133), (g4815 134), (g4815 135), (g4815 136), (g4815 137), (g4815 138), (g4815 139), (g4815 140), (g4815 141), (g4815 142), (g4815 143), (g4815 144)] q_ undef)  HS4810 (by omega) HJ4811 HJ4813 H
                                  · rw [if_neg c5138] at H
                                    (try rw [(decide_eq_false c5138)])
                                    (try simp only [Bool.not_true, Bool.not_false])
                                    refine sk_guard (guard_off 20 true 108 rfl rfl false (by decide) rfl) rfl ?_
                                    simp only [List.set_cons_zero, List.set_cons_succ]
                                    refine sk_guard (guard_off 20 true 108 rfl rfl false (by decide) rfl) rfl ?_
                                    simp only [List.set_cons_zero, List.set_cons_succ]
                                    refine on_guard (guard_on 17 false 105 rfl rfl rfl) ?_
                                    refine st (.bool false) rfl rfl (xr_pick false (.bool false) rfl rfl rfl) ?_
                                    simp only [List.set_cons_zero, List.set_cons_succ]
                                    refine st (.bool false) rfl rfl (xr_pick false (.bool false) rfl rfl rfl) ?_
                                    simp only [List.set_cons_zero, List.set_cons_succ]
                                    refine wl_end ?_
                                    (try simp only [Act.put, List.setIfInBounds_toArray, List.set_cons_zero, List.set_cons_succ])
                                    exact hj4863 _ _ _ (false) (fun q_ => List.getD [undef, (g4815 1), (g4815 2), (g4815 3), (g4815 4), (g4815 5), (g4815 6), .slice A4537 x4536.length cp4539, (g4815 8), (g4815 9), (g4815 10), .int .i64 t4612, undef, .int .i64 t4630, undef, (g4815 15), (g4815 16), (g4815 17), (g4815 18), (g4815 19), (g4815 20), (g4815 21), (g4815 22), (g4815 23), (g4815 24), (g4815 25), (g4815 26), (g4815 27), (g4815 28), (g4815 29), (g4815 30), (g4815 31), (g4815 32), (g4815 33), (g4815 34), (g4815 35), (g4815 36), (g4815 37), (g4815 38), (g4815 39), (g4815 40), (g4815 41), (g4815 42), (g4815 43), (g4815 44), (g4815 45), (g4815 46), (g4815 47), (g4815 48), (g4815 49), (g4815 50), (g4815 51), (g4815 52), (g4815 53), (g4815 54), (g4815 55), (g4815 56), (g4815 57), (g4815 58), (g4815 59), (g4815 60), (g4815 61), (g4815 62), (g4815 63), (g4815 64), (g4815 65), (g4815 66), (g4815 67), (g4815 68), (g4815 69), (g4815 70), (g4815 71), (g4815 72), (g4815 73), (g4815 74), (g4815 75), (g4815 76), (g4815 77), (g4815 78), (g4815 79), (g4815 80), (g4815 81), (g4815 82), (g4815 83), (g4815 84), .bool false, (g4815 86), (g4815 87), .slice A4637 t4629.length cp4638, .int .i64 (t4629.length : Int), .int .i64 x4790, .bool false, .bool false, .int .i64 x4790, .bool true, .bool true, .int .i64 t4630, .slice A4537 x4536.length cp4539, .int .i64 x4790, .int .i64 (wrap64 (x4790 - 1)), .pointer (some ((⟨g5135, 0, none⟩ : Addr).add ((wrap64 (x4790 - 1) : Int).toNat * 1))), .int .i64 (rd x4536 (wrap64 (x4790 - 1))), .bool false, .bool false, .bool false, .bool false, .int .i64 x4790, .bool false, .bool false, undef, undef, .bool false, undef, (g4815 113), (g4815 114), (g4815 115), (g4815 116), (g4815 117), (g4815 118), (g4815 119), (g4815 120), (g4815 121), (g4815 122), (g4815 123), (g4815 124), (g4815 125), (g4815 126), (g4815 127), (g4815 128), (g4815 129), (g4815 130), (g4815 131), (g4815 132), (g4815 133), (g4815 134), (g4815 135), (g4815 136), (g4815 137), (g4815 138), (g4815 139), (g4815 140), (g4815 141), (g4815 142), (g4815 143), (g4815 144)] q_ undef)  HS4810 (by omega) HJ4811 HJ4813 H
                                · rw [if_neg c5137] at H
                                  (try rw [(decide_eq_false c5137)])
                                  (try simp only [Bool.not_true, Bool.not_false])
                                  refine sk_guard (guard_off 17 false 105 rfl rfl true (by decide) rfl) rfl ?_
                                  simp only [List.set_cons_zero, List.set_cons_succ]
                                  refine sk_guard (guard_off 17 false 105 rfl rfl true (by decide) rfl) rfl ?_
                                  simp only [List.set_cons_zero, List.set_cons_succ]
                                  refine sk_guard (guard_off 17 false 105 rfl rfl true (by decide) rfl) rfl ?_
                                  simp only [List.set_cons_zero, List.set_cons_succ]
                                  refine sk_guard (guard_und 20 true 108 rfl rfl rfl) rfl ?_
                                  simp only [List.set_cons_zero, List.set_cons_succ]
                                  refine sk_guard (guard_und 20 true 108 rfl rfl rfl) rfl ?_
                                  simp only [List.set_cons_zero, List.set_cons_succ]
                                  refine sk_guard (guard_off 17 false 105 rfl rfl true (by decide) rfl) rfl ?_
                                  simp only [List.set_cons_zero, List.set_cons_succ]
                                  refine st (.bool true) rfl rfl (xr_pick true (.bool true) rfl rfl rfl) ?_
                                  simp only [List.set_cons_zero, List.set_cons_succ]
                                  refine wl_end ?_
                                  (try simp only [Act.put, List.setIfInBounds_toArray, List.set_cons_zero, List.set_cons_succ])
                                  exact hj4863 _ _ _ (true) (fun q_ => List.getD [undef, (g4815 1), (g4815 2), (g4815 3), (g4815 4), (g4815 5), (g4815 6), .slice A4537 x4536.length cp4539, (g4815 8), (g4815 9), (g4815 10), .int .i64 t4612, undef, .int .i64 t4630, undef, (g4815 15), (g4815 16), (g4815 17), (g4815 18), (g4815 19), (g4815 20), (g4815 21), (g4815 22), (g4815 23), (g4815 24), (g4815 25), (g4815 26), (g4815 27), (g4815 28), (g4815 29), (g4815 30), (g4815 31), (g4815 32), (g4815 33), (g4815 34), (g4815 35), (g4815 36), (g4815 37), (g4815 38), (g4815 39), (g4815 40), (g4815 41), (g4815 42), (g4815 43), (g4815 44), (g4815 45), (g4815 46), (g4815 47), (g4815 48), (g4815 49), (g4815 50), (g4815 51), (g4815 52), (g4815 53), (g4815 54), (g4815 55), (g4815 56), (g4815 57), (g4815 58), (g4815 59), (g4815 60), (g4815 61), (g4815 62), (g4815 63), (g4815 64), (g4815 65), (g4815 66), (g4815 67), (g4815 68), (g4815 69), (g4815 70), (g4815 71), (g4815 72), (g4815 73), (g4815 74), (g4815 75), (g4815 76), (g4815 77), (g4815 78), (g4815 79), (g4815 80), (g4815 81), (g4815 82), (g4815 83), (g4815 84), .bool false, (g4815 86), (g4815 87), .slice A4637 t4629.length cp4638, .int .i64 (t4629.length : Int), .int .i64 x4790, .bool false, .bool false, .int .i64 x4790, .bool true, .bool true, .int .i64 t4630, .slice A4537 x4536.length cp4539, .int .i64 x4790, .int .i64 (wrap64 (x4790 - 1)), .pointer (some ((⟨g5135, 0, none⟩ : Addr).add ((wrap64 (x4790 - 1) : Int).toNat * 1))), .int .i64 (rd x4536 (wrap64 (x4790 - 1))), .bool true, .bool true, .bool true, .bool true, undef, undef, undef, undef, undef, undef, undef, (g4815 113), (g4815 114), (g4815 115), (g4815 116), (g4815 117), (g4815 118), (g4815 119), (g4815 120), (g4815 121), (g4815 122), (g4815 123), (g4815 124), (g4815 125), (g4815 126), (g4815 127), (g4815 128), (g4815 129), (g4815 130), (g4815 131), (g4815 132), (g4815 133), (g4815 134), (g4815 135), (g4815 136), (g4815 137), (g4815 138), (g4815 139), (g4815 140), (g4815 141), (g4815 142), (g4815 143), (g4815 144)] q_ undef)  HS4810 (by omega) HJ4811 HJ4813 H
                              · rw [if_neg c5134] at H
                                exact absurd H (by simp)
                            · rw [if_neg c5133] at H
                              exact absurd H (by simp)
                          · rw [if_neg c5132] at H
                            (try rw [(decide_eq_false c5132)])
                            (try simp only [Bool.not_true, Bool.not_false])
                            refine sk_guard (guard_off 7 true 95 rfl rfl false (by decide) rfl) rfl ?_
                            simp only [List.set_cons_zero, List.set_cons_succ]
                            refine sk_guard (guard_off 7 true 95 rfl rfl false (by decide) rfl) rfl ?_
                            simp only [List.set_cons_zero, List.set_cons_succ]
                            refine sk_guard (guard_off 7 true 95 rfl rfl false (by decide) rfl) rfl ?_
                            simp only [List.set_cons_zero, List.set_cons_succ]
                            refine sk_guard (guard_off 7 true 95 rfl rfl false (by decide) rfl) rfl ?_
                            simp only [List.set_cons_zero, List.set_cons_succ]
                            refine sk_guard (guard_off 7 true 95 rfl rfl false (by decide) rfl) rfl ?_
                            simp only [List.set_cons_zero, List.set_cons_succ]
                            refine sk_guard (guard_off 7 true 95 rfl rfl false (by decide) rfl) rfl ?_
                            simp only [List.set_cons_zero, List.set_cons_succ]
                            refine sk_guard (guard_off 7 true 95 rfl rfl false (by decide) rfl) rfl ?_
                            simp only [List.set_cons_zero, List.set_cons_succ]
                            refine on_guard (guard_on 4 false 92 rfl rfl rfl) ?_
                            refine st (.bool false) rfl rfl (xr_pick false (.bool false) rfl rfl rfl) ?_
                            simp only [List.set_cons_zero, List.set_cons_succ]
                            refine st (.bool false) rfl rfl (xr_pick false (.bool false) rfl rfl rfl) ?_
                            simp only [List.set_cons_zero, List.set_cons_succ]
                            refine st (.bool false) rfl rfl (xr_move (.bool false) rfl rfl) ?_
                            simp only [List.set_cons_zero, List.set_cons_succ]
                            refine on_guard (guard_on 17 false 105 rfl rfl rfl) ?_
                            refine st (.int .i64 x4790) rfl rfl (xr_move (.int .i64 x4790) rfl rfl) ?_
                            simp only [List.set_cons_zero, List.set_cons_succ]
                            refine on_guard (guard_on 17 false 105 rfl rfl rfl) ?_
                            refine st (.bool (decide (x4790 = 0))) rfl rfl (xr_bin (.int .i64 x4790) (.int .i64 0) (.bool (decide (x4790 = 0))) rfl rfl rfl (B.eql_i64 x4790 0)) ?_
                            simp only [List.set_cons_zero, List.set_cons_succ]
                            refine on_guard (guard_on 17 false 105 rfl rfl rfl) ?_
                            refine st (.bool (decide (x4790 = 0))) rfl rfl (xr_move (.bool (decide (x4790 = 0))) rfl rfl) ?_
                            simp only [List.set_cons_zero, List.set_cons_succ]
                            by_cases c5139 : x4790 = 0
                            · rw [if_pos c5139] at H
                              (try rw [(decide_eq_true c5139)])
                              (try simp only [Bool.not_true, Bool.not_false])
                              refine on_guard (guard_on 20 true 108 rfl rfl rfl) ?_
                              refine st (.int .i64 t4630) rfl rfl (xr_move (.int .i64 t4630) rfl rfl) ?_
                              simp only [List.set_cons_zero, List.set_cons_succ]
                              refine on_guard (guard_on 20 true 108 rfl rfl rfl) ?_
                              refine st (.bool (!decide (t4630 = 0))) rfl rfl (xr_bin (.int .i64 t4630) (.int .i64 0) (.bool (!decide (t4630 = 0))) rfl rfl rfl (B.neq_i64 t4630 0)) ?_
                              simp only [List.set_cons_zero, List.set_cons_succ]
                              refine on_guard (guard_on 17 false 105 rfl rfl rfl) ?_
                              refine st (.bool (!decide (t4630 = 0))) rfl rfl (xr_pick true (.bool (!decide (t4630 = 0))) rfl rfl rfl) ?_
                              simp only [List.set_cons_zero, List.set_cons_succ]
                              refine st (.bool (!decide (t4630 = 0))) rfl rfl (xr_pick false (.bool (!decide (t4630 = 0))) rfl rfl rfl) ?_
                              simp only [List.set_cons_zero, List.set_cons_succ]
                              refine wl_end ?_
                              (try simp only [Act.put, List.setIfInBounds_toArray, List.set_cons_zero, List.set_cons_succ])
                              exact hj4863 _ _ _ (!decide (t4630 = 0)) (fun q_ => List.getD [undef, (g4815 1), (g4815 2), (g4815 3), (g4815 4), (g4815 5), (g4815 6), .slice A4537 x4536.length cp4539, (g4815 8), (g4815 9), (g4815 10), .int .i64 t4612, undef, .int .i64 t4630, undef, (g4815 15), (g4815 16), (g4815 17), (g4815 18), (g4815 19), (g4815 20), (g4815 21), (g4815 22), (g4815 23), (g4815 24), (g4815 25), (g4815 26), (g4815 27), (g4815 28), (g4815 29), (g4815 30), (g4815 31), (g4815 32), (g4815 33), (g4815 34), (g4815 35), (g4815 36), (g4815 37), (g4815 38), (g4815 39), (g4815 40), (g4815 41), (g4815 42), (g4815 43), (g4815 44), (g4815 45), (g4815 46), (g4815 47), (g4815 48), (g4815 49), (g4815 50), (g4815 51), (g4815 52), (g4815 53), (g4815 54), (g4815 55), (g4815 56), (g4815 57), (g4815 58), (g4815 59), (g4815 60), (g4815 61), (g4815 62), (g4815 63), (g4815 64), (g4815 65), (g4815 66), (g4815 67), (g4815 68), (g4815 69), (g4815 70), (g4815 71), (g4815 72), (g4815 73), (g4815 74), (g4815 75), (g4815 76), (g4815 77), (g4815 78), (g4815 79), (g4815 80), (g4815 81), (g4815 82), (g4815 83), (g4815 84), .bool false, (g4815 86), (g4815 87), .slice A4637 t4629.length cp4638, .int .i64 (t4629.length : Int), .int .i64 x4790, .bool false, .bool false, .int .i64 x4790, .bool false, .bool false, undef, undef, undef, undef, undef, undef, undef, .bool false, .bool false, .bool false, .int .i64 x4790, .bool true, .bool true, .int .i64 t4630, .bool (!decide (t4630 = 0)), .bool (!decide (t4630 = 0)), undef, (g4815 113), (g4815 114), (g4815 115), (g4815 116), (g4815 117), (g4815 118), (g4815 119), (g4815 120), (g4815 121), (g4815 122), (g4815 123), (g4815 124), (g4815 125), (g4815 126), (g4815 127), (g4815 128), (g4815 129), (g4815 130), (g4815 131), (g4815 132), (g4815 133), (g4815 134), (g4815 135), (g4815 136), (g4815 137), (g4815 138), (g4815 139), (g4815 140), (g4815 141), (g4815 142), (g4815 143), (g4815 144)] q_ undef)  HS4810 (by omega) HJ4811 HJ4813 H
                            · rw [if_neg c5139] at H
                              (try rw [(decide_eq_false c5139)])
                              (try simp only [Bool.not_true, Bool.not_false])
                              refine sk_guard (guard_off 20 true 108 rfl rfl false (by decide) rfl) rfl ?_
                              simp only [List.set_cons_zero, List.set_cons_succ]
                              refine sk_guard (guard_off 20 true 108 rfl rfl false (by decide) rfl) rfl ?_
                              simp only [List.set_cons_zero, List.set_cons_succ]
                              refine on_guard (guard_on 17 false 105 rfl rfl rfl) ?_
                              refine st (.bool false) rfl rfl (xr_pick false (.bool false) rfl rfl rfl) ?_
                              simp only [List.set_cons_zero, List.set_cons_succ]
                              refine st (.bool false) rfl rfl (xr_pick false (.bool false) rfl rfl rfl) ?_
                              simp only [List.set_cons_zero, List.set_cons_succ]
                              refine wl_end ?_
                              (try simp only [Act.put, List.setIfInBounds_toArray, List.set_cons_zero, List.set_cons_succ])
                              exact hj4863 _ _ _ (false) (fun q_ => List.getD [undef, (g4815 1), (g4815 2), (g4815 3), (g4815 4), (g4815 5), (g4815 6), .slice A4537 x4536.length cp4539, (g4815 8), (g4815 9), (g4815 10), .int .i64 t4612, undef, .int .i64 t4630, undef, (g4815 15), (g4815 16), (g4815 17), (g4815 18), (g4815 19), (g4815 20), (g4815 21), (g4815 22), (g4815 23), (g4815 24), (g4815 25), (g4815 26), (g4815 27), (g4815 28), (g4815 29), (g4815 30), (g4815 31), (g4815 32), (g4815 33), (g4815 34), (g4815 35), (g4815 36), (g4815 37), (g4815 38), (g4815 39), (g4815 40), (g4815 41), (g4815 42), (g4815 43), (g4815 44), (g4815 45), (g4815 46), (g4815 47), (g4815 48), (g4815 49), (g4815 50), (g4815 51), (g4815 52), (g4815 53), (g4815 54), (g4815 55), (g4815 56), (g4815 57), (g4815 58), (g4815 59), (g4815 60), (g4815 61), (g4815 62), (g4815 63), (g4815 64), (g4815 65), (g4815 66), (g4815 67), (g4815 68), (g4815 69), (g4815 70), (g4815 71), (g4815 72), (g4815 73), (g4815 74), (g4815 75), (g4815 76), (g4815 77), (g4815 78), (g4815 79), (g4815 80), (g4815 81), (g4815 82), (g4815 83), (g4815 84), .bool false, (g4815 86), (g4815 87), .slice A4637 t4629.length cp4638, .int .i64 (t4629.length : Int), .int .i64 x4790, .bool false, .bool false, .int .i64 x4790, .bool false, .bool false, undef, undef, undef, undef, undef, undef, undef, .bool false, .bool false, .bool false, .int .i64 x4790, .bool false, .bool false, undef, undef, .bool false, undef, (g4815 113), (g4815 114), (g4815 115), (g4815 116), (g4815 117), (g4815 118), (g4815 119), (g4815 120), (g4815 121), (g4815 122), (g4815 123), (g4815 124), (g4815 125), (g4815 126), (g4815 127), (g4815 128), (g4815 129), (g4815 130), (g4815 131), (g4815 132), (g4815 133), (g4815 134), (g4815 135), (g4815 136), (g4815 137), (g4815 138), (g4815 139), (g4815 140), (g4815 141), (g4815 142), (g4815 143), (g4815 144)] q_ undef)  HS4810 (by omega) HJ4811 HJ4813 H
                        · rw [if_neg c5131] at H
                          (try rw [(decide_eq_false c5131)])
                          (try simp only [Bool.not_true, Bool.not_false])
                          refine sk_guard (guard_off 4 false 92 rfl rfl true (by decide) rfl) rfl ?_
                          simp only [List.set_cons_zero, List.set_cons_succ]
                          refine sk_guard (guard_off 4 false 92 rfl rfl true (by decide) rfl) rfl ?_
                          simp only [List.set_cons_zero, List.set_cons_succ]
                          refine sk_guard (guard_off 4 false 92 rfl rfl true (by decide) rfl) rfl ?_
                          simp only [List.set_cons_zero, List.set_cons_succ]
                          refine sk_guard (guard_und 7 true 95 rfl rfl rfl) rfl ?_
                          simp only [List.set_cons_zero, List.set_cons_succ]
                          refine sk_guard (guard_und 7 true 95 rfl rfl rfl) rfl ?_
                          simp only [List.set_cons_zero, List.set_cons_succ]
                          refine sk_guard (guard_und 7 true 95 rfl rfl rfl) rfl ?_
                          simp only [List.set_cons_zero, List.set_cons_succ]
                          refine sk_guard (guard_und 7 true 95 rfl rfl rfl) rfl ?_
                          simp only [List.set_cons_zero, List.set_cons_succ]
                          refine sk_guard (guard_und 7 true 95 rfl rfl rfl) rfl ?_
                          simp only [List.set_cons_zero, List.set_cons_succ]
                          refine sk_guard (guard_und 7 true 95 rfl rfl rfl) rfl ?_
                          simp only [List.set_cons_zero, List.set_cons_succ]
                          refine sk_guard (guard_und 7 true 95 rfl rfl rfl) rfl ?_
                          simp only [List.set_cons_zero, List.set_cons_succ]
                          refine sk_guard (guard_off 4 false 92 rfl rfl true (by decide) rfl) rfl ?_
                          simp only [List.set_cons_zero, List.set_cons_succ]
                          refine st (.bool true) rfl rfl (xr_pick true (.bool true) rfl rfl rfl) ?_
                          simp only [List.set_cons_zero, List.set_cons_succ]
                          refine st (.bool true) rfl rfl (xr_move (.bool true) rfl rfl) ?_
                          simp only [List.set_cons_zero, List.set_cons_succ]
                          refine sk_guard (guard_off 17 false 105 rfl rfl true (by decide) rfl) rfl ?_
                          simp only [List.set_cons_zero, List.set_cons_succ]
                          refine sk_guard (guard_off 17 false 105 rfl rfl true (by decide) rfl) rfl ?_
                          simp only [List.set_cons_zero, List.set_cons_succ]
                          refine sk_guard (guard_off 17 false 105 rfl rfl true (by decide) rfl) rfl ?_
                          simp only [List.set_cons_zero, List.set_cons_succ]
                          refine sk_guard (guard_und 20 true 108 rfl rfl rfl) rfl ?_
                          simp only [List.set_cons_zero, List.set_cons_succ]
                          refine sk_guard (guard_und 20 true 108 rfl rfl rfl) rfl ?_
                          simp only [List.set_cons_zero, List.set_cons_succ]
                          refine sk_guard (guard_off 17 false 105 rfl rfl true (by decide) rfl) rfl ?_
                          simp only [List.set_cons_zero, List.set_cons_succ]
                          refine st (.bool true) rfl rfl (xr_pick true (.bool true) rfl rfl rfl) ?_
                          simp only [List.set_cons_zero, List.set_cons_succ]
                          refine wl_end ?_
                          (try simp only [Act.put, List.setIfInBounds_toArray, List.set_cons_zero, List.set_cons_succ])
                          exact hj4863 _ _ _ (true) (fun q_ => List.getD [undef, (g4815 1), (g4815 2), (g4815 3), (g4815 4), (g4815 5), (g4815 6), .slice A4537 x4536.length cp4539, (g4815 8), (g4815 9), (g4815 10), .int .i64 t4612, undef, .int .i64 t4630, undef, (g4815 15), (g4815 16), (g4815 17), (g4815 18), (g4815 19), (g4815 20), (g4815 21), (g4815 22), (g4815 23), (g4815 24), (g4815 25), (g4815 26), (g4815 27), (g4815 28), (g4815 29), (g4815 30), (g4815 31), (g4815 32), (g4815 33), (g4815 34), (g4815 35), (g4815 36), (g4815 37), (g4815 38), (g4815 39), (g4815 40), (g4815 41), (g4815 42), (g4815 43), (g4815 44), (g4815 45), (g4815 46), (g4815 47), (g4815 48), (g4815 49), (g4815 50), (g4815 51), (g4815 52), (g4815 53), (g4815 54), (g4815 55), (g4815 56), (g4815 57), (g4815 58), (g4815 59), (g4815 60), (g4815 61), (g4815 62), (g4815 63), (g4815 64), (g4815 65), (g4815 66), (g4815 67), (g4815 68), (g4815 69), (g4815 70), (g4815 71), (g4815 72), (g4815 73), (g4815 74), (g4815 75), (g4815 76), (g4815 77), (g4815 78), (g4815 79), (g4815 80), (g4815 81), (g4815 82), (g4815 83), (g4815 84), .bool false, (g4815 86), (g4815 87), .slice A4637 t4629.length cp4638, .int .i64 (t4629.length : Int), .int .i64 x4790, .bool true, .bool true, undef, undef, undef, undef, undef, undef, undef, undef, undef, undef, undef, .bool true, .bool true, undef, undef, undef, undef, undef, undef, undef, (g4815 113), (g4815 114), (g4815 115), (g4815 116), (g4815 117), (g4815 118), (g4815 119), (g4815 120), (g4815 121), (g4815 122), (g4815 123), (g4815 124), (g4815 125), (g4815 126), (g4815 127), (g4815 128), (g4815 129), (g4815 130), (g4815 131), (g4815 132), (g4815 133), (g4815 134), (g4815 135), (g4815 136), (g4815 137), (g4815 138), (g4815 139), (g4815 140), (g4815 141), (g4815 142), (g4815 143), (g4815 144)] q_ undef)  HS4810 (by omega) HJ4811 HJ4813 H
                  refine wl_region ?_
                  refine st (.int .i64 x4790) rfl rfl (xr_move (.int .i64 x4790) rfl rfl) ?_
                  simp only [List.set_cons_zero, List.set_cons_succ]
                  refine st (.slice A4537 x4536.length cp4539) rfl rfl (xr_move (.slice A4537 x4536.length cp4539) rfl rfl) ?_
                  simp only [List.set_cons_zero, List.set_cons_succ]
                  refine st (.int .i64 (x4536.length : Int)) rfl rfl (xr_builtin #[.slice A4537 x4536.length cp4539] (.int .i64 (x4536.length : Int)) rfl (by simp only [List.map_toArray, List.map_cons, List.map_nil]; first | done | rfl) (by first | rfl | (go_simp; done) | (go_simp; rfl) | (go_simp; exact i64_w _) | (go_simp; exact i32_w _))) ?_
                  simp only [List.set_cons_zero, List.set_cons_succ]
                  refine st (.bool (decide (x4790 < (x4536.length : Int)))) rfl rfl (xr_bin (.int .i64 x4790) (.int .i64 (x4536.length : Int)) (.bool (decide (x4790 < (x4536.length : Int)))) rfl rfl rfl (B.lss_i64 x4790 (x4536.length : Int))) ?_
                  simp only [List.set_cons_zero, List.set_cons_succ]
                  refine st (.bool (decide (x4790 < (x4536.length : Int)))) rfl rfl (xr_move (.bool (decide (x4790 < (x4536.length : Int)))) rfl rfl) ?_
                  simp only [List.set_cons_zero, List.set_cons_succ]
                  by_cases c5140 : x4790 < (x4536.length : Int)
                  · rw [if_pos c5140] at H
                    (try rw [(decide_eq_true c5140)])
                    (try simp only [Bool.not_true, Bool.not_false])
                    refine on_guard (guard_on 4 true 78 rfl rfl rfl) ?_
                    refine st (.slice A4537 x4536.length cp4539) rfl rfl (xr_move (.slice A4537 x4536.length cp4539) rfl rfl) ?_
                    simp only [List.set_cons_zero, List.set_cons_succ]
                    refine on_guard (guard_on 4 true 78 rfl rfl rfl) ?_
                    refine st (.int .i64 x4790) rfl rfl (xr_move (.int .i64 x4790) rfl rfl) ?_
                    simp only [List.set_cons_zero, List.set_cons_succ]
                    refine on_guard (guard_on 4 true 78 rfl rfl rfl) ?_
                    by_cases c5141 : 0 ≤ x4790
                    · rw [if_pos c5141] at H
                      obtain ⟨g5142, hA5143⟩ := HJ4788.form (pos_of (j := x4790) (by first | assumption | decide) (by first | assumption | omega))
                      refine st (.pointer (some ((⟨g5142, 0, none⟩ : Addr).add ((x4790 : Int).toNat * 1)))) rfl rfl (xr_indexAddr (.slice A4537 x4536.length cp4539) (.int .i64 x4790) (.pointer (some ((⟨g5142, 0, none⟩ : Addr).add ((x4790 : Int).toNat * 1)))) rfl rfl rfl (index_at Try.underlying72 info3 hA5143 (by first | assumption | decide | omega) (by first | assumption | decide | omega))) ?_
                      simp only [List.set_cons_zero, List.set_cons_succ]
                      refine on_guard (guard_on 4 true 78 rfl rfl rfl) ?_
                      refine st (.int .i64 (rd x4536 x4790)) rfl rfl (xr_load (.pointer (some ((⟨g5142, 0, none⟩ : Addr).add ((x4790 : Int).toNat * 1)))) (.int .i64 (rd x4536 x4790)) rfl rfl (load_int Try.underlying3 rfl hA5143 (Ft.now (HJ4788.ft)) (by first | assumption | decide | omega) (by first | assumption | decide | omega))) ?_
                      simp only [List.set_cons_zero, List.set_cons_succ]
                      refine on_guard (guard_on 4 true 78 rfl rfl rfl) ?_
                      refine st (.int .i64 t4612) rfl rfl (xr_move (.int .i64 t4612) rfl rfl) ?_
                      simp only [List.set_cons_zero, List.set_cons_succ]
                      refine on_guard (guard_on 4 true 78 rfl rfl rfl) ?_
                      refine st (.bool (decide ((rd x4536 x4790) ≤ t4612))) rfl rfl (xr_bin (.int .i64 (rd x4536 x4790)) (.int .i64 t4612) (.bool (decide ((rd x4536 x4790) ≤ t4612))) rfl rfl rfl (B.leq_i64 (rd x4536 x4790) t4612)) ?_
                      simp only [List.set_cons_zero, List.set_cons_succ]
                      refine st (.bool (decide ((rd x4536 x4790) ≤ t4612))) rfl rfl (xr_pick true (.bool (decide ((rd x4536 x4790) ≤ t4612))) rfl rfl rfl) ?_
                      simp only [List.set_cons_zero, List.set_cons_succ]
                      refine wl_end ?_
                      (try simp only [Act.put, List.setIfInBounds_toArray, List.set_cons_zero, List.set_cons_succ])
                      exact hj4807 _ _ _ (decide ((rd x4536 x4790) ≤ t4612)) (fun q_ => List.getD [undef, (g4791 1), (g4791 2), (g4791 3), (g4791 4), (g4791 5), (g4791 6), undef, (g4791 8), (g4791 9), (g4791 10), undef, undef, undef, undef, (g4791 15), (g4791 16), (g4791 17), (g4791 18), (g4791 19), (g4791 20), (g4791 21), (g4791 22), (g4791 23), (g4791 24), (g4791 25), (g4791 26), (g4791 27), (g4791 28), (g4791 29), (g4791 30), (g4791 31), (g4791 32), (g4791 33), (g4791 34), (g4791 35), (g4791 36), (g4791 37), (g4791 38), (g4791 39), (g4791 40), (g4791 41), (g4791 42), (g4791 43), (g4791 44), (g4791 45), (g4791 46), (g4791 47), (g4791 48), (g4791 49), (g4791 50), (g4791 51), (g4791 52), (g4791 53), (g4791 54), (g4791 55), (g4791 56), (g4791 57), (g4791 58), (g4791 59), (g4791 60), (g4791 61), (g4791 62), (g4791 63), (g4791 64), (g4791 65), (g4791 66), (g4791 67), (g4791 68), (g4791 69), (g4791 70), (g4791 71), (g4791 72), (g4791 73), .int .i64 x4790, .slice A4537 x4536.length cp4539, .int .i64 (x4536.length : Int), .bool true, .bool true, .slice A4537 x4536.length cp4539, .int .i64 x4790, .pointer (some ((⟨g5142, 0, none⟩ : Addr).add ((x4790 : Int).toNat * 1))), .int .i64 (rd x4536 x4790), .int .i64 t4612, .bool (decide ((rd x4536 x4790) ≤ t4612)), undef, (g4791 86), (g4791 87), (g4791 88), (g4791 89), (g4791 90), (g4791 91), (g4791 92), (g4791 93), (g4791 94), (g4791 95), (g4791 96), (g4791 97), (g4791 98), (g4791 99), (g4791 100), (g4791 101), (g4791 102), (g4791 103), (g4791 104), (g4791 105), (g4791 106), (g4791 107), (g4791 108), (g4791 109), (g4791 110), (g4791 111), (g4791 112), (g4791 113), (g4791 114), (g4791 115), (g4791 116), (g4791 117), (g4791 118), (g4791 119), (g4791 120), (g4791 121), (g4791 122), (g4791 123), (g4791 124), (g4791 125), (g4791 126), (g4791 127), (g4791 128), (g4791 129), (g4791 130), (g4791 131), (g4791 132), (g4791 133), (g4791 134), (g4791 135), (g4791 136), (g4791 137), (g4791 138), (g4791 139), (g4791 140), (g4791 141), (g4791 142), (g4791 143), (g4791 144)] q_ undef)  HS4795 (by omega) HJ4787 HJ4788 HJ4789 H
                    · rw [if_neg c5141] at H
                      exact absurd H (by simp)
                  · rw [if_neg c5140] at H
                    (try rw [(decide_eq_false c5140)])
                    (try simp only [Bool.not_true, Bool.not_false])
                    refine sk_guard (guard_off 4 true 78 rfl rfl false (by decide) rfl) rfl ?_
                    simp only [List.set_cons_zero, List.set_cons_succ]
                    refine sk_guard (guard_off 4 true 78 rfl rfl false (by decide) rfl) rfl ?_
                    simp only [List.set_cons_zero, List.set_cons_succ]
                    refine sk_guard (guard_off 4 true 78 rfl rfl false (by decide) rfl) rfl ?_
                    simp only [List.set_cons_zero, List.set_cons_succ]
                    refine sk_guard (guard_off 4 true 78 rfl rfl false (by decide) rfl) rfl ?_
                    simp only [List.set_cons_zero, List.set_cons_succ]
                    refine sk_guard (guard_off 4 true 78 rfl rfl false (by decide) rfl) rfl ?_
                    simp only [List.set_cons_zero, List.set_cons_succ]
                    refine sk_guard (guard_off 4 true 78 rfl rfl false (by decide) rfl) rfl ?_
                    simp only [List.set_cons_zero, List.set_cons_succ]
                    refine st (.bool false) rfl rfl (xr_pick false (.bool false) rfl rfl rfl) ?_
                    simp only [List.set_cons_zero, List.set_cons_succ]
                    refine wl_end ?_
                    (try simp only [Act.put, List.setIfInBounds_toArray, List.set_cons_zero, List.set_cons_succ])
                    exact hj4807 _ _ _ (false) (fun q_ => List.getD [undef, (g4791 1), (g4791 2), (g4791 3), (g4791 4), (g4791 5), (g4791 6), undef, (g4791 8), (g4791 9), (g4791 10), undef, undef, undef, undef, (g4791 15), (g4791 16), (g4791 17), (g4791 18), (g4791 19), (g4791 20), (g4791 21), (g4791 22), (g4791 23), (g4791 24), (g4791 25), (g4791 26), (g4791 27), (g4791 28), (g4791 29), (g4791 30), (g4791 31), (g4791 32), (g4791 33), (g4791 34), (g4791 35), (g4791 36), (g4791 37), (g4791 38), (g4791 39), (g4791 40), (g4791 41), (g4791 42), (g4791 43), (g4791 44), (g4791 45), (g4791 46), (g4791 47), (g4791 48), (g4791 49), (g4791 50), (g4791 51), (g4791 52), (g4791 53), (g4791 54), (g4791 55), (g4791 56), (g4791 57), (g4791 58), (g4791 59), (g4791 60), (g4791 61), (g4791 62), (g4791 63), (g4791 64), (g4791 65), (g4791 66), (g4791 67), (g4791 68), (g4791 69), (g4791 70), (g4791 71), (g4791 72), (g4791 73), .int .i64 x4790, .slice A4537 x4536.length cp4539, .int .i64 (x4536.length : Int), .bool false, .bool false, undef, undef, undef, undef, undef, undef, undef, (g4791 86), (g4791 87), (g4791 88), (g4791 89), (g4791 90), (g4791 91), (g4791 92), (g4791 93), (g4791 94), (g4791 95), (g4791 96), (g4791 97), (g4791 98), (g4791 99), (g4791 100), (g4791 101), (g4791 102), (g4791 103), (g4791 104), (g4791 105), (g4791 106), (g4791 107), (g4791 108), (g4791 109), (g4791 110), (g4791 111), (g4791 112), (g4791 113), (g4791 114), (g4791 115), (g4791 116), (g4791 117), (g4791 118), (g4791 119), (g4791 120), (g4791 121), (g4791 122), (g4791 123), (g4791 124), (g4791 125), (g4791 126), (g4791 127), (g4791 128), (g4791 129), (g4791 130), (g4791 131), (g4791 132), (g4791 133), (g4791 134), (g4791 135), (g4791 136), (g4791 137), (g4791 138), (g4791 139), (g4791 140), (g4791 141), (g4791 142), (g4791 143), (g4791 144)] q_ undef)  HS4795 (by omega) HJ4787 HJ4788 HJ4789 H
            · rw [if_neg c4620] at H
              exact absurd H (by simp)
          · rw [if_neg c4619] at H
            exact absurd H (by simp)
/-- THE ONE PURE STATEMENT of blazonlaw04_RecordRows. -/
def blazonlaw04_RecordRows.Pure : Prop := ∀ (l0 : List (S74)) (a1 : Int), l0.length ≤ maxLen → l0.length * 32 ≤ 140737488351232 → (∀ x_ ∈ l0, Ok74 x_) → (Lit.int .i64 a1).wf = true → ∃ k, blazonlaw04_RecordRows.f k l0 a1 = some true

end Go.Proofs.Ytbpagdgbehefkaa.PRec
