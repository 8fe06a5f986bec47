-- By cprint.py, a program of this work. Lean checks it.
import Derived.Test.YtbpagdgbehefkaaPRecx0
namespace Go.Proofs.Ytbpagdgbehefkaa.PRec
open Go.RowKit Go.Proofs.YtbpagdgbehefkaaW.PrintWords Go.Proofs.YtbpagdgbehefkaaW.PrintLast Go.Proofs.YtbpagdgbehefkaaW.PrintMore
set_option linter.unusedVariables false
set_option linter.unusedSimpArgs false

/-! ### blazonref01_Same: function 17 -/
def blazonref01_Same.l0 : Nat → (List Int) → (List Int) → Int → Option (Bool)
  | 0, _, _, _ => none
  | k + 1, l0, l1, x110 => if x110 < (l0.length : Int) then (if 0 ≤ x110 then (if x110 < (l1.length : Int) then (if (rd l0 x110) = (rd l1 x110) then (blazonref01_Same.l0 k l0 l1 (wrap64 (x110 + 1))) else (some false)) else (none)) else (none)) else (some true)
def blazonref01_Same.f (k : Nat) (l0 : List Int) (l1 : List Int) : Option (Bool) := if (l0.length : Int) = (l1.length : Int) then (blazonref01_Same.l0 k l0 l1 0) else (some false)
theorem blazonref01_Same.mono_l : ∀ k, (∀ y0 y1 y2, LeO (blazonref01_Same.l0 k y0 y1 y2) (blazonref01_Same.l0 (k + 1) y0 y1 y2))
  | 0 => fun _ _ _ r h => by simp [blazonref01_Same.l0] at h
  | k + 1 => by
    have ih0 := blazonref01_Same.mono_l k
    · intro y0 y1 y2
      unfold blazonref01_Same.l0
      repeat' first
      | (with_reducible exact ih0 _ _ _)
      | (with_reducible exact LeO.refl _)
      | (with_reducible exact LeO.none _)
      | (with_reducible refine LeO.ite ?_ ?_)
      | (with_reducible refine LeO.bind ?_ (fun _ => ?_))
      | exact ih0 _ _ _
      | exact LeO.none _
      | refine LeO.ite ?_ ?_
      | refine LeO.bind ?_ (fun _ => ?_)
theorem blazonref01_Same.mono : ∀ a0 a1 k, LeO (blazonref01_Same.f k a0 a1) (blazonref01_Same.f (k + 1) a0 a1) := by
  intro a0 a1 k
  have ih0 := blazonref01_Same.mono_l k
  unfold blazonref01_Same.f
  repeat' first
      | (with_reducible exact ih0 _ _ _)
      | (with_reducible exact LeO.refl _)
      | (with_reducible exact LeO.none _)
      | (with_reducible refine LeO.ite ?_ ?_)
      | (with_reducible refine LeO.bind ?_ (fun _ => ?_))
      | exact ih0 _ _ _
      | exact LeO.none _
      | refine LeO.ite ?_ ?_
      | refine LeO.bind ?_ (fun _ => ?_)
set_option maxHeartbeats 2000000 in
set_option maxRecDepth 100000 in
theorem blazonref01_Same.calls (k : Nat) (A0 : Option Addr) (c0 : Nat) (l0 : List Int) (A1 : Option Addr) (c1 : Nat) (l1 : List Int) (r : Bool) (c : Nat → Nat) (w : World) (hc : ∀ k, c k < 10) (HP0 : Ft c [0] w (fun w_ => (Kd.int .u8).C w_ A0 l0.length l0)) (HCP0 : l0.length ≤ c0) (HP1 : Ft c [0] w (fun w_ => (Kd.int .u8).C w_ A1 l1.length l1)) (HCP1 : l1.length ≤ c1) (H : blazonref01_Same.f k l0 l1 = some r) :
    Calls Try.prog 17 #[.slice A0 l0.length c0, .slice A1 l1.length c1] w fun e w' => ∃ (c' : Nat → Nat) , e = .returned (.bool r) ∧ Step c w c' w' [] := by
  unfold blazonref01_Same.f at H
  have HS := Step.refl c w []
  go_enter Try.func17, Try.ntmps17
  refine wp_seq_k fun K69 hK69 => ?_
  refine wl_region ?_
  refine st (.bool false) rfl rfl (xr_assign (.bool false) rfl rfl) ?_
  simp only [List.set_cons_zero, List.set_cons_succ]
  refine wl_end ?_
  (try simp only [Act.put, List.setIfInBounds_toArray, List.set_cons_zero, List.set_cons_succ])
  refine hK69 _ _ ?_
  (try clear hK69 K69)
  refine wp_seq_k fun K70 hK70 => ?_
  refine wp_seq_k fun K71 hK71 => ?_
  refine wl_region ?_
  refine st (.slice A0 l0.length c0) rfl rfl (xr_move (.slice A0 l0.length c0) rfl rfl) ?_
  simp only [List.set_cons_zero, List.set_cons_succ]
  refine st (.int .i64 (l0.length : Int)) rfl rfl (xr_builtin #[.slice A0 l0.length c0] (.int .i64 (l0.length : Int)) rfl (by simp only [List.map_toArray, List.map_cons, List.map_nil]; first | done | rfl) (by first | rfl | (go_simp; done) | (go_simp; rfl) | (go_simp; exact i64_w _) | (go_simp; exact i32_w _))) ?_
  simp only [List.set_cons_zero, List.set_cons_succ]
  refine st (.slice A1 l1.length c1) rfl rfl (xr_move (.slice A1 l1.length c1) rfl rfl) ?_
  simp only [List.set_cons_zero, List.set_cons_succ]
  refine st (.int .i64 (l1.length : Int)) rfl rfl (xr_builtin #[.slice A1 l1.length c1] (.int .i64 (l1.length : Int)) rfl (by simp only [List.map_toArray, List.map_cons, List.map_nil]; first | done | rfl) (by first | rfl | (go_simp; done) | (go_simp; rfl) | (go_simp; exact i64_w _) | (go_simp; exact i32_w _))) ?_
  simp only [List.set_cons_zero, List.set_cons_succ]
  refine st (.bool (!decide ((l0.length : Int) = (l1.length : Int)))) rfl rfl (xr_bin (.int .i64 (l0.length : Int)) (.int .i64 (l1.length : Int)) (.bool (!decide ((l0.length : Int) = (l1.length : Int)))) rfl rfl rfl (B.neq_i64 (l0.length : Int) (l1.length : Int))) ?_
  simp only [List.set_cons_zero, List.set_cons_succ]
  refine wl_end ?_
  (try simp only [Act.put, List.setIfInBounds_toArray, List.set_cons_zero, List.set_cons_succ])
  refine hK71 _ _ ?_
  (try clear hK71 K71)
  by_cases c72 : (l0.length : Int) = (l1.length : Int)
  · rw [if_pos c72] at H
    (try rw [(decide_eq_true c72)])
    (try simp only [Bool.not_true, Bool.not_false])
    refine wp_cond_false rfl ?_
    refine wp_skip ?_
    (try simp only [Act.put, List.setIfInBounds_toArray, List.set_cons_zero, List.set_cons_succ])
    refine hK70 _ _ ?_
    (try clear hK70 K70)
    refine wp_seq_k fun K73 hK73 => ?_
    refine wp_seq_k fun K74 hK74 => ?_
    refine wl_region ?_
    refine st (.int .i64 0) rfl rfl (xr_assign (.int .i64 0) rfl rfl) ?_
    simp only [List.set_cons_zero, List.set_cons_succ]
    refine wl_end ?_
    (try simp only [Act.put, List.setIfInBounds_toArray, List.set_cons_zero, List.set_cons_succ])
    refine hK74 _ _ ?_
    (try clear hK74 K74)
    refine wp_block ?_
    (try simp only [Act.put, List.setIfInBounds_toArray, List.set_cons_zero, List.set_cons_succ])
    refine wp_looped (looped_ind (fun kq114 a_ w113 => ∃ (C112 : Nat → Nat) (x110 : Int) (g111 : Nat → Value), a_ = ⟨#[.slice A0 l0.length c0, .slice A1 l1.length c1, (g111 2), (g111 3), (g111 4), .int .i64 x110, (g111 6), (g111 7), (g111 8), (g111 9), (g111 10), (g111 11), (g111 12), (g111 13), (g111 14), (g111 15), (g111 16), (g111 17), (g111 18), (g111 19), (g111 20), (g111 21), (g111 22), (g111 23), (g111 24), (g111 25)], []⟩ ∧ Step c w C112 w113 [] ∧ kq114 ≤ k ∧ (Ft C112 [0] w113 (fun w_ => (Kd.int .u8).C w_ A0 l0.length l0)) ∧ (Ft C112 [0] w113 (fun w_ => (Kd.int .u8).C w_ A1 l1.length l1)) ∧ blazonref01_Same.l0 kq114 l0 l1 x110 = some r) ?step k _ _ ?init)
    case init =>
      exact ⟨_, 0, (fun q_ => List.getD [undef, undef, undef, undef, .bool false, undef, .slice A0 l0.length c0, .int .i64 (l0.length : Int), .slice A1 l1.length c1, .int .i64 (l1.length : Int), .bool false, undef, undef, undef, undef, undef, undef, undef, undef, undef, undef, undef, undef, undef, undef, undef] q_ undef), rfl, HS, Nat.le_refl _, HP0, HP1, H⟩
    case step =>
      intro kq114 ih117 a118 w113 hr119
      obtain ⟨C112, x110, g111, rfl, HS115, hk116, HJ108, HJ109, H⟩ := hr119
      refine looped_round ?_
      cases kq114 with
      | zero => exact absurd H (by simp [blazonref01_Same.l0])
      | succ k120 =>
        simp only [blazonref01_Same.l0] at H
        refine wp_seq_k fun K121 hK121 => ?_
        refine wp_seq_k fun K122 hK122 => ?_
        refine wl_region ?_
        refine st (.int .i64 x110) rfl rfl (xr_move (.int .i64 x110) rfl rfl) ?_
        simp only [List.set_cons_zero, List.set_cons_succ]
        refine st (.slice A0 l0.length c0) rfl rfl (xr_move (.slice A0 l0.length c0) rfl rfl) ?_
        simp only [List.set_cons_zero, List.set_cons_succ]
        refine st (.int .i64 (l0.length : Int)) rfl rfl (xr_builtin #[.slice A0 l0.length c0] (.int .i64 (l0.length : Int)) rfl (by simp only [List.map_toArray, List.map_cons, List.map_nil]; first | done | rfl) (by first | rfl | (go_simp; done) | (go_simp; rfl) | (go_simp; exact i64_w _) | (go_simp; exact i32_w _))) ?_
        simp only [List.set_cons_zero, List.set_cons_succ]
        refine st (.bool (decide (x110 < (l0.length : Int)))) rfl rfl (xr_bin (.int .i64 x110) (.int .i64 (l0.length : Int)) (.bool (decide (x110 < (l0.length : Int)))) rfl rfl rfl (B.lss_i64 x110 (l0.length : Int))) ?_
        simp only [List.set_cons_zero, List.set_cons_succ]
        refine wl_end ?_
        (try simp only [Act.put, List.setIfInBounds_toArray, List.set_cons_zero, List.set_cons_succ])
        refine hK122 _ _ ?_
        (try clear hK122 K122)
        by_cases c123 : x110 < (l0.length : Int)
        · rw [if_pos c123] at H
          (try rw [(decide_eq_true c123)])
          (try simp only [Bool.not_true, Bool.not_false])
          refine wp_cond_true rfl ?_
          refine wp_skip ?_
          (try simp only [Act.put, List.setIfInBounds_toArray, List.set_cons_zero, List.set_cons_succ])
          refine hK121 _ _ ?_
          (try clear hK121 K121)
          refine wp_seq_k fun K124 hK124 => ?_
          refine wp_block ?_
          refine wp_seq_k fun K125 hK125 => ?_
          (try simp only [Act.put, List.setIfInBounds_toArray, List.set_cons_zero, List.set_cons_succ])
          refine al_start #[false, false, false, false, false, false, false, false, false] rfl rfl rfl (fun w_ => (Kd.int .u8).C w_ A0 l0.length l0 ∧ (Kd.int .u8).C w_ A1 l1.length l1) ⟨(Ft.now (HJ108).drew), (Ft.now (HJ109).drew)⟩ ?_
          replace HJ108 := HJ108.drew
          replace HJ109 := HJ109.drew
          replace HS115 := Step.ofDrew HS115
          generalize w113.drew = w126 at *
          refine al_pure 0 17 (.slice A0 l0.length c0) #[true, false, false, false, false, false, false, false, false] rfl rfl (by kernel_rfl) (fun _ _ _ h_ => h_) rfl (fun w_ => xr_move (.slice A0 l0.length c0) rfl rfl) ?_
          simp only [List.set_cons_zero, List.set_cons_succ]
          refine al_pure 1 18 (.int .i64 x110) #[true, true, false, false, false, false, false, false, false] rfl rfl (by kernel_rfl) (fun _ _ _ h_ => h_) rfl (fun w_ => xr_move (.int .i64 x110) rfl rfl) ?_
          simp only [List.set_cons_zero, List.set_cons_succ]
          by_cases c127 : 0 ≤ x110
          · rw [if_pos c127] at H
            obtain ⟨ad128, hA129⟩ := c_addr (Ft.now HJ108) (pos_of (j := x110) (by first | assumption | decide) (by first | assumption | omega))
            refine al_pure 2 19 (.pointer (some (ad128.add ((x110 : Int).toNat * 1)))) #[true, true, true, false, false, false, false, false, false] rfl rfl (by kernel_rfl) (fun _ _ _ h_ => h_) rfl (fun w_ => xr_indexAddr (.slice A0 l0.length c0) (.int .i64 x110) (.pointer (some (ad128.add ((x110 : Int).toNat * 1)))) rfl rfl rfl (index_at Try.underlying23 info5 hA129 (by first | assumption | decide | omega) (by first | assumption | decide | omega))) ?_
            simp only [List.set_cons_zero, List.set_cons_succ]
            refine al_pure 4 21 (.slice A1 l1.length c1) #[true, true, true, false, true, false, false, false, false] rfl rfl (by kernel_rfl) (fun _ _ _ h_ => h_) rfl (fun w_ => xr_move (.slice A1 l1.length c1) rfl rfl) ?_
            simp only [List.set_cons_zero, List.set_cons_succ]
            refine al_pure 5 22 (.int .i64 x110) #[true, true, true, false, true, true, false, false, false] rfl rfl (by kernel_rfl) (fun _ _ _ h_ => h_) rfl (fun w_ => xr_move (.int .i64 x110) rfl rfl) ?_
            simp only [List.set_cons_zero, List.set_cons_succ]
            by_cases c130 : x110 < (l1.length : Int)
            · rw [if_pos c130] at H
              obtain ⟨ad131, hA132⟩ := c_addr (Ft.now HJ109) (pos_of (j := x110) (by first | assumption | decide) (by first | assumption | omega))
              refine al_pure 6 23 (.pointer (some (ad131.add ((x110 : Int).toNat * 1)))) #[true, true, true, false, true, true, true, false, false] rfl rfl (by kernel_rfl) (fun _ _ _ h_ => h_) rfl (fun w_ => xr_indexAddr (.slice A1 l1.length c1) (.int .i64 x110) (.pointer (some (ad131.add ((x110 : Int).toNat * 1)))) rfl rfl rfl (index_at Try.underlying23 info5 hA132 (by first | assumption | decide | omega) (by first | assumption | decide | omega))) ?_
              simp only [List.set_cons_zero, List.set_cons_succ]
              refine al_take 3 20 (.int .u8 (rd l0 x110)) #[true, true, true, true, true, true, true, false, false] rfl rfl (by kernel_rfl) (fun _ _ _ h_ => h_) rfl (fun w_ hS_ => xr_load (.pointer (some (ad128.add ((x110 : Int).toNat * 1)))) (.int .u8 (rd l0 x110)) rfl rfl (load_int Try.underlying5 rfl hA129 hS_.1 (by first | assumption | decide | omega) (by first | assumption | decide | omega))) ⟨(Ft.now HJ108), (Ft.now HJ109)⟩ ?_
              simp only [List.set_cons_zero, List.set_cons_succ]
              refine al_take 7 24 (.int .u8 (rd l1 x110)) #[true, true, true, true, true, true, true, true, false] rfl rfl (by kernel_rfl) (fun _ _ _ h_ => h_) rfl (fun w_ hS_ => xr_load (.pointer (some (ad131.add ((x110 : Int).toNat * 1)))) (.int .u8 (rd l1 x110)) rfl rfl (load_int Try.underlying5 rfl hA132 hS_.2 (by first | assumption | decide | omega) (by first | assumption | decide | omega))) ⟨(Ft.now HJ108), (Ft.now HJ109)⟩ ?_
              simp only [List.set_cons_zero, List.set_cons_succ]
              refine al_pure 8 25 (.bool (!decide ((rd l0 x110) = (rd l1 x110)))) #[true, true, true, true, true, true, true, true, true] rfl rfl (by kernel_rfl) (fun _ _ _ h_ => h_) rfl (fun w_ => xr_bin (.int .u8 (rd l0 x110)) (.int .u8 (rd l1 x110)) (.bool (!decide ((rd l0 x110) = (rd l1 x110)))) rfl rfl rfl (B.neq_u8 (rd l0 x110) (rd l1 x110))) ?_
              simp only [List.set_cons_zero, List.set_cons_succ]
              refine al_end (by kernel_rfl) ?_
              (try simp only [Act.put, List.setIfInBounds_toArray, List.set_cons_zero, List.set_cons_succ])
              refine hK125 _ _ ?_
              (try clear hK125 K125)
              by_cases c133 : (rd l0 x110) = (rd l1 x110)
              · rw [if_pos c133] at H
                (try rw [(decide_eq_true c133)])
                (try simp only [Bool.not_true, Bool.not_false])
                refine wp_cond_false rfl ?_
                refine wp_skip ?_
                (try simp only [Act.put, List.setIfInBounds_toArray, List.set_cons_zero, List.set_cons_succ])
                refine hK124 _ _ ?_
                (try clear hK124 K124)
                refine wl_region ?_
                refine st (.int .i64 x110) rfl rfl (xr_move (.int .i64 x110) rfl rfl) ?_
                simp only [List.set_cons_zero, List.set_cons_succ]
                refine st (.int .i64 (wrap64 (x110 + 1))) rfl rfl (xr_bin (.int .i64 x110) (.int .i64 1) (.int .i64 (wrap64 (x110 + 1))) rfl rfl rfl (B.add_i64 x110 1)) ?_
                simp only [List.set_cons_zero, List.set_cons_succ]
                refine st (.int .i64 (wrap64 (x110 + 1))) rfl rfl (xr_assign (.int .i64 (wrap64 (x110 + 1))) rfl rfl) ?_
                simp only [List.set_cons_zero, List.set_cons_succ]
                refine wl_end ?_
                (try simp only [Act.put, List.setIfInBounds_toArray, List.set_cons_zero, List.set_cons_succ])
                exact ih117 k120 (by omega) _ _ ⟨_, wrap64 (x110 + 1), (fun q_ => List.getD [undef, undef, (g111 2), (g111 3), (g111 4), undef, (g111 6), (g111 7), (g111 8), (g111 9), (g111 10), .int .i64 x110, .slice A0 l0.length c0, .int .i64 (l0.length : Int), .bool true, .int .i64 x110, .int .i64 (wrap64 (x110 + 1)), .slice A0 l0.length c0, .int .i64 x110, .pointer (some (ad128.add ((x110 : Int).toNat * 1))), .int .u8 (rd l0 x110), .slice A1 l1.length c1, .int .i64 x110, .pointer (some (ad131.add ((x110 : Int).toNat * 1))), .int .u8 (rd l1 x110), .bool false] q_ undef), rfl, HS115, (by omega), HJ108, HJ109, H⟩
              · rw [if_neg c133] at H
                (try rw [(decide_eq_false c133)])
                (try simp only [Bool.not_true, Bool.not_false])
                refine wp_cond_true rfl ?_
                refine wp_seq_k fun K134 hK134 => ?_
                refine wl_region ?_
                refine st (.bool false) rfl rfl (xr_assign (.bool false) rfl rfl) ?_
                simp only [List.set_cons_zero, List.set_cons_succ]
                refine wl_end ?_
                (try simp only [Act.put, List.setIfInBounds_toArray, List.set_cons_zero, List.set_cons_succ])
                refine hK134 _ _ ?_
                (try clear hK134 K134)
                refine wp_ret ?_
                (try simp only [Exit.inBlock, Exit.then, Exit.noGoto])
                (try simp only [Act.put, List.setIfInBounds_toArray, List.set_cons_zero, List.set_cons_succ])
                obtain rfl := Option.some.inj H
                refine bodyPost_ret (results_tmp rfl _ _ _) rfl ?_
                exact ⟨_, rfl, HS115⟩
            · rw [if_neg c130] at H
              exact absurd H (by simp)
          · rw [if_neg c127] at H
            exact absurd H (by simp)
        · rw [if_neg c123] at H
          (try rw [(decide_eq_false c123)])
          (try simp only [Bool.not_true, Bool.not_false])
          refine wp_cond_false rfl ?_
          refine wp_exit ?_
          (try simp only [Act.put, List.setIfInBounds_toArray, List.set_cons_zero, List.set_cons_succ])
          refine hK73 _ _ ?_
          (try clear hK73 K73)
          refine wp_seq_k fun K135 hK135 => ?_
          refine wl_region ?_
          refine st (.bool true) rfl rfl (xr_assign (.bool true) rfl rfl) ?_
          simp only [List.set_cons_zero, List.set_cons_succ]
          refine wl_end ?_
          (try simp only [Act.put, List.setIfInBounds_toArray, List.set_cons_zero, List.set_cons_succ])
          refine hK135 _ _ ?_
          (try clear hK135 K135)
          refine wp_ret ?_
          (try simp only [Exit.inBlock, Exit.then, Exit.noGoto])
          (try simp only [Act.put, List.setIfInBounds_toArray, List.set_cons_zero, List.set_cons_succ])
          obtain rfl := Option.some.inj H
          refine bodyPost_ret (results_tmp rfl _ _ _) rfl ?_
          exact ⟨_, rfl, HS115⟩
  · rw [if_neg c72] at H
    (try rw [(decide_eq_false c72)])
    (try simp only [Bool.not_true, Bool.not_false])
    refine wp_cond_true rfl ?_
    refine wp_seq_k fun K136 hK136 => ?_
    refine wl_region ?_
    refine st (.bool false) rfl rfl (xr_assign (.bool false) rfl rfl) ?_
    simp only [List.set_cons_zero, List.set_cons_succ]
    refine wl_end ?_
    (try simp only [Act.put, List.setIfInBounds_toArray, List.set_cons_zero, List.set_cons_succ])
    refine hK136 _ _ ?_
    (try clear hK136 K136)
    refine wp_ret ?_
    (try simp only [Exit.inBlock, Exit.then, Exit.noGoto])
    (try simp only [Act.put, List.setIfInBounds_toArray, List.set_cons_zero, List.set_cons_succ])
    obtain rfl := Option.some.inj H
    refine bodyPost_ret (results_tmp rfl _ _ _) rfl ?_
    exact ⟨_, rfl, HS⟩

/-! ### crc_New: function 34 -/
def crc_New.f : Option (Option Int) := some (some 0)
theorem crc_New.calls (r : Option Int) (c : Nat → Nat) (w : World) (hc : ∀ k, c k < 10) (H : crc_New.f = some r) :
    Calls Try.prog 34 #[] w fun e w' => ∃ (c' : Nat → Nat) (v_r : Value), e = .returned v_r ∧ Step c w c' w' [] ∧ Ft c' [5] w' (fun w_ => Crc.SumO w_ v_r r) := by
  obtain rfl := Option.some.inj H
  refine (Crc.new_calls w).mono ?_
  rintro e w' ⟨he, hs, hbel, hsize, cs, hb⟩
  exact ⟨ext c w.heap.size 5, _, he, Step.ofBelow c hbel 5, Crc.SumO.ft hb (Crc.inv_of hb hs) (ext_ge c (Nat.le_refl _))⟩

/-! ### num_Put4: function 19 -/
def num_Put4.f (l0 : List Int) (a1 : Int) : Option (List Int) := (some ([(a1) % 256, (shr .u32 a1 8) % 256, (shr .u32 a1 16) % 256, (shr .u32 a1 24) % 256] : List Int)).bind fun y172 => (if l0.length + y172.length < 140737488355328 then ((some (l0 ++ y172 : List Int)).bind fun y183 => (some y183)) else (none))
set_option maxHeartbeats 2000000 in
set_option maxRecDepth 100000 in
theorem num_Put4.calls (A0 : Option Addr) (c0 : Nat) (l0 : List Int) (a1 : Int) (r : List Int) (c : Nat → Nat) (w : World) (hc : ∀ k, c k < 10) (HP0 : Own c 1 w (Kd.int .u8) 5 (.slice A0 l0.length c0) l0) (HCP0 : l0.length ≤ c0) (H : num_Put4.f l0 a1 = some r) :
    Calls Try.prog 19 #[.slice A0 l0.length c0, .int .u32 a1] w fun e w' => ∃ (c' : Nat → Nat) (A_r : Option Addr) (c_r : Nat), e = .returned (.slice A_r r.length c_r) ∧ Step c w c' w' [1] ∧ Own c' 1 w' (Kd.int .u8) 5 (.slice A_r r.length c_r) r ∧ r.length ≤ c_r := by
  unfold num_Put4.f at H
  have HS := Step.refl c w [1]
  go_enter Try.func19, Try.ntmps19
  refine wp_seq_k fun K170 hK170 => ?_
  refine wl_region ?_
  refine st (.slice none 0 0) rfl rfl (xr_assign (.slice none 0 0) rfl rfl) ?_
  simp only [List.set_cons_zero, List.set_cons_succ]
  refine wl_end ?_
  (try simp only [Act.put, List.setIfInBounds_toArray, List.set_cons_zero, List.set_cons_succ])
  refine hK170 _ _ ?_
  (try clear hK170 K170)
  refine wp_seq_k fun K171 hK171 => ?_
  refine wl_region ?_
  refine st (.slice A0 l0.length c0) rfl rfl (xr_move (.slice A0 l0.length c0) rfl rfl) ?_
  simp only [List.set_cons_zero, List.set_cons_succ]
  refine st (.int .u32 a1) rfl rfl (xr_move (.int .u32 a1) rfl rfl) ?_
  simp only [List.set_cons_zero, List.set_cons_succ]
  refine st (.int .u8 ((a1) % 256)) rfl rfl (xr_conv (.int .u32 a1) (.int .u8 ((a1) % 256)) rfl rfl (by first | rfl | (go_simp; done) | (go_simp; rfl) | (go_simp; exact i64_w _) | (go_simp; exact i32_w _))) ?_
  simp only [List.set_cons_zero, List.set_cons_succ]
  refine st (.int .u32 a1) rfl rfl (xr_move (.int .u32 a1) rfl rfl) ?_
  simp only [List.set_cons_zero, List.set_cons_succ]
  refine st (.int .u32 (shr .u32 a1 8)) rfl rfl (xr_bin (.int .u32 a1) (.int .u64 8) (.int .u32 (shr .u32 a1 8)) rfl rfl rfl (B.shr_u32_u64 a1 8 (by decide))) ?_
  simp only [List.set_cons_zero, List.set_cons_succ]
  refine st (.int .u8 ((shr .u32 a1 8) % 256)) rfl rfl (xr_conv (.int .u32 (shr .u32 a1 8)) (.int .u8 ((shr .u32 a1 8) % 256)) rfl rfl (by first | rfl | (go_simp; done) | (go_simp; rfl) | (go_simp; exact i64_w _) | (go_simp; exact i32_w _))) ?_
  simp only [List.set_cons_zero, List.set_cons_succ]
  refine st (.int .u32 a1) rfl rfl (xr_move (.int .u32 a1) rfl rfl) ?_
  simp only [List.set_cons_zero, List.set_cons_succ]
  refine st (.int .u32 (shr .u32 a1 16)) rfl rfl (xr_bin (.int .u32 a1) (.int .u64 16) (.int .u32 (shr .u32 a1 16)) rfl rfl rfl (B.shr_u32_u64 a1 16 (by decide))) ?_
  simp only [List.set_cons_zero, List.set_cons_succ]
  refine st (.int .u8 ((shr .u32 a1 16) % 256)) rfl rfl (xr_conv (.int .u32 (shr .u32 a1 16)) (.int .u8 ((shr .u32 a1 16) % 256)) rfl rfl (by first | rfl | (go_simp; done) | (go_simp; rfl) | (go_simp; exact i64_w _) | (go_simp; exact i32_w _))) ?_
  simp only [List.set_cons_zero, List.set_cons_succ]
  refine st (.int .u32 a1) rfl rfl (xr_move (.int .u32 a1) rfl rfl) ?_
  simp only [List.set_cons_zero, List.set_cons_succ]
  refine st (.int .u32 (shr .u32 a1 24)) rfl rfl (xr_bin (.int .u32 a1) (.int .u64 24) (.int .u32 (shr .u32 a1 24)) rfl rfl rfl (B.shr_u32_u64 a1 24 (by decide))) ?_
  simp only [List.set_cons_zero, List.set_cons_succ]
  refine st (.int .u8 ((shr .u32 a1 24) % 256)) rfl rfl (xr_conv (.int .u32 (shr .u32 a1 24)) (.int .u8 ((shr .u32 a1 24) % 256)) rfl rfl (by first | rfl | (go_simp; done) | (go_simp; rfl) | (go_simp; exact i64_w _) | (go_simp; exact i32_w _))) ?_
  simp only [List.set_cons_zero, List.set_cons_succ]
  obtain ⟨y172, A173, H⟩ := Option.bind_eq_some_iff.mp H
  (try dsimp only at H)
  refine Own.lit (Kd.int .u8) (C := c) (i := 11) rfl 5 rfl (xs := [(a1) % 256, (shr .u32 a1 8) % 256, (shr .u32 a1 16) % 256, (shr .u32 a1 24) % 256]) (inner := [.int .u8 ((a1) % 256), .int .u8 ((shr .u32 a1 8) % 256), .int .u8 ((shr .u32 a1 16) % 256), .int .u8 ((shr .u32 a1 24) % 256)]) (by first | (go_simp; done) | (go_simp; rfl)) (reps_cons (fk_int .u8 _ _ ((a1) % 256)) rfl (reps_cons (fk_int .u8 _ _ ((shr .u32 a1 8) % 256)) rfl (reps_cons (fk_int .u8 _ _ ((shr .u32 a1 16) % 256)) rfl (reps_cons (fk_int .u8 _ _ ((shr .u32 a1 24) % 256)) rfl (Reps.none _ _))))) (by simp only [List.length_cons, List.length_nil]; omega) (Option.some.inj A173) ?_
  intro A174 cp175 w176 C177 HO178 HC179 hs180
  replace HP0 := HP0.thru hs180 rfl
  replace HS := HS.trans hs180 hc rfl
  (try simp only [Act.put, List.setIfInBounds_toArray, List.set_cons_zero, List.set_cons_succ])
  replace HP0 := Own.recol (a := 11) (b := 0) HP0 (by decide) (by decide)
  have HR181 := Ft.recolor (a := 11) (b := 0) (HO178.ft) [0] rfl
  replace HS := Step.recol (a := 11) (b := 0) HS hc (by decide)
  by_cases c182 : l0.length + y172.length < 140737488355328
  · rw [if_pos c182] at H
    obtain ⟨y183, A184, H⟩ := Option.bind_eq_some_iff.mp H
    (try dsimp only at H)
    refine Own.append_rows (Kd.int .u8) (C := (recol C177 11 0)) (i := 1) rfl (.tmp 5) (.tmp 17) 23 5 (.int .u8 0) 1 rfl Try.underlying23 info5 rfl (by decide) (by decide) (.slice A0 l0.length c0) l0 y172 A174 y172.length cp175 rfl rfl HP0 HR181 (by decide) (by omega) (Option.some.inj A184) ?_
    intro A185 cp186 w187 C188 HO189 HC190 hs191
    replace HS := HS.trans hs191 hc rfl
    (try simp only [Act.put, List.setIfInBounds_toArray, List.set_cons_zero, List.set_cons_succ])
    refine st (.slice A185 y183.length cp186) rfl rfl (xr_assign (.slice A185 y183.length cp186) rfl rfl) ?_
    simp only [List.set_cons_zero, List.set_cons_succ]
    refine wl_end ?_
    (try simp only [Act.put, List.setIfInBounds_toArray, List.set_cons_zero, List.set_cons_succ])
    refine hK171 _ _ ?_
    (try clear hK171 K171)
    refine wp_ret ?_
    (try simp only [Exit.inBlock, Exit.then, Exit.noGoto])
    (try simp only [Act.put, List.setIfInBounds_toArray, List.set_cons_zero, List.set_cons_succ])
    obtain rfl := Option.some.inj H
    refine bodyPost_ret (results_tmp rfl _ _ _) rfl ?_
    exact ⟨_, A185, cp186, rfl, HS, HO189, HC190⟩
  · rw [if_neg c182] at H
    exact absurd H (by simp)

/-! ### slices_Clone_byte_byte: function 49 -/
def slices_Clone_byte_byte.f (l0 : List Int) : Option (List Int) := if l0.length < 140737488355328 then some l0 else none
set_option maxHeartbeats 2000000 in
set_option maxRecDepth 100000 in
theorem slices_Clone_byte_byte.calls (A0 : Option Addr) (c0 : Nat) (l0 : List Int) (r : List Int) (c : Nat → Nat) (w : World) (hc : ∀ k, c k < 10) (HP0 : Ft c [0] w (fun w_ => (Kd.int .u8).C w_ A0 l0.length l0)) (HCP0 : l0.length ≤ c0) (H : slices_Clone_byte_byte.f l0 = some r) :
    Calls Try.prog 49 #[.slice A0 l0.length c0] w fun e w' => ∃ (c' : Nat → Nat) (A_r : Option Addr) (c_r : Nat), e = .returned (.slice A_r r.length c_r) ∧ Step c w c' w' [] ∧ Own c' 5 w' (Kd.int .u8) 5 (.slice A_r r.length c_r) r ∧ r.length ≤ c_r := by
  unfold slices_Clone_byte_byte.f at H
  by_cases e1 : l0.length < 140737488355328
  · rw [if_pos e1] at H
    obtain rfl := Option.some.inj H
    have HS := Step.refl c w []
    go_enter Try.func49, Try.ntmps49
    refine wp_seq_k fun K1 hK1 => ?_
    refine wl_region ?_
    refine st (.slice none 0 0) rfl rfl (xr_assign (.slice none 0 0) rfl rfl) ?_
    simp only [List.set_cons_zero, List.set_cons_succ]
    refine wl_end ?_
    refine hK1 _ _ ?_
    clear hK1 K1
    refine wp_seq_k fun K2 hK2 => ?_
    refine wp_seq_k fun K3 hK3 => ?_
    refine wl_region ?_
    refine st (.slice A0 l0.length c0) rfl rfl (xr_move (.slice A0 l0.length c0) rfl rfl) ?_
    simp only [List.set_cons_zero, List.set_cons_succ]
    cases A0 with
    | none =>
      have hl : l0 = [] := by
        cases l0 with
        | nil => rfl
        | cons x l =>
          obtain ⟨ad, h⟩ := c_addr HP0.now (by simp)
          cases h
      subst hl
      refine st (.bool true) rfl rfl (xr_bin (.slice none 0 c0) (.slice none 0 0) (.bool true) rfl rfl rfl (B.eql_slnil ⟨_, Try.underlying23⟩)) ?_
      simp only [List.set_cons_zero, List.set_cons_succ]
      refine wl_end ?_
      refine hK3 _ _ ?_
      refine wp_cond_true rfl ?_
      refine wp_seq_k fun K4 hK4 => ?_
      refine wl_region ?_
      refine st (.slice none 0 0) rfl rfl (xr_assign (.slice none 0 0) rfl rfl) ?_
      simp only [List.set_cons_zero, List.set_cons_succ]
      refine wl_end ?_
      refine hK4 _ _ ?_
      refine wp_ret ?_
      (try simp only [Exit.inBlock, Exit.then])
      refine bodyPost_ret (results_tmp rfl _ _ _) rfl ?_
      exact ⟨_, _, _, rfl, HS, Own.nil _ _ _ _ _, Nat.le_refl _⟩
    | some ad =>
      refine st (.bool false) rfl rfl (xr_bin (.slice (some ad) l0.length c0) (.slice none 0 0) (.bool false) rfl rfl rfl (B.eql_slnil ⟨_, Try.underlying23⟩)) ?_
      simp only [List.set_cons_zero, List.set_cons_succ]
      refine wl_end ?_
      refine hK3 _ _ ?_
      refine wp_cond_false rfl ?_
      refine wp_skip ?_
      refine hK2 _ _ ?_
      clear hK2 hK3 K2 K3
      refine wp_seq_k fun K4 hK4 => ?_
      refine wl_region ?_
      refine Own.lit (Kd.int .u8) (C := c) (i := 10) rfl 5 rfl (xs := ([] : List Int)) (inner := []) (by first | (go_simp; done) | (go_simp; rfl)) (Reps.none _ _) (by simp) rfl ?_
      intro A1 cp1 w1 C1 HO1 HC1 hs1
      replace HP0 := HP0.thru hs1 rfl
      replace HS := HS.trans hs1 hc rfl
      (try simp only [Act.put, List.setIfInBounds_toArray, List.set_cons_zero, List.set_cons_succ])
      refine st (.slice (some ad) l0.length c0) rfl rfl (xr_move (.slice (some ad) l0.length c0) rfl rfl) ?_
      simp only [List.set_cons_zero, List.set_cons_succ]
      refine Own.append_rows (Kd.int .u8) (C := C1) (i := 10) rfl (.tmp 5) (.tmp 6) 23 5 (.int .u8 0) 1 rfl Try.underlying23 info5 rfl (by decide) (by decide) (.slice A1 ([] : List Int).length cp1) [] l0 (some ad) l0.length c0 rfl rfl HO1 HP0 (by decide) (by simp; omega) rfl ?_
      intro A2 cp2 w2 C2 HO2 HC2 hs2
      replace HS := HS.trans hs2 hc rfl
      (try simp only [List.nil_append] at HO2 HC2)
      (try simp only [Act.put, List.setIfInBounds_toArray, List.set_cons_zero, List.set_cons_succ, List.nil_append])
      refine st (.slice A2 l0.length cp2) rfl rfl (xr_assign (.slice A2 l0.length cp2) rfl rfl) ?_
      simp only [List.set_cons_zero, List.set_cons_succ]
      refine wl_end ?_
      refine hK4 _ _ ?_
      refine wp_ret ?_
      (try simp only [Exit.inBlock, Exit.then])
      refine bodyPost_ret (results_tmp rfl _ _ _) rfl ?_
      exact ⟨_, _, _, rfl, HS.recol (a := 10) (b := 5) hc (by decide), Own.recolor HO2 (by decide), HC2⟩
  · rw [if_neg e1] at H
    cases H

/-! ### crc_Summer_Of: function 36 -/
def crc_Summer_Of.f (x0 : Option Int) (l1 : List Int) : Option (Int × Option Int) := match x0 with
  | none => some (0, none)
  | some n => if l1.length ≤ 1000000 ∧ 0 ≤ n ∧ n ≤ 1000000 then some (Crc.flip (Crc.stepsF 4294967295 l1), some (n + 1)) else none
theorem crc_Summer_Of.calls (v0 : Value) (x0 : Option Int) (A1 : Option Addr) (c1 : Nat) (l1 : List Int) (r1 : Int) (r2 : Option Int) (c : Nat → Nat) (w : World) (hc : ∀ k, c k < 10) (HP0 : Ft c [1] w (fun w_ => Crc.SumO w_ v0 x0)) (HP1 : Ft c [0] w (fun w_ => (Kd.int .u8).C w_ A1 l1.length l1)) (HCP1 : l1.length ≤ c1) (H : crc_Summer_Of.f x0 l1 = some (r1, r2)) :
    Calls Try.prog 36 #[v0, .slice A1 l1.length c1] w fun e w' => ∃ (c' : Nat → Nat), e = .returned (.int .u32 r1) ∧ Step c w c' w' [1] ∧ Ft c' [1] w' (fun w_ => Crc.SumO w_ v0 r2) := by
  unfold crc_Summer_Of.f at H
  cases x0 with
  | none =>
    simp only [Option.some.injEq, Prod.mk.injEq] at H
    obtain ⟨rfl, rfl⟩ := H
    obtain rfl : v0 = .pointer none := HP0.now
    refine (Crc.nil_of _ w).mono ?_
    rintro e w' ⟨he, rfl⟩
    exact ⟨c, he, Step.refl _ _ _, Crc.SumO.nil _ _ _⟩
  | some n =>
    dsimp only at H
    by_cases e1 : l1.length ≤ 1000000 ∧ 0 ≤ n ∧ n ≤ 1000000
    · rw [if_pos e1] at H
      simp only [Option.some.injEq, Prod.mk.injEq] at H
      obtain ⟨rfl, rfl⟩ := H
      obtain ⟨g, cs, rfl, hb, hv, hC⟩ := Crc.SumO.open HP0
      replace hC : c g = 1 := by simpa using hC
      refine (Crc.of_calls g n A1 c1 l1 w (Crc.sum_of hb hv) e1.2 e1.1 (fun w' ho => Crc.read_only hC (by decide) HP1 w' ho)).mono ?_
      rintro e w' ⟨he, hs, ho⟩
      obtain ⟨cs', hb'⟩ := ho.kept cs hb
      exact ⟨c, he, Crc.Step.only ho hC, Crc.SumO.ft hb' (Crc.inv_of hb' hs) hC⟩
    · rw [if_neg e1] at H
      cases H

/-! ### crc_Summer_More: function 38 -/
def crc_Summer_More.f (x0 : Option Int) (a1 : Int) (l2 : List Int) : Option (Int × Option Int) := match x0 with
  | none => some (0, none)
  | some n => if l2.length ≤ 1000000 ∧ 0 ≤ n ∧ n ≤ 1000000 then some (Crc.flip (Crc.stepsF (Crc.flip a1) l2), some (n + 1)) else none
theorem crc_Summer_More.calls (v0 : Value) (x0 : Option Int) (a1 : Int) (A2 : Option Addr) (c2 : Nat) (l2 : List Int) (r1 : Int) (r2 : Option Int) (c : Nat → Nat) (w : World) (hc : ∀ k, c k < 10) (HP0 : Ft c [1] w (fun w_ => Crc.SumO w_ v0 x0)) (HP2 : Ft c [0] w (fun w_ => (Kd.int .u8).C w_ A2 l2.length l2)) (HCP2 : l2.length ≤ c2) (H : crc_Summer_More.f x0 a1 l2 = some (r1, r2)) :
    Calls Try.prog 38 #[v0, .int .u32 a1, .slice A2 l2.length c2] w fun e w' => ∃ (c' : Nat → Nat), e = .returned (.int .u32 r1) ∧ Step c w c' w' [1] ∧ Ft c' [1] w' (fun w_ => Crc.SumO w_ v0 r2) := by
  unfold crc_Summer_More.f at H
  cases x0 with
  | none =>
    simp only [Option.some.injEq, Prod.mk.injEq] at H
    obtain ⟨rfl, rfl⟩ := H
    obtain rfl : v0 = .pointer none := HP0.now
    refine (Crc.nil_more _ _ w).mono ?_
    rintro e w' ⟨he, rfl⟩
    exact ⟨c, he, Step.refl _ _ _, Crc.SumO.nil _ _ _⟩
  | some n =>
    dsimp only at H
    by_cases e1 : l2.length ≤ 1000000 ∧ 0 ≤ n ∧ n ≤ 1000000
    · rw [if_pos e1] at H
      simp only [Option.some.injEq, Prod.mk.injEq] at H
      obtain ⟨rfl, rfl⟩ := H
      obtain ⟨g, cs, rfl, hb, hv, hC⟩ := Crc.SumO.open HP0
      replace hC : c g = 1 := by simpa using hC
      refine (Crc.more_calls g n a1 A2 c2 l2 w (Crc.sum_of hb hv) e1.2 e1.1 (fun w' ho => Crc.read_only hC (by decide) HP2 w' ho)).mono ?_
      rintro e w' ⟨he, hs, ho⟩
      obtain ⟨cs', hb'⟩ := ho.kept cs hb
      exact ⟨c, he, Crc.Step.only ho hC, Crc.SumO.ft hb' (Crc.inv_of hb' hs) hC⟩
    · rw [if_neg e1] at H
      cases H

/-! ### record_sum: function 50 -/
def record_sum.f (x0 : Option Int) (a1 : Int) (l2 : List Int) : Option (Int × (Option Int)) := (some ([a1] : List Int)).bind fun y232 => ((crc_Summer_Of.f x0 y232).bind fun bt241 => ((crc_Summer_More.f bt241.2 bt241.1 l2).bind fun bt249 => (some (bt249.1, bt249.2))))
set_option maxHeartbeats 2000000 in
set_option maxRecDepth 100000 in
theorem record_sum.calls (v0 : Value) (x0 : Option Int) (a1 : Int) (A2 : Option Addr) (c2 : Nat) (l2 : List Int) (r1 : Int) (r2 : Option Int) (c : Nat → Nat) (w : World) (hc : ∀ k, c k < 10) (HP0 : Ft c [1] w (fun w_ => Crc.SumO w_ v0 x0)) (HP2 : Ft c [0] w (fun w_ => (Kd.int .u8).C w_ A2 l2.length l2)) (HCP2 : l2.length ≤ c2) (H : record_sum.f x0 a1 l2 = some (r1, r2)) :
    Calls Try.prog 50 #[v0, .int .u8 a1, .slice A2 l2.length c2] w fun e w' => ∃ (c' : Nat → Nat) , e = .returned (.int .u32 r1) ∧ Step c w c' w' [1] ∧ Ft c' [1] w' (fun w_ => Crc.SumO w_ v0 r2) := by
  unfold record_sum.f at H
  have HS := Step.refl c w [1]
  go_enter Try.func50, Try.ntmps50
  refine wp_seq_k fun K230 hK230 => ?_
  refine wl_region ?_
  refine st (.int .u32 0) rfl rfl (xr_assign (.int .u32 0) rfl rfl) ?_
  simp only [List.set_cons_zero, List.set_cons_succ]
  refine wl_end ?_
  (try simp only [Act.put, List.setIfInBounds_toArray, List.set_cons_zero, List.set_cons_succ])
  refine hK230 _ _ ?_
  (try clear hK230 K230)
  refine wp_seq_k fun K231 hK231 => ?_
  refine wl_region ?_
  refine st (v0) rfl rfl (xr_move (v0) rfl rfl) ?_
  simp only [List.set_cons_zero, List.set_cons_succ]
  refine st (v0) rfl rfl (xr_move (v0) rfl rfl) ?_
  simp only [List.set_cons_zero, List.set_cons_succ]
  refine st (.int .u8 a1) rfl rfl (xr_move (.int .u8 a1) rfl rfl) ?_
  simp only [List.set_cons_zero, List.set_cons_succ]
  obtain ⟨y232, A233, H⟩ := Option.bind_eq_some_iff.mp H
  (try dsimp only at H)
  refine Own.lit (Kd.int .u8) (C := c) (i := 11) rfl 5 rfl (xs := [a1]) (inner := [.int .u8 a1]) (by first | (go_simp; done) | (go_simp; rfl)) (reps_cons (fk_int .u8 _ _ a1) rfl (Reps.none _ _)) (by simp only [List.length_cons, List.length_nil]; omega) (Option.some.inj A233) ?_
  intro A234 cp235 w236 C237 HO238 HC239 hs240
  replace HP0 := HP0.thru hs240 rfl
  replace HP2 := HP2.thru hs240 rfl
  replace HS := HS.trans hs240 hc rfl
  (try simp only [Act.put, List.setIfInBounds_toArray, List.set_cons_zero, List.set_cons_succ])
  obtain ⟨⟨t241, t242⟩, A243, H⟩ := Option.bind_eq_some_iff.mp H
  (try dsimp only at H)
  refine st_call #[v0, .slice A234 y232.length cp235] rfl rfl Try.func36 (by kernel_rfl) rfl rfl (by simp only [List.map_toArray, List.map_cons, List.map_nil]; first | done | rfl) ?_
  refine (crc_Summer_Of.calls v0 x0 A234 cp235 y232 t241 t242  (fun z_ => pal [(0, 0), (1, 1), (11, 0)] (C237 z_)) w236 (fun _ => pal_lt rfl _) (Ft.arg HP0 rfl) (Ft.arg (HO238.ft) rfl) HC239 A243).mono ?_
  rintro _ w245 ⟨C246, rfl, hs247, HM248⟩
  refine ⟨_, rfl, ?_⟩
  replace HM248 := Ft.res (U := [(0, 0), (1, 1)]) HM248 hs247 [1] rfl rfl rfl
  replace hs247 := Step.lift (U := [(0, 0), (1, 1)]) hs247 [1] rfl rfl
  generalize up C237 C246 w236.heap.size [(0, 0), (1, 1)] = C246_ at HM248 hs247
  replace HP2 := HP2.thru hs247 rfl
  replace HS := HS.trans hs247 hc rfl
  (try simp only [Act.put, List.setIfInBounds_toArray, List.set_cons_zero, List.set_cons_succ])
  refine st (.slice A2 l2.length c2) rfl rfl (xr_move (.slice A2 l2.length c2) rfl rfl) ?_
  simp only [List.set_cons_zero, List.set_cons_succ]
  obtain ⟨⟨t249, t250⟩, A251, H⟩ := Option.bind_eq_some_iff.mp H
  (try dsimp only at H)
  refine st_call #[v0, .int .u32 t241, .slice A2 l2.length c2] rfl rfl Try.func38 (by kernel_rfl) rfl rfl (by simp only [List.map_toArray, List.map_cons, List.map_nil]; first | done | rfl) ?_
  refine (crc_Summer_More.calls v0 t242 t241 A2 c2 l2 t249 t250  (fun z_ => pal [(0, 0), (1, 1)] (C246_ z_)) w245 (fun _ => pal_lt rfl _) (Ft.arg HM248 rfl) (Ft.arg HP2 rfl) HCP2 A251).mono ?_
  rintro _ w253 ⟨C254, rfl, hs255, HM256⟩
  refine ⟨_, rfl, ?_⟩
  replace HM256 := Ft.res (U := [(0, 0), (1, 1)]) HM256 hs255 [1] rfl rfl rfl
  replace hs255 := Step.lift (U := [(0, 0), (1, 1)]) hs255 [1] rfl rfl
  generalize up C246_ C254 w245.heap.size [(0, 0), (1, 1)] = C254_ at HM256 hs255
  replace HS := HS.trans hs255 hc rfl
  (try simp only [Act.put, List.setIfInBounds_toArray, List.set_cons_zero, List.set_cons_succ])
  refine st (.int .u32 t249) rfl rfl (xr_assign (.int .u32 t249) rfl rfl) ?_
  simp only [List.set_cons_zero, List.set_cons_succ]
  refine wl_end ?_
  (try simp only [Act.put, List.setIfInBounds_toArray, List.set_cons_zero, List.set_cons_succ])
  refine hK231 _ _ ?_
  (try clear hK231 K231)
  refine wp_ret ?_
  (try simp only [Exit.inBlock, Exit.then, Exit.noGoto])
  (try simp only [Act.put, List.setIfInBounds_toArray, List.set_cons_zero, List.set_cons_succ])
  simp only [Option.some.injEq, Prod.mk.injEq] at H
  obtain ⟨rfl, rfl⟩ := H
  refine bodyPost_ret (results_tmp rfl _ _ _) rfl ?_
  exact ⟨_, rfl, HS, HM256⟩

/-! ### record_Put: function 42 -/
def record_Put.j0 (a2_0 : Int) (l1 : List Int) (l2_1 : List Int) (x0 : Option Int) (x471 : Bool) : Option (List Int × Int × (Option Int)) := if x471 = true then (some (l1, 1, x0)) else (if (l2_1.length : Int) > 65536 then (some (l1, 3, x0)) else ((slices_Clone_byte_byte.f l1).bind fun t484 => ((num_Put4.f t484 (((l2_1.length : Int)) % 4294967296)).bind fun t494 => ((record_sum.f x0 ((a2_0) % 256) l2_1).bind fun bt505 => ((num_Put4.f t494 bt505.1).bind fun t513 => (if t513.length < 140737488355328 then ((some (t513 ++ [(a2_0) % 256] : List Int)).bind fun y526 => (if y526.length + l2_1.length < 140737488355328 then ((some (y526 ++ l2_1 : List Int)).bind fun y536 => (some (y536, 0, bt505.2))) else (none))) else (none)))))))
def record_Put.f (x0 : Option Int) (l1 : List Int) (a2_0 : Int) (l2_1 : List Int) : Option (List Int × Int × (Option Int)) := if a2_0 < 0 then (record_Put.j0 a2_0 l1 l2_1 x0 true) else (record_Put.j0 a2_0 l1 l2_1 x0 (decide (a2_0 > 255)))
set_option maxHeartbeats 2000000 in
set_option maxRecDepth 100000 in
theorem record_Put.calls (v0 : Value) (x0 : Option Int) (A1 : Option Addr) (c1 : Nat) (l1 : List Int) (a2_0 : Int) (A2_1 : Option Addr) (c2_1 : Nat) (l2_1 : List Int) (r1 : List Int) (r2 : Int) (r3 : Option Int) (c : Nat → Nat) (w : World) (hc : ∀ k, c k < 10) (HP0 : Ft c [1] w (fun w_ => Crc.SumO w_ v0 x0)) (HP1 : Ft c [0] w (fun w_ => (Kd.int .u8).C w_ A1 l1.length l1)) (HCP1 : l1.length ≤ c1) (HP2_1 : Ft c [0] w (fun w_ => (Kd.int .u8).C w_ A2_1 l2_1.length l2_1)) (HCP2_1 : l2_1.length ≤ c2_1) (H : record_Put.f x0 l1 a2_0 l2_1 = some (r1, r2, r3)) :
    Calls Try.prog 42 #[v0, .slice A1 l1.length c1, .agg #[.int .i64 a2_0, .slice A2_1 l2_1.length c2_1]] w fun e w' => ∃ (c' : Nat → Nat) (A_r1 : Option Addr) (c_r1 : Nat), e = .returned (.tuple #[.slice A_r1 r1.length c_r1, .int .i64 r2]) ∧ Step c w c' w' [1] ∧ Ft c' [0] w' (fun w_ => (Kd.int .u8).C w_ A_r1 r1.length r1) ∧ r1.length ≤ c_r1 ∧ Ft c' [1] w' (fun w_ => Crc.SumO w_ v0 r3) := by
  unfold record_Put.f at H
  have HS := Step.refl c w [1]
  go_enter Try.func42, Try.ntmps42
  refine wp_seq_k fun K436 hK436 => ?_
  refine wl_region ?_
  refine bx_new (C := c) 63 [.int .i64 a2_0, .slice A2_1 l2_1.length c2_1] 11 rfl rfl (by first | (go_simp; done) | (go_simp; rfl)) ?_
  intro g437 w438 C439 HX440 hs441
  replace HP0 := HP0.thru hs441 rfl
  replace HP1 := HP1.thru hs441 rfl
  replace HP2_1 := HP2_1.thru hs441 rfl
  replace HS := HS.trans hs441 hc rfl
  (try simp only [Act.put, List.setIfInBounds_toArray, List.set_cons_zero, List.set_cons_succ])
  refine st (.slice none 0 0) rfl rfl (xr_assign (.slice none 0 0) rfl rfl) ?_
  simp only [List.set_cons_zero, List.set_cons_succ]
  refine st (.int .i64 0) rfl rfl (xr_assign (.int .i64 0) rfl rfl) ?_
  simp only [List.set_cons_zero, List.set_cons_succ]
  refine wl_end ?_
  (try simp only [Act.put, List.setIfInBounds_toArray, List.set_cons_zero, List.set_cons_succ])
  refine hK436 _ _ ?_
  (try clear hK436 K436)
  refine wp_seq_k fun K442 hK442 => ?_
  refine wp_block ?_
  refine wp_seq_k fun K463 hK463 => ?_
  have hj465 : ∀ (C466 : Nat → Nat) (w467 : World) (x471 : Bool) (g474 : Nat → Value), Step c w C466 w467 [1] → (Ft C466 [1] w467 (fun w_ => Crc.SumO w_ v0 x0)) → (Ft C466 [0] w467 (fun w_ => (Kd.int .u8).C w_ A1 l1.length l1)) → (Ft C466 [0] w467 (fun w_ => (Kd.int .u8).C w_ A2_1 l2_1.length l2_1)) → (Bx C466 11 w467 g437 63 [.int .i64 a2_0, .slice A2_1 l2_1.length c2_1]) → record_Put.j0 a2_0 l1 l2_1 x0 x471 = some (r1, r2, r3) → K463 ⟨#[v0, .slice A1 l1.length c1, (g474 2), (g474 3), (g474 4), .pointer (some ⟨g437, 0, none⟩), (g474 6), (g474 7), .bool x471, (g474 9), (g474 10), (g474 11), (g474 12), (g474 13), (g474 14), (g474 15), (g474 16), (g474 17), (g474 18), (g474 19), (g474 20), (g474 21), (g474 22), (g474 23), (g474 24), (g474 25), (g474 26), (g474 27), (g474 28), (g474 29), (g474 30), (g474 31), (g474 32), (g474 33), (g474 34), (g474 35), (g474 36), (g474 37), (g474 38), (g474 39), (g474 40), (g474 41), (g474 42), (g474 43), (g474 44), (g474 45), (g474 46), (g474 47), (g474 48)], []⟩ w467 := by
    intro C466 w467 x471 g474 HS468 HJ469 HJ470 HJ472 HJ473 H
    unfold record_Put.j0 at H
    refine hK463 _ _ ?_
    (try clear hK463)
    by_cases c477 : x471 = true
    · rw [if_pos c477] at H
      (try rw [c477])
      (try simp only [Bool.not_true, Bool.not_false])
      refine wp_cond_true rfl ?_
      refine wp_seq_k fun K478 hK478 => ?_
      refine wl_region ?_
      refine st (.slice A1 l1.length c1) rfl rfl (xr_move (.slice A1 l1.length c1) rfl rfl) ?_
      simp only [List.set_cons_zero, List.set_cons_succ]
      refine st (.slice A1 l1.length c1) rfl rfl (xr_assign (.slice A1 l1.length c1) rfl rfl) ?_
      simp only [List.set_cons_zero, List.set_cons_succ]
      refine st (.int .i64 1) rfl rfl (xr_assign (.int .i64 1) rfl rfl) ?_
      simp only [List.set_cons_zero, List.set_cons_succ]
      refine wl_end ?_
      (try simp only [Act.put, List.setIfInBounds_toArray, List.set_cons_zero, List.set_cons_succ])
      refine hK478 _ _ ?_
      (try clear hK478 K478)
      refine wp_ret ?_
      (try simp only [Exit.inBlock, Exit.then, Exit.noGoto])
      (try simp only [Act.put, List.setIfInBounds_toArray, List.set_cons_zero, List.set_cons_succ])
      simp only [Option.some.injEq, Prod.mk.injEq] at H
      obtain ⟨rfl, rfl, rfl⟩ := H
      refine bodyPost_ret (results_tmp2 rfl _ _ _) rfl ?_
      exact ⟨_, A1, c1, rfl, HS468, HJ470, HCP1, HJ469⟩
    · rw [if_neg c477] at H
      (try rw [(Bool.eq_false_iff.mpr c477)])
      (try simp only [Bool.not_true, Bool.not_false])
      refine wp_cond_false rfl ?_
      refine wp_seq_k fun K479 hK479 => ?_
      refine wl_region ?_
      refine st (.pointer (some ⟨g437, 1, none⟩)) rfl rfl (xr_fieldAddr (.pointer (some ⟨g437, 0, none⟩)) (.pointer (some ⟨g437, 1, none⟩)) rfl rfl (bx_field Try.underlying63 rfl rfl (by decide) rfl)) ?_
      simp only [List.set_cons_zero, List.set_cons_succ]
      refine st (.slice A2_1 l2_1.length c2_1) rfl rfl (xr_load (.pointer (some ⟨g437, 1, none⟩)) (.slice A2_1 l2_1.length c2_1) rfl rfl (load_cell Try.underlying23 rfl (bx_cell (l := [.int .i64 a2_0, .slice A2_1 l2_1.length c2_1]) (HJ473).2 1 rfl))) ?_
      simp only [List.set_cons_zero, List.set_cons_succ]
      refine st (.int .i64 (l2_1.length : Int)) rfl rfl (xr_builtin #[.slice A2_1 l2_1.length c2_1] (.int .i64 (l2_1.length : Int)) rfl (by simp only [List.map_toArray, List.map_cons, List.map_nil]; first | done | rfl) (by first | rfl | (go_simp; done) | (go_simp; rfl) | (go_simp; exact i64_w _) | (go_simp; exact i32_w _))) ?_
      simp only [List.set_cons_zero, List.set_cons_succ]
      refine st (.bool (decide ((l2_1.length : Int) > 65536))) rfl rfl (xr_bin (.int .i64 (l2_1.length : Int)) (.int .i64 65536) (.bool (decide ((l2_1.length : Int) > 65536))) rfl rfl rfl (B.gtr_i64 (l2_1.length : Int) 65536)) ?_
      simp only [List.set_cons_zero, List.set_cons_succ]
      refine st (.bool (decide ((l2_1.length : Int) > 65536))) rfl rfl (xr_assign (.bool (decide ((l2_1.length : Int) > 65536))) rfl rfl) ?_
      simp only [List.set_cons_zero, List.set_cons_succ]
      refine wl_end ?_
      (try simp only [Act.put, List.setIfInBounds_toArray, List.set_cons_zero, List.set_cons_succ])
      refine hK479 _ _ ?_
      (try clear hK479 K479)
      by_cases c480 : (l2_1.length : Int) > 65536
      · rw [if_pos c480] at H
        (try rw [(decide_eq_true c480)])
        (try simp only [Bool.not_true, Bool.not_false])
        refine wp_cond_true rfl ?_
        refine wp_seq_k fun K481 hK481 => ?_
        refine wl_region ?_
        refine st (.slice A1 l1.length c1) rfl rfl (xr_move (.slice A1 l1.length c1) rfl rfl) ?_
        simp only [List.set_cons_zero, List.set_cons_succ]
        refine st (.slice A1 l1.length c1) rfl rfl (xr_assign (.slice A1 l1.length c1) rfl rfl) ?_
        simp only [List.set_cons_zero, List.set_cons_succ]
        refine st (.int .i64 3) rfl rfl (xr_assign (.int .i64 3) rfl rfl) ?_
        simp only [List.set_cons_zero, List.set_cons_succ]
        refine wl_end ?_
        (try simp only [Act.put, List.setIfInBounds_toArray, List.set_cons_zero, List.set_cons_succ])
        refine hK481 _ _ ?_
        (try clear hK481 K481)
        refine wp_ret ?_
        (try simp only [Exit.inBlock, Exit.then, Exit.noGoto])
        (try simp only [Act.put, List.setIfInBounds_toArray, List.set_cons_zero, List.set_cons_succ])
        simp only [Option.some.injEq, Prod.mk.injEq] at H
        obtain ⟨rfl, rfl, rfl⟩ := H
        refine bodyPost_ret (results_tmp2 rfl _ _ _) rfl ?_
        exact ⟨_, A1, c1, rfl, HS468, HJ470, HCP1, HJ469⟩
      · rw [if_neg c480] at H
        (try rw [(decide_eq_false c480)])
        (try simp only [Bool.not_true, Bool.not_false])
        refine wp_cond_false rfl ?_
        refine wp_skip ?_
        (try simp only [Act.put, List.setIfInBounds_toArray, List.set_cons_zero, List.set_cons_succ])
        refine hK442 _ _ ?_
        (try clear hK442 K442)
        refine wp_seq_k fun K482 hK482 => ?_
        (try simp only [Act.put, List.setIfInBounds_toArray, List.set_cons_zero, List.set_cons_succ])
        refine al_start #[false, false, false, false, false, false, false, false] rfl rfl rfl (fun w_ => w_.heap[g437]? = some (.cells (List.toArray [.int .i64 a2_0, .slice A2_1 l2_1.length c2_1]) 63 (0, 0))) (HJ473.drew).2 ?_
        replace HJ469 := HJ469.drew
        replace HJ470 := HJ470.drew
        replace HJ473 := HJ473.drew
        replace HJ472 := HJ472.drew
        replace HS468 := Step.ofDrew HS468
        generalize w467.drew = w483 at *
        refine al_pure 0 24 (.slice A1 l1.length c1) #[true, false, false, false, false, false, false, false] rfl rfl (by kernel_rfl) (fun _ _ _ h_ => h_) rfl (fun w_ => xr_move (.slice A1 l1.length c1) rfl rfl) ?_
        simp only [List.set_cons_zero, List.set_cons_succ]
        refine al_pure 2 26 (.pointer (some ⟨g437, 1, none⟩)) #[true, false, true, false, false, false, false, false] rfl rfl (by kernel_rfl) (fun _ _ _ h_ => h_) rfl (fun w_ => xr_fieldAddr (.pointer (some ⟨g437, 0, none⟩)) (.pointer (some ⟨g437, 1, none⟩)) rfl rfl (bx_field Try.underlying63 rfl rfl (by decide) rfl)) ?_
        simp only [List.set_cons_zero, List.set_cons_succ]
        refine al_take 3 27 (.slice A2_1 l2_1.length c2_1) #[true, false, true, true, false, false, false, false] rfl rfl (by kernel_rfl) (fun _ _ _ h_ => h_) rfl (fun w_ hS_ => xr_load (.pointer (some ⟨g437, 1, none⟩)) (.slice A2_1 l2_1.length c2_1) rfl rfl (load_cell Try.underlying23 rfl (bx_cell (l := [.int .i64 a2_0, .slice A2_1 l2_1.length c2_1]) hS_ 1 rfl))) (HJ473).2 ?_
        simp only [List.set_cons_zero, List.set_cons_succ]
        refine al_pure 4 28 (.int .i64 (l2_1.length : Int)) #[true, false, true, true, true, false, false, false] rfl rfl (by kernel_rfl) (fun _ _ _ h_ => h_) rfl (fun w_ => xr_builtin #[.slice A2_1 l2_1.length c2_1] (.int .i64 (l2_1.length : Int)) rfl (by simp only [List.map_toArray, List.map_cons, List.map_nil]; first | done | rfl) (by first | rfl | (go_simp; done) | (go_simp; rfl) | (go_simp; exact i64_w _) | (go_simp; exact i32_w _))) ?_
        simp only [List.set_cons_zero, List.set_cons_succ]
        refine al_pure 5 29 (.int .u32 (((l2_1.length : Int)) % 4294967296)) #[true, false, true, true, true, true, false, false] rfl rfl (by kernel_rfl) (fun _ _ _ h_ => h_) rfl (fun w_ => xr_conv (.int .i64 (l2_1.length : Int)) (.int .u32 (((l2_1.length : Int)) % 4294967296)) rfl rfl (by first | rfl | (go_simp; done) | (go_simp; rfl) | (go_simp; exact i64_w _) | (go_simp; exact i32_w _))) ?_
        simp only [List.set_cons_zero, List.set_cons_succ]
        obtain ⟨t484, A485, H⟩ := Option.bind_eq_some_iff.mp H
        (try dsimp only at H)
        refine al_one 1 #[true, true, true, true, true, true, false, false] rfl rfl (by kernel_rfl) (fun K_ hK_ => ?_)
        refine goes_ Try.func49 (by kernel_rfl) rfl #[.slice A1 l1.length c1] rfl rfl rfl (by rw [map_ev]; simp only [List.map_toArray, List.map_cons, List.map_nil]; first | done | rfl) ?_
        refine (slices_Clone_byte_byte.calls A1 c1 l1 t484  (fun z_ => pal [(0, 0)] (C466 z_)) w483 (fun _ => pal_lt rfl _) (Ft.arg HJ470 rfl) HCP1 A485).mono ?_
        rintro _ w487 ⟨C488, A490, cp491, rfl, hs489, HO492, HC493⟩
        refine ⟨_, rfl, ?_⟩
        replace HO492 := Own.res (U := [(0, 0), (5, 12)]) (j := 12) HO492 hs489 (by rfl) (by decide) rfl rfl
        replace hs489 := Step.lift (U := [(0, 0), (5, 12)]) hs489 [] rfl rfl
        generalize up C466 C488 w483.heap.size [(0, 0), (5, 12)] = C488_ at HO492 hs489
        replace HJ469 := HJ469.thru hs489 rfl
        replace HJ470 := HJ470.thru hs489 rfl
        replace HJ473 := HJ473.thru hs489 rfl
        replace HJ472 := HJ472.thru hs489 rfl
        replace HS468 := HS468.trans hs489 hc rfl
        refine hK_ _ _ (HJ473).2 ?_
        clear hK_ K_
        (try simp only [Act.put, List.setIfInBounds_toArray, List.set_cons_zero, List.set_cons_succ])
        obtain ⟨t494, A495, H⟩ := Option.bind_eq_some_iff.mp H
        (try dsimp only at H)
        refine al_one 6 #[true, true, true, true, true, true, true, false] rfl rfl (by kernel_rfl) (fun K_ hK_ => ?_)
        refine goes_ Try.func19 (by kernel_rfl) rfl #[.slice A490 t484.length cp491, .int .u32 (((l2_1.length : Int)) % 4294967296)] rfl rfl rfl (by rw [map_ev]; simp only [List.map_toArray, List.map_cons, List.map_nil]; first | done | rfl) ?_
        refine (num_Put4.calls A490 cp491 t484 (((l2_1.length : Int)) % 4294967296) t494  (fun z_ => pal [(0, 0), (12, 1)] (C488_ z_)) w487 (fun _ => pal_lt rfl _) (Own.arg HO492 rfl rfl) HC493 A495).mono ?_
        rintro _ w497 ⟨C498, A500, cp501, rfl, hs499, HO502, HC503⟩
        refine ⟨_, rfl, ?_⟩
        replace HO502 := Own.res (U := [(0, 0), (1, 12)]) (j := 12) HO502 hs499 (by rfl) (by decide) rfl rfl
        replace hs499 := Step.lift (U := [(0, 0), (1, 12)]) hs499 [12] rfl rfl
        generalize up C488_ C498 w487.heap.size [(0, 0), (1, 12)] = C498_ at HO502 hs499
        replace HJ469 := HJ469.thru hs499 rfl
        replace HJ470 := HJ470.thru hs499 rfl
        replace HJ473 := HJ473.thru hs499 rfl
        replace HJ472 := HJ472.thru hs499 rfl
        replace HS468 := HS468.trans hs499 hc rfl
        refine hK_ _ _ (HJ473).2 ?_
        clear hK_ K_
        (try simp only [Act.put, List.setIfInBounds_toArray, List.set_cons_zero, List.set_cons_succ])
        refine al_pure 7 1 (.slice A500 t494.length cp501) #[true, true, true, true, true, true, true, true] rfl rfl (by kernel_rfl) (fun _ _ _ h_ => h_) rfl (fun w_ => xr_assign (.slice A500 t494.length cp501) rfl rfl) ?_
        simp only [List.set_cons_zero, List.set_cons_succ]
        refine al_end (by kernel_rfl) ?_
        (try simp only [Act.put, List.setIfInBounds_toArray, List.set_cons_zero, List.set_cons_succ])
        refine hK482 _ _ ?_
        (try clear hK482 K482)
        refine wp_seq_k fun K504 hK504 => ?_
        refine wl_region ?_
        refine st (.slice A500 t494.length cp501) rfl rfl (xr_move (.slice A500 t494.length cp501) rfl rfl) ?_
        simp only [List.set_cons_zero, List.set_cons_succ]
        refine st (v0) rfl rfl (xr_move (v0) rfl rfl) ?_
        simp only [List.set_cons_zero, List.set_cons_succ]
        refine st (.pointer (some ⟨g437, 0, none⟩)) rfl rfl (xr_fieldAddr (.pointer (some ⟨g437, 0, none⟩)) (.pointer (some ⟨g437, 0, none⟩)) rfl rfl (bx_field Try.underlying63 rfl rfl (by decide) rfl)) ?_
        simp only [List.set_cons_zero, List.set_cons_succ]
        refine st (.int .i64 a2_0) rfl rfl (xr_load (.pointer (some ⟨g437, 0, none⟩)) (.int .i64 a2_0) rfl rfl (load_cell Try.underlying3 rfl (bx_cell (l := [.int .i64 a2_0, .slice A2_1 l2_1.length c2_1]) (HJ473).2 0 rfl))) ?_
        simp only [List.set_cons_zero, List.set_cons_succ]
        refine st (.int .u8 ((a2_0) % 256)) rfl rfl (xr_conv (.int .i64 a2_0) (.int .u8 ((a2_0) % 256)) rfl rfl (by first | rfl | (go_simp; done) | (go_simp; rfl) | (go_simp; exact i64_w _) | (go_simp; exact i32_w _))) ?_
        simp only [List.set_cons_zero, List.set_cons_succ]
        refine st (.pointer (some ⟨g437, 1, none⟩)) rfl rfl (xr_fieldAddr (.pointer (some ⟨g437, 0, none⟩)) (.pointer (some ⟨g437, 1, none⟩)) rfl rfl (bx_field Try.underlying63 rfl rfl (by decide) rfl)) ?_
        simp only [List.set_cons_zero, List.set_cons_succ]
        refine st (.slice A2_1 l2_1.length c2_1) rfl rfl (xr_load (.pointer (some ⟨g437, 1, none⟩)) (.slice A2_1 l2_1.length c2_1) rfl rfl (load_cell Try.underlying23 rfl (bx_cell (l := [.int .i64 a2_0, .slice A2_1 l2_1.length c2_1]) (HJ473).2 1 rfl))) ?_
        simp only [List.set_cons_zero, List.set_cons_succ]
        obtain ⟨⟨t505, t506⟩, A507, H⟩ := Option.bind_eq_some_iff.mp H
        (try dsimp only at H)
        refine st_call #[v0, .int .u8 ((a2_0) % 256), .slice A2_1 l2_1.length c2_1] rfl rfl Try.func50 (by kernel_rfl) rfl rfl (by simp only [List.map_toArray, List.map_cons, List.map_nil]; first | done | rfl) ?_
        refine (record_sum.calls v0 x0 ((a2_0) % 256) A2_1 c2_1 l2_1 t505 t506  (fun z_ => pal [(0, 0), (1, 1)] (C498_ z_)) w497 (fun _ => pal_lt rfl _) (Ft.arg HJ469 rfl) (Ft.arg HJ472 rfl) HCP2_1 A507).mono ?_
        rintro _ w509 ⟨C510, rfl, hs511, HM512⟩
        refine ⟨_, rfl, ?_⟩
        replace HM512 := Ft.res (U := [(0, 0), (1, 1)]) HM512 hs511 [1] rfl rfl rfl
        replace hs511 := Step.lift (U := [(0, 0), (1, 1)]) hs511 [1] rfl rfl
        generalize up C498_ C510 w497.heap.size [(0, 0), (1, 1)] = C510_ at HM512 hs511
        replace HO502 := HO502.thru hs511 rfl
        replace HJ473 := HJ473.thru hs511 rfl
        replace HJ472 := HJ472.thru hs511 rfl
        replace HS468 := HS468.trans hs511 hc rfl
        (try simp only [Act.put, List.setIfInBounds_toArray, List.set_cons_zero, List.set_cons_succ])
        obtain ⟨t513, A514, H⟩ := Option.bind_eq_some_iff.mp H
        (try dsimp only at H)
        refine st_call #[.slice A500 t494.length cp501, .int .u32 t505] rfl rfl Try.func19 (by kernel_rfl) rfl rfl (by simp only [List.map_toArray, List.map_cons, List.map_nil]; first | done | rfl) ?_
        refine (num_Put4.calls A500 cp501 t494 t505 t513  (fun z_ => pal [(0, 0), (12, 1)] (C510_ z_)) w509 (fun _ => pal_lt rfl _) (Own.arg HO502 rfl rfl) HC503 A514).mono ?_
        rintro _ w516 ⟨C517, A519, cp520, rfl, hs518, HO521, HC522⟩
        refine ⟨_, rfl, ?_⟩
        replace HO521 := Own.res (U := [(0, 0), (1, 12)]) (j := 12) HO521 hs518 (by rfl) (by decide) rfl rfl
        replace hs518 := Step.lift (U := [(0, 0), (1, 12)]) hs518 [12] rfl rfl
        generalize up C510_ C517 w509.heap.size [(0, 0), (1, 12)] = C517_ at HO521 hs518
        replace HM512 := HM512.thru hs518 rfl
        replace HJ473 := HJ473.thru hs518 rfl
        replace HJ472 := HJ472.thru hs518 rfl
        replace HS468 := HS468.trans hs518 hc rfl
        (try simp only [Act.put, List.setIfInBounds_toArray, List.set_cons_zero, List.set_cons_succ])
        refine st (.slice A519 t513.length cp520) rfl rfl (xr_assign (.slice A519 t513.length cp520) rfl rfl) ?_
        simp only [List.set_cons_zero, List.set_cons_succ]
        refine wl_end ?_
        (try simp only [Act.put, List.setIfInBounds_toArray, List.set_cons_zero, List.set_cons_succ])
        refine hK504 _ _ ?_
        (try clear hK504 K504)
        refine wp_seq_k fun K523 hK523 => ?_
        (try simp only [Act.put, List.setIfInBounds_toArray, List.set_cons_zero, List.set_cons_succ])
        refine al_start #[false, false, false, false, false, false, false, false, false, false, false] rfl rfl rfl (fun w_ => w_.heap[g437]? = some (.cells (List.toArray [.int .i64 a2_0, .slice A2_1 l2_1.length c2_1]) 63 (0, 0))) (HJ473.drew).2 ?_
        replace HM512 := HM512.drew
        replace HO521 := HO521.drew
        replace HJ473 := HJ473.drew
        replace HJ472 := HJ472.drew
        replace HS468 := Step.ofDrew HS468
        generalize w516.drew = w524 at *
        refine al_pure 0 40 (.slice A519 t513.length cp520) #[true, false, false, false, false, false, false, false, false, false, false] rfl rfl (by kernel_rfl) (fun _ _ _ h_ => h_) rfl (fun w_ => xr_move (.slice A519 t513.length cp520) rfl rfl) ?_
        simp only [List.set_cons_zero, List.set_cons_succ]
        refine al_pure 1 41 (.pointer (some ⟨g437, 0, none⟩)) #[true, true, false, false, false, false, false, false, false, false, false] rfl rfl (by kernel_rfl) (fun _ _ _ h_ => h_) rfl (fun w_ => xr_fieldAddr (.pointer (some ⟨g437, 0, none⟩)) (.pointer (some ⟨g437, 0, none⟩)) rfl rfl (bx_field Try.underlying63 rfl rfl (by decide) rfl)) ?_
        simp only [List.set_cons_zero, List.set_cons_succ]
        refine al_pure 6 46 (.pointer (some ⟨g437, 1, none⟩)) #[true, true, false, false, false, false, true, false, false, false, false] rfl rfl (by kernel_rfl) (fun _ _ _ h_ => h_) rfl (fun w_ => xr_fieldAddr (.pointer (some ⟨g437, 0, none⟩)) (.pointer (some ⟨g437, 1, none⟩)) rfl rfl (bx_field Try.underlying63 rfl rfl (by decide) rfl)) ?_
        simp only [List.set_cons_zero, List.set_cons_succ]
        refine al_take 2 42 (.int .i64 a2_0) #[true, true, true, false, false, false, true, false, false, false, false] rfl rfl (by kernel_rfl) (fun _ _ _ h_ => h_) rfl (fun w_ hS_ => xr_load (.pointer (some ⟨g437, 0, none⟩)) (.int .i64 a2_0) rfl rfl (load_cell Try.underlying3 rfl (bx_cell (l := [.int .i64 a2_0, .slice A2_1 l2_1.length c2_1]) hS_ 0 rfl))) (HJ473).2 ?_
        simp only [List.set_cons_zero, List.set_cons_succ]
        refine al_pure 3 43 (.int .u8 ((a2_0) % 256)) #[true, true, true, true, false, false, true, false, false, false, false] rfl rfl (by kernel_rfl) (fun _ _ _ h_ => h_) rfl (fun w_ => xr_conv (.int .i64 a2_0) (.int .u8 ((a2_0) % 256)) rfl rfl (by first | rfl | (go_simp; done) | (go_simp; rfl) | (go_simp; exact i64_w _) | (go_simp; exact i32_w _))) ?_
        simp only [List.set_cons_zero, List.set_cons_succ]
        refine al_take 7 47 (.slice A2_1 l2_1.length c2_1) #[true, true, true, true, false, false, true, true, false, false, false] rfl rfl (by kernel_rfl) (fun _ _ _ h_ => h_) rfl (fun w_ hS_ => xr_load (.pointer (some ⟨g437, 1, none⟩)) (.slice A2_1 l2_1.length c2_1) rfl rfl (load_cell Try.underlying23 rfl (bx_cell (l := [.int .i64 a2_0, .slice A2_1 l2_1.length c2_1]) hS_ 1 rfl))) (HJ473).2 ?_
        simp only [List.set_cons_zero, List.set_cons_succ]
        refine al_one 4 #[true, true, true, true, true, false, true, true, false, false, false] rfl rfl (by kernel_rfl) (fun K_ hK_ => ?_)
        refine value_ (w1 := w524.alloc (.cells #[.int .u8 ((a2_0) % 256)] 5)) (v := .slice (some ⟨w524.heap.size, 0, none⟩) 1 1) rfl rfl (by first | (go_simp; done) | (go_simp; rfl)) ?_
        refine hK_ _ _ (HJ473.alloc _).2 ?_
        clear hK_ K_
        (try simp only [Act.put, List.setIfInBounds_toArray, List.set_cons_zero, List.set_cons_succ])
        by_cases c525 : t513.length < 140737488355328
        · rw [if_pos c525] at H
          obtain ⟨y526, A527, H⟩ := Option.bind_eq_some_iff.mp H
          (try dsimp only at H)
          refine al_one 5 #[true, true, true, true, true, true, true, true, false, false, false] rfl rfl (by kernel_rfl) (fun K_ hK_ => ?_)
          refine Own.append_step (Kd.int .u8) (C := C517_) (i := 12) rfl (.tmp 40) (.tmp 44) 23 5 (.int .u8 0) 1 rfl Try.underlying23 info5 rfl (by decide) (by decide) (.slice A519 t513.length cp520) t513 ((a2_0) % 256) [.int .u8 ((a2_0) % 256)] rfl rfl (fk_int .u8 _ _ ((a2_0) % 256)) HO521 (by decide) (by omega) (Option.some.inj A527) ?_
          intro A528 cp529 w530 C531 HO532 HC533 hs534
          replace HM512 := HM512.thru hs534 rfl
          replace HJ473 := HJ473.thru hs534 rfl
          replace HJ472 := HJ472.thru hs534 rfl
          replace HS468 := HS468.trans hs534 hc rfl
          refine hK_ _ _ (HJ473).2 ?_
          clear hK_ K_
          (try simp only [Act.put, List.setIfInBounds_toArray, List.set_cons_zero, List.set_cons_succ])
          by_cases c535 : y526.length + l2_1.length < 140737488355328
          · rw [if_pos c535] at H
            obtain ⟨y536, A537, H⟩ := Option.bind_eq_some_iff.mp H
            (try dsimp only at H)
            refine al_one 8 #[true, true, true, true, true, true, true, true, true, false, false] rfl rfl (by kernel_rfl) (fun K_ hK_ => ?_)
            refine Own.append_rows_step (Kd.int .u8) (C := C531) (i := 12) rfl (.tmp 45) (.tmp 47) 23 5 (.int .u8 0) 1 rfl Try.underlying23 info5 rfl (by decide) (by decide) (.slice A528 y526.length cp529) y526 l2_1 A2_1 l2_1.length c2_1 rfl rfl HO532 HJ472 (by decide) (by omega) (Option.some.inj A537) ?_
            intro A538 cp539 w540 C541 HO542 HC543 hs544
            replace HM512 := HM512.thru hs544 rfl
            replace HJ473 := HJ473.thru hs544 rfl
            replace HJ472 := HJ472.thru hs544 rfl
            replace HS468 := HS468.trans hs544 hc rfl
            refine hK_ _ _ (HJ473).2 ?_
            clear hK_ K_
            (try simp only [Act.put, List.setIfInBounds_toArray, List.set_cons_zero, List.set_cons_succ])
            refine al_pure 9 6 (.slice A538 y536.length cp539) #[true, true, true, true, true, true, true, true, true, true, false] rfl rfl (by kernel_rfl) (fun _ _ _ h_ => h_) rfl (fun w_ => xr_assign (.slice A538 y536.length cp539) rfl rfl) ?_
            simp only [List.set_cons_zero, List.set_cons_succ]
            refine al_pure 10 7 (.int .i64 0) #[true, true, true, true, true, true, true, true, true, true, true] rfl rfl (by kernel_rfl) (fun _ _ _ h_ => h_) rfl (fun w_ => xr_assign (.int .i64 0) rfl rfl) ?_
            simp only [List.set_cons_zero, List.set_cons_succ]
            refine al_end (by kernel_rfl) ?_
            (try simp only [Act.put, List.setIfInBounds_toArray, List.set_cons_zero, List.set_cons_succ])
            refine hK523 _ _ ?_
            (try clear hK523 K523)
            refine wp_ret ?_
            (try simp only [Exit.inBlock, Exit.then, Exit.noGoto])
            (try simp only [Act.put, List.setIfInBounds_toArray, List.set_cons_zero, List.set_cons_succ])
            replace HM512 := Ft.recol (a := 12) (b := 0) HM512 (.inl rfl)
            replace HJ473 := Bx.recol (a := 12) (b := 0) HJ473 (by decide)
            replace HJ472 := Ft.recol (a := 12) (b := 0) HJ472 (.inl rfl)
            have HR545 := Ft.recolor (a := 12) (b := 0) (HO542.ft) [0] rfl
            replace HS468 := Step.recol (a := 12) (b := 0) HS468 hc (by decide)
            simp only [Option.some.injEq, Prod.mk.injEq] at H
            obtain ⟨rfl, rfl, rfl⟩ := H
            refine bodyPost_ret (results_tmp2 rfl _ _ _) rfl ?_
            exact ⟨_, A538, cp539, rfl, HS468, HR545, HC543, HM512⟩
          · rw [if_neg c535] at H
            exact absurd H (by simp)
        · rw [if_neg c525] at H
          exact absurd H (by simp)
  refine wl_region ?_
  refine st (.pointer (some ⟨g437, 0, none⟩)) rfl rfl (xr_fieldAddr (.pointer (some ⟨g437, 0, none⟩)) (.pointer (some ⟨g437, 0, none⟩)) rfl rfl (bx_field Try.underlying63 rfl rfl (by decide) rfl)) ?_
  simp only [List.set_cons_zero, List.set_cons_succ]
  refine st (.int .i64 a2_0) rfl rfl (xr_load (.pointer (some ⟨g437, 0, none⟩)) (.int .i64 a2_0) rfl rfl (load_cell Try.underlying3 rfl (bx_cell (l := [.int .i64 a2_0, .slice A2_1 l2_1.length c2_1]) (HX440).2 0 rfl))) ?_
  simp only [List.set_cons_zero, List.set_cons_succ]
  refine st (.bool (decide (a2_0 < 0))) rfl rfl (xr_bin (.int .i64 a2_0) (.int .i64 0) (.bool (decide (a2_0 < 0))) rfl rfl rfl (B.lss_i64 a2_0 0)) ?_
  simp only [List.set_cons_zero, List.set_cons_succ]
  refine st (.bool (decide (a2_0 < 0))) rfl rfl (xr_move (.bool (decide (a2_0 < 0))) rfl rfl) ?_
  simp only [List.set_cons_zero, List.set_cons_succ]
  by_cases c546 : a2_0 < 0
  · rw [if_pos c546] at H
    (try rw [(decide_eq_true c546)])
    (try simp only [Bool.not_true, Bool.not_false])
    refine sk_guard (guard_off 3 false 12 rfl rfl true (by decide) rfl) rfl ?_
    simp only [List.set_cons_zero, List.set_cons_succ]
    refine sk_guard (guard_off 3 false 12 rfl rfl true (by decide) rfl) rfl ?_
    simp only [List.set_cons_zero, List.set_cons_succ]
    refine sk_guard (guard_off 3 false 12 rfl rfl true (by decide) rfl) rfl ?_
    simp only [List.set_cons_zero, List.set_cons_succ]
    refine st (.bool true) rfl rfl (xr_pick true (.bool true) rfl rfl rfl) ?_
    simp only [List.set_cons_zero, List.set_cons_succ]
    refine st (.bool true) rfl rfl (xr_assign (.bool true) rfl rfl) ?_
    simp only [List.set_cons_zero, List.set_cons_succ]
    refine wl_end ?_
    (try simp only [Act.put, List.setIfInBounds_toArray, List.set_cons_zero, List.set_cons_succ])
    exact hj465 _ _ (true) (fun q_ => List.getD [undef, undef, .agg #[.int .i64 a2_0, .slice A2_1 l2_1.length c2_1], undef, undef, undef, .slice none 0 0, .int .i64 0, undef, .pointer (some ⟨g437, 0, none⟩), .int .i64 a2_0, .bool true, .bool true, undef, undef, undef, .bool true, undef, undef, undef, undef, undef, undef, undef, undef, undef, undef, undef, undef, undef, undef, undef, undef, undef, undef, undef, undef, undef, undef, undef, undef, undef, undef, undef, undef, undef, undef, undef, undef] q_ undef)  HS HP0 HP1 HP2_1 HX440 H
  · rw [if_neg c546] at H
    (try rw [(decide_eq_false c546)])
    (try simp only [Bool.not_true, Bool.not_false])
    refine on_guard (guard_on 3 false 12 rfl rfl rfl) ?_
    refine st (.pointer (some ⟨g437, 0, none⟩)) rfl rfl (xr_fieldAddr (.pointer (some ⟨g437, 0, none⟩)) (.pointer (some ⟨g437, 0, none⟩)) rfl rfl (bx_field Try.underlying63 rfl rfl (by decide) rfl)) ?_
    simp only [List.set_cons_zero, List.set_cons_succ]
    refine on_guard (guard_on 3 false 12 rfl rfl rfl) ?_
    refine st (.int .i64 a2_0) rfl rfl (xr_load (.pointer (some ⟨g437, 0, none⟩)) (.int .i64 a2_0) rfl rfl (load_cell Try.underlying3 rfl (bx_cell (l := [.int .i64 a2_0, .slice A2_1 l2_1.length c2_1]) (HX440).2 0 rfl))) ?_
    simp only [List.set_cons_zero, List.set_cons_succ]
    refine on_guard (guard_on 3 false 12 rfl rfl rfl) ?_
    refine st (.bool (decide (a2_0 > 255))) rfl rfl (xr_bin (.int .i64 a2_0) (.int .i64 255) (.bool (decide (a2_0 > 255))) rfl rfl rfl (B.gtr_i64 a2_0 255)) ?_
    simp only [List.set_cons_zero, List.set_cons_succ]
    refine st (.bool (decide (a2_0 > 255))) rfl rfl (xr_pick false (.bool (decide (a2_0 > 255))) rfl rfl rfl) ?_
    simp only [List.set_cons_zero, List.set_cons_succ]
    refine st (.bool (decide (a2_0 > 255))) rfl rfl (xr_assign (.bool (decide (a2_0 > 255))) rfl rfl) ?_
    simp only [List.set_cons_zero, List.set_cons_succ]
    refine wl_end ?_
    (try simp only [Act.put, List.setIfInBounds_toArray, List.set_cons_zero, List.set_cons_succ])
    exact hj465 _ _ (decide (a2_0 > 255)) (fun q_ => List.getD [undef, undef, .agg #[.int .i64 a2_0, .slice A2_1 l2_1.length c2_1], undef, undef, undef, .slice none 0 0, .int .i64 0, undef, .pointer (some ⟨g437, 0, none⟩), .int .i64 a2_0, .bool false, .bool false, .pointer (some ⟨g437, 0, none⟩), .int .i64 a2_0, .bool (decide (a2_0 > 255)), .bool (decide (a2_0 > 255)), undef, undef, undef, undef, undef, undef, undef, undef, undef, undef, undef, undef, undef, undef, undef, undef, undef, undef, undef, undef, undef, undef, undef, undef, undef, undef, undef, undef, undef, undef, undef, undef] q_ undef)  HS HP0 HP1 HP2_1 HX440 H

/-! ### num_Get4: function 20 -/
def num_Get4.f (l0 : List Int) : Option (Int × Int) := if (l0.length : Int) < 4 then (some (0, 2)) else (if 0 < (l0.length : Int) then (if 1 < (l0.length : Int) then (if 2 < (l0.length : Int) then (if 3 < (l0.length : Int) then (some (Go.bits .or .u32 (Go.bits .or .u32 (Go.bits .or .u32 ((rd l0 0) % 4294967296) (shl .u32 ((rd l0 1) % 4294967296) 8)) (shl .u32 ((rd l0 2) % 4294967296) 16)) (shl .u32 ((rd l0 3) % 4294967296) 24), 0)) else (none)) else (none)) else (none)) else (none))
set_option maxHeartbeats 2000000 in
set_option maxRecDepth 100000 in
theorem num_Get4.calls (A0 : Option Addr) (c0 : Nat) (l0 : List Int) (r1 : Int) (r2 : Int) (c : Nat → Nat) (w : World) (hc : ∀ k, c k < 10) (HP0 : Ft c [0] w (fun w_ => (Kd.int .u8).C w_ A0 l0.length l0)) (HCP0 : l0.length ≤ c0) (H : num_Get4.f l0 = some (r1, r2)) :
    Calls Try.prog 20 #[.slice A0 l0.length c0] w fun e w' => ∃ (c' : Nat → Nat) , e = .returned (.tuple #[.int .u32 r1, .int .i64 r2]) ∧ Step c w c' w' [] := by
  unfold num_Get4.f at H
  have HS := Step.refl c w []
  go_enter Try.func20, Try.ntmps20
  refine wp_seq_k fun K566 hK566 => ?_
  refine wl_region ?_
  refine st (.int .u32 0) rfl rfl (xr_assign (.int .u32 0) rfl rfl) ?_
  simp only [List.set_cons_zero, List.set_cons_succ]
  refine st (.int .i64 0) rfl rfl (xr_assign (.int .i64 0) rfl rfl) ?_
  simp only [List.set_cons_zero, List.set_cons_succ]
  refine wl_end ?_
  (try simp only [Act.put, List.setIfInBounds_toArray, List.set_cons_zero, List.set_cons_succ])
  refine hK566 _ _ ?_
  (try clear hK566 K566)
  refine wp_seq_k fun K567 hK567 => ?_
  refine wp_seq_k fun K568 hK568 => ?_
  refine wl_region ?_
  refine st (.slice A0 l0.length c0) rfl rfl (xr_move (.slice A0 l0.length c0) rfl rfl) ?_
  simp only [List.set_cons_zero, List.set_cons_succ]
  refine st (.int .i64 (l0.length : Int)) rfl rfl (xr_builtin #[.slice A0 l0.length c0] (.int .i64 (l0.length : Int)) rfl (by simp only [List.map_toArray, List.map_cons, List.map_nil]; first | done | rfl) (by first | rfl | (go_simp; done) | (go_simp; rfl) | (go_simp; exact i64_w _) | (go_simp; exact i32_w _))) ?_
  simp only [List.set_cons_zero, List.set_cons_succ]
  refine st (.bool (decide ((l0.length : Int) < 4))) rfl rfl (xr_bin (.int .i64 (l0.length : Int)) (.int .i64 4) (.bool (decide ((l0.length : Int) < 4))) rfl rfl rfl (B.lss_i64 (l0.length : Int) 4)) ?_
  simp only [List.set_cons_zero, List.set_cons_succ]
  refine wl_end ?_
  (try simp only [Act.put, List.setIfInBounds_toArray, List.set_cons_zero, List.set_cons_succ])
  refine hK568 _ _ ?_
  (try clear hK568 K568)
  by_cases c569 : (l0.length : Int) < 4
  · rw [if_pos c569] at H
    (try rw [(decide_eq_true c569)])
    (try simp only [Bool.not_true, Bool.not_false])
    refine wp_cond_true rfl ?_
    refine wp_seq_k fun K570 hK570 => ?_
    refine wl_region ?_
    refine st (.int .u32 0) rfl rfl (xr_assign (.int .u32 0) rfl rfl) ?_
    simp only [List.set_cons_zero, List.set_cons_succ]
    refine st (.int .i64 2) rfl rfl (xr_assign (.int .i64 2) rfl rfl) ?_
    simp only [List.set_cons_zero, List.set_cons_succ]
    refine wl_end ?_
    (try simp only [Act.put, List.setIfInBounds_toArray, List.set_cons_zero, List.set_cons_succ])
    refine hK570 _ _ ?_
    (try clear hK570 K570)
    refine wp_ret ?_
    (try simp only [Exit.inBlock, Exit.then, Exit.noGoto])
    (try simp only [Act.put, List.setIfInBounds_toArray, List.set_cons_zero, List.set_cons_succ])
    simp only [Option.some.injEq, Prod.mk.injEq] at H
    obtain ⟨rfl, rfl⟩ := H
    refine bodyPost_ret (results_tmp2 rfl _ _ _) rfl ?_
    exact ⟨_, rfl, HS⟩
  · rw [if_neg c569] at H
    (try rw [(decide_eq_false c569)])
    (try simp only [Bool.not_true, Bool.not_false])
    refine wp_cond_false rfl ?_
    refine wp_skip ?_
    (try simp only [Act.put, List.setIfInBounds_toArray, List.set_cons_zero, List.set_cons_succ])
    refine hK567 _ _ ?_
    (try clear hK567 K567)
    refine wp_seq_k fun K571 hK571 => ?_
    (try simp only [Act.put, List.setIfInBounds_toArray, List.set_cons_zero, List.set_cons_succ])
    refine al_start #[false, false, false, false, false, false, false, false, false, false, false, false, false, false, false, false, false, false, false, false, false, false, false, false] rfl rfl rfl (fun w_ => (Kd.int .u8).C w_ A0 l0.length l0) (Ft.now (HP0).drew) ?_
    replace HP0 := HP0.drew
    replace HS := Step.ofDrew HS
    generalize w.drew = w572 at *
    refine al_pure 0 7 (.slice A0 l0.length c0) #[true, false, false, false, false, false, false, false, false, false, false, false, false, false, false, false, false, false, false, false, false, false, false, false] rfl rfl (by kernel_rfl) (fun _ _ _ h_ => h_) rfl (fun w_ => xr_move (.slice A0 l0.length c0) rfl rfl) ?_
    simp only [List.set_cons_zero, List.set_cons_succ]
    by_cases c573 : 0 < (l0.length : Int)
    · rw [if_pos c573] at H
      obtain ⟨ad574, hA575⟩ := c_addr (Ft.now HP0) (pos_of (j := 0) (by first | assumption | decide) (by first | assumption | omega))
      refine al_pure 1 8 (.pointer (some (ad574.add ((0 : Int).toNat * 1)))) #[true, true, false, false, false, false, false, false, false, false, false, false, false, false, false, false, false, false, false, false, false, false, false, false] rfl rfl (by kernel_rfl) (fun _ _ _ h_ => h_) rfl (fun w_ => xr_indexAddr (.slice A0 l0.length c0) (.int .i64 0) (.pointer (some (ad574.add ((0 : Int).toNat * 1)))) rfl rfl rfl (index_at Try.underlying23 info5 hA575 (by first | assumption | decide | omega) (by first | assumption | decide | omega))) ?_
      simp only [List.set_cons_zero, List.set_cons_succ]
      refine al_pure 4 11 (.slice A0 l0.length c0) #[true, true, false, false, true, false, false, false, false, false, false, false, false, false, false, false, false, false, false, false, false, false, false, false] rfl rfl (by kernel_rfl) (fun _ _ _ h_ => h_) rfl (fun w_ => xr_move (.slice A0 l0.length c0) rfl rfl) ?_
      simp only [List.set_cons_zero, List.set_cons_succ]
      by_cases c576 : 1 < (l0.length : Int)
      · rw [if_pos c576] at H
        obtain ⟨ad577, hA578⟩ := c_addr (Ft.now HP0) (pos_of (j := 1) (by first | assumption | decide) (by first | assumption | omega))
        refine al_pure 5 12 (.pointer (some (ad577.add ((1 : Int).toNat * 1)))) #[true, true, false, false, true, true, false, false, false, false, false, false, false, false, false, false, false, false, false, false, false, false, false, false] rfl rfl (by kernel_rfl) (fun _ _ _ h_ => h_) rfl (fun w_ => xr_indexAddr (.slice A0 l0.length c0) (.int .i64 1) (.pointer (some (ad577.add ((1 : Int).toNat * 1)))) rfl rfl rfl (index_at Try.underlying23 info5 hA578 (by first | assumption | decide | omega) (by first | assumption | decide | omega))) ?_
        simp only [List.set_cons_zero, List.set_cons_succ]
        refine al_pure 10 17 (.slice A0 l0.length c0) #[true, true, false, false, true, true, false, false, false, false, true, false, false, false, false, false, false, false, false, false, false, false, false, false] rfl rfl (by kernel_rfl) (fun _ _ _ h_ => h_) rfl (fun w_ => xr_move (.slice A0 l0.length c0) rfl rfl) ?_
        simp only [List.set_cons_zero, List.set_cons_succ]
        by_cases c579 : 2 < (l0.length : Int)
        · rw [if_pos c579] at H
          obtain ⟨ad580, hA581⟩ := c_addr (Ft.now HP0) (pos_of (j := 2) (by first | assumption | decide) (by first | assumption | omega))
          refine al_pure 11 18 (.pointer (some (ad580.add ((2 : Int).toNat * 1)))) #[true, true, false, false, true, true, false, false, false, false, true, true, false, false, false, false, false, false, false, false, false, false, false, false] rfl rfl (by kernel_rfl) (fun _ _ _ h_ => h_) rfl (fun w_ => xr_indexAddr (.slice A0 l0.length c0) (.int .i64 2) (.pointer (some (ad580.add ((2 : Int).toNat * 1)))) rfl rfl rfl (index_at Try.underlying23 info5 hA581 (by first | assumption | decide | omega) (by first | assumption | decide | omega))) ?_
          simp only [List.set_cons_zero, List.set_cons_succ]
          refine al_pure 16 23 (.slice A0 l0.length c0) #[true, true, false, false, true, true, false, false, false, false, true, true, false, false, false, false, true, false, false, false, false, false, false, false] rfl rfl (by kernel_rfl) (fun _ _ _ h_ => h_) rfl (fun w_ => xr_move (.slice A0 l0.length c0) rfl rfl) ?_
          simp only [List.set_cons_zero, List.set_cons_succ]
          by_cases c582 : 3 < (l0.length : Int)
          · rw [if_pos c582] at H
            obtain ⟨ad583, hA584⟩ := c_addr (Ft.now HP0) (pos_of (j := 3) (by first | assumption | decide) (by first | assumption | omega))
            refine al_pure 17 24 (.pointer (some (ad583.add ((3 : Int).toNat * 1)))) #[true, true, false, false, true, true, false, false, false, false, true, true, false, false, false, false, true, true, false, false, false, false, false, false] rfl rfl (by kernel_rfl) (fun _ _ _ h_ => h_) rfl (fun w_ => xr_indexAddr (.slice A0 l0.length c0) (.int .i64 3) (.pointer (some (ad583.add ((3 : Int).toNat * 1)))) rfl rfl rfl (index_at Try.underlying23 info5 hA584 (by first | assumption | decide | omega) (by first | assumption | decide | omega))) ?_
            simp only [List.set_cons_zero, List.set_cons_succ]
            refine al_take 2 9 (.int .u8 (rd l0 0)) #[true, true, true, false, true, true, false, false, false, false, true, true, false, false, false, false, true, true, false, false, false, false, false, false] rfl rfl (by kernel_rfl) (fun _ _ _ h_ => h_) rfl (fun w_ hS_ => xr_load (.pointer (some (ad574.add ((0 : Int).toNat * 1)))) (.int .u8 (rd l0 0)) rfl rfl (load_int Try.underlying5 rfl hA575 hS_ (by first | assumption | decide | omega) (by first | assumption | decide | omega))) (Ft.now HP0) ?_
            simp only [List.set_cons_zero, List.set_cons_succ]
            refine al_pure 3 10 (.int .u32 ((rd l0 0) % 4294967296)) #[true, true, true, true, true, true, false, false, false, false, true, true, false, false, false, false, true, true, false, false, false, false, false, false] rfl rfl (by kernel_rfl) (fun _ _ _ h_ => h_) rfl (fun w_ => xr_conv (.int .u8 (rd l0 0)) (.int .u32 ((rd l0 0) % 4294967296)) rfl rfl (by first | rfl | (go_simp; done) | (go_simp; rfl) | (go_simp; exact i64_w _) | (go_simp; exact i32_w _))) ?_
            simp only [List.set_cons_zero, List.set_cons_succ]
            refine al_take 6 13 (.int .u8 (rd l0 1)) #[true, true, true, true, true, true, true, false, false, false, true, true, false, false, false, false, true, true, false, false, false, false, false, false] rfl rfl (by kernel_rfl) (fun _ _ _ h_ => h_) rfl (fun w_ hS_ => xr_load (.pointer (some (ad577.add ((1 : Int).toNat * 1)))) (.int .u8 (rd l0 1)) rfl rfl (load_int Try.underlying5 rfl hA578 hS_ (by first | assumption | decide | omega) (by first | assumption | decide | omega))) (Ft.now HP0) ?_
            simp only [List.set_cons_zero, List.set_cons_succ]
            refine al_pure 7 14 (.int .u32 ((rd l0 1) % 4294967296)) #[true, true, true, true, true, true, true, true, false, false, true, true, false, false, false, false, true, true, false, false, false, false, false, false] rfl rfl (by kernel_rfl) (fun _ _ _ h_ => h_) rfl (fun w_ => xr_conv (.int .u8 (rd l0 1)) (.int .u32 ((rd l0 1) % 4294967296)) rfl rfl (by first | rfl | (go_simp; done) | (go_simp; rfl) | (go_simp; exact i64_w _) | (go_simp; exact i32_w _))) ?_
            simp only [List.set_cons_zero, List.set_cons_succ]
            refine al_pure 8 15 (.int .u32 (shl .u32 ((rd l0 1) % 4294967296) 8)) #[true, true, true, true, true, true, true, true, true, false, true, true, false, false, false, false, true, true, false, false, false, false, false, false] rfl rfl (by kernel_rfl) (fun _ _ _ h_ => h_) rfl (fun w_ => xr_bin (.int .u32 ((rd l0 1) % 4294967296)) (.int .u64 8) (.int .u32 (shl .u32 ((rd l0 1) % 4294967296) 8)) rfl rfl rfl (B.shl_u32_u64 ((rd l0 1) % 4294967296) 8 (by decide))) ?_
            simp only [List.set_cons_zero, List.set_cons_succ]
            refine al_pure 9 16 (.int .u32 (Go.bits .or .u32 ((rd l0 0) % 4294967296) (shl .u32 ((rd l0 1) % 4294967296) 8))) #[true, true, true, true, true, true, true, true, true, true, true, true, false, false, false, false, true, true, false, false, false, false, false, false] rfl rfl (by kernel_rfl) (fun _ _ _ h_ => h_) rfl (fun w_ => xr_bin (.int .u32 ((rd l0 0) % 4294967296)) (.int .u32 (shl .u32 ((rd l0 1) % 4294967296) 8)) (.int .u32 (Go.bits .or .u32 ((rd l0 0) % 4294967296) (shl .u32 ((rd l0 1) % 4294967296) 8))) rfl rfl rfl (B.or_u32 ((rd l0 0) % 4294967296) (shl .u32 ((rd l0 1) % 4294967296) 8))) ?_
            simp only [List.set_cons_zero, List.set_cons_succ]
            refine al_take 12 19 (.int .u8 (rd l0 2)) #[true, true, true, true, true, true, true, true, true, true, true, true, true, false, false, false, true, true, false, false, false, false, false, false] rfl rfl (by kernel_rfl) (fun _ _ _ h_ => h_) rfl (fun w_ hS_ => xr_load (.pointer (some (ad580.add ((2 : Int).toNat * 1)))) (.int .u8 (rd l0 2)) rfl rfl (load_int Try.underlying5 rfl hA581 hS_ (by first | assumption | decide | omega) (by first | assumption | decide | omega))) (Ft.now HP0) ?_
            simp only [List.set_cons_zero, List.set_cons_succ]
            refine al_pure 13 20 (.int .u32 ((rd l0 2) % 4294967296)) #[true, true, true, true, true, true, true, true, true, true, true, true, true, true, false, false, true, true, false, false, false, false, false, false] rfl rfl (by kernel_rfl) (fun _ _ _ h_ => h_) rfl (fun w_ => xr_conv (.int .u8 (rd l0 2)) (.int .u32 ((rd l0 2) % 4294967296)) rfl rfl (by first | rfl | (go_simp; done) | (go_simp; rfl) | (go_simp; exact i64_w _) | (go_simp; exact i32_w _))) ?_
            simp only [List.set_cons_zero, List.set_cons_succ]
            refine al_pure 14 21 (.int .u32 (shl .u32 ((rd l0 2) % 4294967296) 16)) #[true, true, true, true, true, true, true, true, true, true, true, true, true, true, true, false, true, true, false, false, false, false, false, false] rfl rfl (by kernel_rfl) (fun _ _ _ h_ => h_) rfl (fun w_ => xr_bin (.int .u32 ((rd l0 2) % 4294967296)) (.int .u64 16) (.int .u32 (shl .u32 ((rd l0 2) % 4294967296) 16)) rfl rfl rfl (B.shl_u32_u64 ((rd l0 2) % 4294967296) 16 (by decide))) ?_
            simp only [List.set_cons_zero, List.set_cons_succ]
            refine al_pure 15 22 (.int .u32 (Go.bits .or .u32 (Go.bits .or .u32 ((rd l0 0) % 4294967296) (shl .u32 ((rd l0 1) % 4294967296) 8)) (shl .u32 ((rd l0 2) % 4294967296) 16))) #[true, true, true, true, true, true, true, true, true, true, true, true, true, true, true, true, true, true, false, false, false, false, false, false] rfl rfl (by kernel_rfl) (fun _ _ _ h_ => h_) rfl (fun w_ => xr_bin (.int .u32 (Go.bits .or .u32 ((rd l0 0) % 4294967296) (shl .u32 ((rd l0 1) % 4294967296) 8))) (.int .u32 (shl .u32 ((rd l0 2) % 4294967296) 16)) (.int .u32 (Go.bits .or .u32 (Go.bits .or .u32 ((rd l0 0) % 4294967296) (shl .u32 ((rd l0 1) % 4294967296) 8)) (shl .u32 ((rd l0 2) % 4294967296) 16))) rfl rfl rfl (B.or_u32 (Go.bits .or .u32 ((rd l0 0) % 4294967296) (shl .u32 ((rd l0 1) % 4294967296) 8)) (shl .u32 ((rd l0 2) % 4294967296) 16))) ?_
            simp only [List.set_cons_zero, List.set_cons_succ]
            refine al_take 18 25 (.int .u8 (rd l0 3)) #[true, true, true, true, true, true, true, true, true, true, true, true, true, true, true, true, true, true, true, false, false, false, false, false] rfl rfl (by kernel_rfl) (fun _ _ _ h_ => h_) rfl (fun w_ hS_ => xr_load (.pointer (some (ad583.add ((3 : Int).toNat * 1)))) (.int .u8 (rd l0 3)) rfl rfl (load_int Try.underlying5 rfl hA584 hS_ (by first | assumption | decide | omega) (by first | assumption | decide | omega))) (Ft.now HP0) ?_
            simp only [List.set_cons_zero, List.set_cons_succ]
            refine al_pure 19 26 (.int .u32 ((rd l0 3) % 4294967296)) #[true, true, true, true, true, true, true, true, true, true, true, true, true, true, true, true, true, true, true, true, false, false, false, false] rfl rfl (by kernel_rfl) (fun _ _ _ h_ => h_) rfl (fun w_ => xr_conv (.int .u8 (rd l0 3)) (.int .u32 ((rd l0 3) % 4294967296)) rfl rfl (by first | rfl | (go_simp; done) | (go_simp; rfl) | (go_simp; exact i64_w _) | (go_simp; exact i32_w _))) ?_
            simp only [List.set_cons_zero, List.set_cons_succ]
            refine al_pure 20 27 (.int .u32 (shl .u32 ((rd l0 3) % 4294967296) 24)) #[true, true, true, true, true, true, true, true, true, true, true, true, true, true, true, true, true, true, true, true, true, false, false, false] rfl rfl (by kernel_rfl) (fun _ _ _ h_ => h_) rfl (fun w_ => xr_bin (.int .u32 ((rd l0 3) % 4294967296)) (.int .u64 24) (.int .u32 (shl .u32 ((rd l0 3) % 4294967296) 24)) rfl rfl rfl (B.shl_u32_u64 ((rd l0 3) % 4294967296) 24 (by decide))) ?_
            simp only [List.set_cons_zero, List.set_cons_succ]
            refine al_pure 21 28 (.int .u32 (Go.bits .or .u32 (Go.bits .or .u32 (Go.bits .or .u32 ((rd l0 0) % 4294967296) (shl .u32 ((rd l0 1) % 4294967296) 8)) (shl .u32 ((rd l0 2) % 4294967296) 16)) (shl .u32 ((rd l0 3) % 4294967296) 24))) #[true, true, true, true, true, true, true, true, true, true, true, true, true, true, true, true, true, true, true, true, true, true, false, false] rfl rfl (by kernel_rfl) (fun _ _ _ h_ => h_) rfl (fun w_ => xr_bin (.int .u32 (Go.bits .or .u32 (Go.bits .or .u32 ((rd l0 0) % 4294967296) (shl .u32 ((rd l0 1) % 4294967296) 8)) (shl .u32 ((rd l0 2) % 4294967296) 16))) (.int .u32 (shl .u32 ((rd l0 3) % 4294967296) 24)) (.int .u32 (Go.bits .or .u32 (Go.bits .or .u32 (Go.bits .or .u32 ((rd l0 0) % 4294967296) (shl .u32 ((rd l0 1) % 4294967296) 8)) (shl .u32 ((rd l0 2) % 4294967296) 16)) (shl .u32 ((rd l0 3) % 4294967296) 24))) rfl rfl rfl (B.or_u32 (Go.bits .or .u32 (Go.bits .or .u32 ((rd l0 0) % 4294967296) (shl .u32 ((rd l0 1) % 4294967296) 8)) (shl .u32 ((rd l0 2) % 4294967296) 16)) (shl .u32 ((rd l0 3) % 4294967296) 24))) ?_
            simp only [List.set_cons_zero, List.set_cons_succ]
            refine al_pure 22 2 (.int .u32 (Go.bits .or .u32 (Go.bits .or .u32 (Go.bits .or .u32 ((rd l0 0) % 4294967296) (shl .u32 ((rd l0 1) % 4294967296) 8)) (shl .u32 ((rd l0 2) % 4294967296) 16)) (shl .u32 ((rd l0 3) % 4294967296) 24))) #[true, true, true, true, true, true, true, true, true, true, true, true, true, true, true, true, true, true, true, true, true, true, true, false] rfl rfl (by kernel_rfl) (fun _ _ _ h_ => h_) rfl (fun w_ => xr_assign (.int .u32 (Go.bits .or .u32 (Go.bits .or .u32 (Go.bits .or .u32 ((rd l0 0) % 4294967296) (shl .u32 ((rd l0 1) % 4294967296) 8)) (shl .u32 ((rd l0 2) % 4294967296) 16)) (shl .u32 ((rd l0 3) % 4294967296) 24))) rfl rfl) ?_
            simp only [List.set_cons_zero, List.set_cons_succ]
            refine al_pure 23 3 (.int .i64 0) #[true, true, true, true, true, true, true, true, true, true, true, true, true, true, true, true, true, true, true, true, true, true, true, true] rfl rfl (by kernel_rfl) (fun _ _ _ h_ => h_) rfl (fun w_ => xr_assign (.int .i64 0) rfl rfl) ?_
            simp only [List.set_cons_zero, List.set_cons_succ]
            refine al_end (by kernel_rfl) ?_
            (try simp only [Act.put, List.setIfInBounds_toArray, List.set_cons_zero, List.set_cons_succ])
            refine hK571 _ _ ?_
            (try clear hK571 K571)
            refine wp_ret ?_
            (try simp only [Exit.inBlock, Exit.then, Exit.noGoto])
            (try simp only [Act.put, List.setIfInBounds_toArray, List.set_cons_zero, List.set_cons_succ])
            simp only [Option.some.injEq, Prod.mk.injEq] at H
            obtain ⟨rfl, rfl⟩ := H
            refine bodyPost_ret (results_tmp2 rfl _ _ _) rfl ?_
            exact ⟨_, rfl, HS⟩
          · rw [if_neg c582] at H
            exact absurd H (by simp)
        · rw [if_neg c579] at H
          exact absurd H (by simp)
      · rw [if_neg c576] at H
        exact absurd H (by simp)
    · rw [if_neg c573] at H
      exact absurd H (by simp)

end Go.Proofs.Ytbpagdgbehefkaa.PRec
