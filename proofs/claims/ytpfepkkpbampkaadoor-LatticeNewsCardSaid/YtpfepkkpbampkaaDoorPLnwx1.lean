-- By cprint.py, a program of this work. Lean checks it.
import Derived.Test.YtpfepkkpbampkaaDoorPLnwx0
namespace Go.Proofs.YtpfepkkpbampkaaDoor.PLnw
open Go.RowKit Go.Proofs.YtpfepkkpbampkaaDoorW.PrintWords Go.Proofs.YtpfepkkpbampkaaDoorW.PrintLast Go.Proofs.YtpfepkkpbampkaaDoorW.PrintMore
set_option linter.unusedVariables false
set_option linter.unusedSimpArgs false

/-! ### blazonref13_Great: function 13 -/
mutual
def blazonref13_Great.j0 : Nat → Int → (List (S53)) → Int → Bool → Option (Bool)
  | 0, _, _, _, _ => none
  | k + 1, a1, l0, x318, x370 => if x370 = true then (some true) else (blazonref13_Great.l0 k a1 l0 (wrap64 (x318 + 1)))
def blazonref13_Great.j1 : Nat → Int → (List (S53)) → Int → Bool → Option (Bool)
  | 0, _, _, _, _ => none
  | k + 1, a1, l0, x318, x349 => if x349 = true then (if 0 ≤ x318 then (if x318 < (l0.length : Int) then (if (((rd_T53 l0 x318).f0).size : Int) > 100 then (blazonref13_Great.j0 k a1 l0 x318 true) else (blazonref13_Great.j0 k a1 l0 x318 (decide ((((rd_T53 l0 x318).f1).size : Int) > 100)))) else (none)) else (none)) else (some (decide ((l0.length : Int) > a1)))
def blazonref13_Great.l0 : Nat → Int → (List (S53)) → Int → Option (Bool)
  | 0, _, _, _ => none
  | k + 1, a1, l0, x318 => if x318 < (l0.length : Int) then (blazonref13_Great.j1 k a1 l0 x318 (decide (x318 < a1))) else (blazonref13_Great.j1 k a1 l0 x318 false)
end
def blazonref13_Great.f (k : Nat) (l0 : List (S53)) (a1 : Int) : Option (Bool) := blazonref13_Great.l0 k a1 l0 0

set_option maxHeartbeats 2000000 in
set_option maxRecDepth 100000 in
theorem blazonref13_Great.calls (k : Nat) (A0 : Option Addr) (c0 : Nat) (l0 : List (S53)) (a1 : Int) (r : Bool) (c : Nat → Nat) (w : World) (hc : ∀ k, c k < 10) (HP0 : Ft c [0] w (fun w_ => k53.C w_ A0 l0.length l0)) (HCP0 : l0.length ≤ c0) (H : blazonref13_Great.f k l0 a1 = some r) :
    Calls Tryd.prog 13 #[.slice A0 l0.length c0, .int .i64 a1] w fun e w' => ∃ (c' : Nat → Nat) , e = .returned (.bool r) ∧ Step c w c' w' [] := by
 unfold blazonref13_Great.f at H
 have HS := Step.refl c w []
 go_enter Tryd.func13, Tryd.ntmps13
 refine wp_seq_k fun K194 hK194 => ?_
 refine wl_region ?_
 refine st (.bool false) rfl rfl (xr_assign _ rfl rfl) ?_
 refine wl_end ?_
 (try simp only [ls0, ls1])
 refine hK194 _ _ ?_
 (try clear hK194 K194)
 refine wp_seq_k fun K195 hK195 => ?_
 refine wp_seq_k fun K196 hK196 => ?_
 refine wl_region ?_
 refine st (.int .i64 0) rfl rfl (xr_assign _ rfl rfl) ?_
 refine wl_end ?_
 (try simp only [ls0, ls1])
 refine hK196 _ _ ?_
 (try clear hK196 K196)
 refine wp_block ?_
 (try simp only [ls0, ls1])
 refine wp_looped (looped_fin (fun kq321 a_ w320 => ∃ (C319 : Nat → Nat) (x318 : Int) (g_ : Nat → Value), a_ = ⟨#[.slice A0 l0.length c0, .int .i64 a1, (g_ 2), (g_ 3), (g_ 4), .int .i64 x318, (g_ 6), (g_ 7), (g_ 8), (g_ 9), (g_ 10), (g_ 11), (g_ 12), (g_ 13), (g_ 14), (g_ 15), (g_ 16), (g_ 17), (g_ 18), (g_ 19), (g_ 20), (g_ 21), (g_ 22), (g_ 23), (g_ 24), (g_ 25), (g_ 26), (g_ 27), (g_ 28), (g_ 29), (g_ 30), (g_ 31), (g_ 32), (g_ 33), (g_ 34), (g_ 35), (g_ 36)], []⟩ ∧ Step c w C319 w320 [] ∧ kq321 ≤ k ∧ (Ft C319 [0] w320 (fun w_ => k53.C w_ A0 l0.length l0)) ∧ blazonref13_Great.l0 kq321 a1 l0 x318 = some r) ?step fun hL_ => ?init)
 case init =>
  exact jmpL (fun a_ h_ => hL_ k a_ _ h_) (fun g_ => ⟨_, 0, g_, rfl, HS, Nat.le_refl _, HP0, H⟩) rfl
 case step =>
  intro kq321 ih324 a325 w320 hr326
  obtain ⟨C319, x318, g_, rfl, HS322, hk323, HJ317, H⟩ := hr326
  refine looped_round ?_
  cases kq321 with
  | zero => exact absurd H (by simp [blazonref13_Great.l0])
  | succ k327 =>
   simp only [blazonref13_Great.l0] at H
   refine wp_seq_k fun K328 hK328 => ?_
   refine wp_seq_k fun K342 hK342 => ?_
   have hj344 : ∀ (kq350 : Nat) (C345 : Nat → Nat) (w346 : World) (x349 : Bool) (g_ : Nat → Value), Step c w C345 w346 [] → kq350 ≤ k327 → (Ft C345 [0] w346 (fun w_ => k53.C w_ A0 l0.length l0)) → blazonref13_Great.j1 kq350 a1 l0 x318 x349 = some r → K342 ⟨#[.slice A0 l0.length c0, .int .i64 a1, (g_ 2), (g_ 3), (g_ 4), .int .i64 x318, (g_ 6), (g_ 7), (g_ 8), (g_ 9), (g_ 10), (g_ 11), (g_ 12), (g_ 13), .bool x349, (g_ 15), (g_ 16), (g_ 17), (g_ 18), (g_ 19), (g_ 20), (g_ 21), (g_ 22), (g_ 23), (g_ 24), (g_ 25), (g_ 26), (g_ 27), (g_ 28), (g_ 29), (g_ 30), (g_ 31), (g_ 32), (g_ 33), (g_ 34), (g_ 35), (g_ 36)], []⟩ w346 := by
    intro kq350 C345 w346 x349 g_ HS347 hk351 HJ348 H
    cases kq350 with
    | zero => exact absurd H (by simp [blazonref13_Great.j1])
    | succ k352 =>
     simp only [blazonref13_Great.j1] at H
     refine hK342 _ _ ?_
     (try clear hK342)
     by_cases c353 : x349 = true
     ·rw [if_pos c353] at H
      (try rw [c353])
      refine wp_cond_true rfl ?_
      refine wp_skip ?_
      (try simp only [ls0, ls1])
      refine hK328 _ _ ?_
      (try clear hK328 K328)
      refine wp_seq_k fun K354 hK354 => ?_
      refine wp_block ?_
      refine wp_seq_k fun K355 hK355 => ?_
      have hj365 : ∀ (kq371 : Nat) (C366 : Nat → Nat) (w367 : World) (x370 : Bool) (g_ : Nat → Value), Step c w C366 w367 [] → kq371 ≤ k352 → (Ft C366 [0] w367 (fun w_ => k53.C w_ A0 l0.length l0)) → blazonref13_Great.j0 kq371 a1 l0 x318 x370 = some r → K355 ⟨#[.slice A0 l0.length c0, .int .i64 a1, (g_ 2), (g_ 3), (g_ 4), .int .i64 x318, (g_ 6), (g_ 7), (g_ 8), (g_ 9), (g_ 10), (g_ 11), (g_ 12), (g_ 13), (g_ 14), (g_ 15), (g_ 16), (g_ 17), (g_ 18), (g_ 19), (g_ 20), (g_ 21), (g_ 22), (g_ 23), (g_ 24), (g_ 25), (g_ 26), (g_ 27), (g_ 28), (g_ 29), (g_ 30), (g_ 31), .bool x370, (g_ 33), (g_ 34), (g_ 35), (g_ 36)], []⟩ w367 := by
       intro kq371 C366 w367 x370 g_ HS368 hk372 HJ369 H
       cases kq371 with
       | zero => exact absurd H (by simp [blazonref13_Great.j0])
       | succ k373 =>
        simp only [blazonref13_Great.j0] at H
        refine hK355 _ _ ?_
        (try clear hK355)
        by_cases c374 : x370 = true
        ·rw [if_pos c374] at H
         (try rw [c374])
         refine wp_cond_true rfl ?_
         refine wp_seq_k fun K375 hK375 => ?_
         refine wl_region ?_
         refine st (.bool true) rfl rfl (xr_assign _ rfl rfl) ?_
         refine wl_end ?_
         (try simp only [ls0, ls1])
         refine hK375 _ _ ?_
         (try clear hK375 K375)
         refine wp_ret ?_
         (try simp only [Exit.inBlock, Exit.then, Exit.noGoto])
         (try simp only [ls0, ls1])
         obtain rfl := Option.some.inj H
         refine bodyPost_ret (results_tmp rfl _ _ _) rfl ?_
         exact ⟨_, rfl, HS368⟩
        rw [if_neg c374] at H
        (try rw [(Bool.eq_false_iff.mpr c374)])
        refine wp_cond_false rfl ?_
        refine wp_skip ?_
        (try simp only [ls0, ls1])
        refine hK354 _ _ ?_
        (try clear hK354 K354)
        refine wl_region ?_
        refine mv_ rfl ?_
        refine st (.int .i64 (wrap64 (x318 + 1))) rfl rfl (xr_bin _ _ _ rfl rfl rfl (B.add_i64 _ _)) ?_
        refine as_ rfl ?_
        refine wl_end ?_
        (try simp only [ls0, ls1])
        exact jmpL (fun a_ h_ => ih324 k373 (by omega) a_ _ h_) (fun g_ => ⟨_, wrap64 (x318 + 1), g_, rfl, HS368, (by omega), HJ369, H⟩) rfl
      refine wl_region ?_
      refine mv_ rfl ?_
      refine mv_ rfl ?_
      obtain ⟨c376, H⟩ := if_some H
      obtain ⟨c377, H⟩ := if_some H
      obtain ⟨ad378, hA379⟩ := c_addr (Ft.now HJ348) (pos_of (j := x318) (by first | assumption | decide) (by first | assumption | omega))
      refine st (.pointer (some (ad378.add ((x318 : Int).toNat * 3)))) rfl rfl (xr_indexAddr _ _ _ rfl rfl rfl (index_at Tryd.underlying22 info53 hA379 (by first | assumption | decide | omega) (by first | assumption | decide | omega))) ?_
      refine st (.pointer (some ((ad378.add ((x318 : Int).toNat * 3)).add 0))) rfl rfl (xr_fieldAddr _ _ rfl rfl (field_at2 Tryd.underlying53 rfl rfl (by kernel_rfl))) ?_
      simp only [ls0, ls1]
      refine st (.string ((rd_T53 l0 x318).f0)) rfl rfl (xr_load (.pointer (some ((ad378.add ((x318 : Int).toNat * 3)).add 0))) (.string ((rd_T53 l0 x318).f0)) rfl rfl (by obtain ⟨ad_, cs_, e_, _, hK_, hc_⟩ := Kd.C_get (Ft.now HJ348) z53 x318 (by first | assumption | decide | omega) (by first | assumption | decide | omega); rw [hA379] at e_; injection e_ with e_; subst e_; obtain rfl := k53_open hK_; exact load_cell Tryd.underlying9 rfl (by first | (rw [add_add]; exact hc_ 0 _ rfl) | (have h_ := hc_ 0 _ rfl; rw [Nat.add_zero] at h_; exact h_)))) ?_
      refine st (.int .i64 (((rd_T53 l0 x318).f0).size : Int)) rfl rfl (xr_builtin #[.string ((rd_T53 l0 x318).f0)] (.int .i64 (((rd_T53 l0 x318).f0).size : Int)) rfl (mp_ rfl) (by first | rfl | (go_simp; done) | (go_simp; rfl) | (go_simp; exact i64_w _) | (go_simp; exact i32_w _))) ?_
      refine st (.bool (decide ((((rd_T53 l0 x318).f0).size : Int) > 100))) rfl rfl (xr_bin _ _ _ rfl rfl rfl (B.gtr_i64 _ _)) ?_
      refine mv_ rfl ?_
      simp only [ls0, ls1]
      by_cases c381 : (((rd_T53 l0 x318).f0).size : Int) > 100
      ·rw [if_pos c381] at H
       (try rw [(decide_eq_true c381)])
       refine sk_guard (guard_off 7 false 24 rfl rfl true (by decide) rfl) rfl ?_
       refine sk_guard (guard_off 7 false 24 rfl rfl true (by decide) rfl) rfl ?_
       refine sk_guard (guard_off 7 false 24 rfl rfl true (by decide) rfl) rfl ?_
       refine sk_guard (guard_off 7 false 24 rfl rfl true (by decide) rfl) rfl ?_
       simp only [ls0, ls1]
       refine sk_guard (guard_off 7 false 24 rfl rfl true (by decide) rfl) rfl ?_
       refine sk_guard (guard_off 7 false 24 rfl rfl true (by decide) rfl) rfl ?_
       refine sk_guard (guard_off 7 false 24 rfl rfl true (by decide) rfl) rfl ?_
       refine st (.bool true) rfl rfl (xr_pick true _ rfl rfl rfl) ?_
       simp only [ls0, ls1]
       refine wl_end ?_
       (try simp only [ls0, ls1])
       exact jmp (fun g_ => hj365 _ _ _ (true) g_ HS347 (by omega) HJ348 H) rfl
      rw [if_neg c381] at H
      (try rw [(decide_eq_false c381)])
      refine on_guard (guard_on 7 false 24 rfl rfl rfl) ?_
      refine mv_ rfl ?_
      refine on_guard (guard_on 7 false 24 rfl rfl rfl) ?_
      refine mv_ rfl ?_
      refine on_guard (guard_on 7 false 24 rfl rfl rfl) ?_
      obtain ⟨ad382, hA383⟩ := c_addr (Ft.now HJ348) (pos_of (j := x318) (by first | assumption | decide) (by first | assumption | omega))
      refine st (.pointer (some (ad382.add ((x318 : Int).toNat * 3)))) rfl rfl (xr_indexAddr _ _ _ rfl rfl rfl (index_at Tryd.underlying22 info53 hA383 (by first | assumption | decide | omega) (by first | assumption | decide | omega))) ?_
      refine on_guard (guard_on 7 false 24 rfl rfl rfl) ?_
      refine st (.pointer (some ((ad382.add ((x318 : Int).toNat * 3)).add 1))) rfl rfl (xr_fieldAddr _ _ rfl rfl (field_at2 Tryd.underlying53 rfl rfl (by kernel_rfl))) ?_
      simp only [ls0, ls1]
      refine on_guard (guard_on 7 false 24 rfl rfl rfl) ?_
      refine st (.string ((rd_T53 l0 x318).f1)) rfl rfl (xr_load (.pointer (some ((ad382.add ((x318 : Int).toNat * 3)).add 1))) (.string ((rd_T53 l0 x318).f1)) rfl rfl (by obtain ⟨ad_, cs_, e_, _, hK_, hc_⟩ := Kd.C_get (Ft.now HJ348) z53 x318 (by first | assumption | decide | omega) (by first | assumption | decide | omega); rw [hA383] at e_; injection e_ with e_; subst e_; obtain rfl := k53_open hK_; exact load_cell Tryd.underlying9 rfl (by first | (rw [add_add]; exact hc_ 1 _ rfl) | (have h_ := hc_ 1 _ rfl; rw [Nat.add_zero] at h_; exact h_)))) ?_
      refine on_guard (guard_on 7 false 24 rfl rfl rfl) ?_
      refine st (.int .i64 (((rd_T53 l0 x318).f1).size : Int)) rfl rfl (xr_builtin #[.string ((rd_T53 l0 x318).f1)] (.int .i64 (((rd_T53 l0 x318).f1).size : Int)) rfl (mp_ rfl) (by first | rfl | (go_simp; done) | (go_simp; rfl) | (go_simp; exact i64_w _) | (go_simp; exact i32_w _))) ?_
      refine on_guard (guard_on 7 false 24 rfl rfl rfl) ?_
      refine st (.bool (decide ((((rd_T53 l0 x318).f1).size : Int) > 100))) rfl rfl (xr_bin _ _ _ rfl rfl rfl (B.gtr_i64 _ _)) ?_
      refine st (.bool (decide ((((rd_T53 l0 x318).f1).size : Int) > 100))) rfl rfl (xr_pick false _ rfl rfl rfl) ?_
      simp only [ls0, ls1]
      refine wl_end ?_
      (try simp only [ls0, ls1])
      exact jmp (fun g_ => hj365 _ _ _ (decide ((((rd_T53 l0 x318).f1).size : Int) > 100)) g_ HS347 (by omega) HJ348 H) rfl
     rw [if_neg c353] at H
     (try rw [(Bool.eq_false_iff.mpr c353)])
     refine wp_cond_false rfl ?_
     refine wp_exit ?_
     (try simp only [ls0, ls1])
     refine hK195 _ _ ?_
     (try clear hK195 K195)
     refine wp_seq_k fun K385 hK385 => ?_
     refine wl_region ?_
     refine mv_ rfl ?_
     refine st (.int .i64 (l0.length : Int)) rfl rfl (xr_builtin #[.slice A0 l0.length c0] (.int .i64 (l0.length : Int)) rfl (mp_ rfl) (by first | rfl | (go_simp; done) | (go_simp; rfl) | (go_simp; exact i64_w _) | (go_simp; exact i32_w _))) ?_
     refine mv_ rfl ?_
     refine st (.bool (decide ((l0.length : Int) > a1))) rfl rfl (xr_bin _ _ _ rfl rfl rfl (B.gtr_i64 _ _)) ?_
     simp only [ls0, ls1]
     refine as_ rfl ?_
     refine wl_end ?_
     (try simp only [ls0, ls1])
     refine hK385 _ _ ?_
     (try clear hK385 K385)
     refine wp_ret ?_
     (try simp only [Exit.inBlock, Exit.then, Exit.noGoto])
     (try simp only [ls0, ls1])
     obtain rfl := Option.some.inj H
     refine bodyPost_ret (results_tmp rfl _ _ _) rfl ?_
     exact ⟨_, rfl, HS347⟩
   refine wl_region ?_
   refine mv_ rfl ?_
   refine mv_ rfl ?_
   refine st (.int .i64 (l0.length : Int)) rfl rfl (xr_builtin #[.slice A0 l0.length c0] (.int .i64 (l0.length : Int)) rfl (mp_ rfl) (by first | rfl | (go_simp; done) | (go_simp; rfl) | (go_simp; exact i64_w _) | (go_simp; exact i32_w _))) ?_
   refine st (.bool (decide (x318 < (l0.length : Int)))) rfl rfl (xr_bin _ _ _ rfl rfl rfl (B.lss_i64 _ _)) ?_
   simp only [ls0, ls1]
   refine mv_ rfl ?_
   by_cases c386 : x318 < (l0.length : Int)
   ·rw [if_pos c386] at H
    (try rw [(decide_eq_true c386)])
    refine on_guard (guard_on 4 true 10 rfl rfl rfl) ?_
    refine mv_ rfl ?_
    refine on_guard (guard_on 4 true 10 rfl rfl rfl) ?_
    refine mv_ rfl ?_
    refine on_guard (guard_on 4 true 10 rfl rfl rfl) ?_
    refine st (.bool (decide (x318 < a1))) rfl rfl (xr_bin _ _ _ rfl rfl rfl (B.lss_i64 _ _)) ?_
    simp only [ls0, ls1]
    refine st (.bool (decide (x318 < a1))) rfl rfl (xr_pick true _ rfl rfl rfl) ?_
    refine wl_end ?_
    (try simp only [ls0, ls1])
    exact jmp (fun g_ => hj344 _ _ _ (decide (x318 < a1)) g_ HS322 (by omega) HJ317 H) rfl
   rw [if_neg c386] at H
   (try rw [(decide_eq_false c386)])
   refine sk_guard (guard_off 4 true 10 rfl rfl false (by decide) rfl) rfl ?_
   refine sk_guard (guard_off 4 true 10 rfl rfl false (by decide) rfl) rfl ?_
   refine sk_guard (guard_off 4 true 10 rfl rfl false (by decide) rfl) rfl ?_
   refine st (.bool false) rfl rfl (xr_pick false _ rfl rfl rfl) ?_
   simp only [ls0, ls1]
   refine wl_end ?_
   (try simp only [ls0, ls1])
   exact jmp (fun g_ => hj344 _ _ _ (false) g_ HS322 (by omega) HJ317 H) rfl

/-! ### order_Order_Len: function 21 -/
def order_Order_Len.f (x0 : Option S81) : Option (Int) := onOpt x0 (some 0) (fun o15 => (some (o15.f0.length : Int)))
set_option maxHeartbeats 2000000 in
set_option maxRecDepth 100000 in
theorem order_Order_Len.calls (v0 : Value) (x0 : Option S81) (r : Int) (c : Nat → Nat) (w : World) (hc : ∀ k, c k < 10) (HP0 : Ft c [0] w (fun w_ => (Kd.ptr 81 k81).K w_ x0 [v0])) (H : order_Order_Len.f x0 = some r) :
    Calls Tryd.prog 21 #[v0] w fun e w' => ∃ (c' : Nat → Nat) , e = .returned (.int .i64 r) ∧ Step c w c' w' [] := by
 unfold order_Order_Len.f at H
 have HS := Step.refl c w []
 go_enter Tryd.func21, Tryd.ntmps21
 refine wp_seq_k fun K12 hK12 => ?_
 refine wl_region ?_
 refine st (.int .i64 0) rfl rfl (xr_assign _ rfl rfl) ?_
 refine wl_end ?_
 (try simp only [ls0, ls1])
 refine hK12 _ _ ?_
 (try clear hK12 K12)
 refine wp_seq_k fun K13 hK13 => ?_
 refine wp_seq_k fun K14 hK14 => ?_
 refine wl_region ?_
 refine mv_ rfl ?_
 cases x0 with
 | none =>
  (try simp only [onOpt] at H)
  obtain rfl := ptr_none HP0
  refine st (.bool true) rfl rfl (xr_bin (.pointer none) (.pointer none) (.bool true) rfl rfl rfl (B.eql_nn ⟨_, Tryd.underlying26⟩ (⟨0, 0, none⟩ : Addr))) ?_
  refine wl_end ?_
  (try simp only [ls0, ls1])
  refine hK14 _ _ ?_
  (try clear hK14 K14)
  refine wp_cond_true rfl ?_
  refine wp_seq_k fun K16 hK16 => ?_
  refine wl_region ?_
  refine st (.int .i64 0) rfl rfl (xr_assign _ rfl rfl) ?_
  refine wl_end ?_
  (try simp only [ls0, ls1])
  refine hK16 _ _ ?_
  (try clear hK16 K16)
  refine wp_ret ?_
  (try simp only [Exit.inBlock, Exit.then, Exit.noGoto])
  (try simp only [ls0, ls1])
  obtain rfl := Option.some.inj H
  refine bodyPost_ret (results_tmp rfl _ _ _) rfl ?_
  exact ⟨_, rfl, HS⟩
 | some o15 =>
  (try simp only [onOpt] at H)
  obtain ⟨g17, cs18, rfl, HX19, HK20⟩ := ptr_some HP0
  obtain ⟨Aq21_0, cpq21_0, vq21_1, rfl, HCq21_0, HRq21_0, HRq21_1, HLq21_2, HLq21_3⟩ := k81_openF HK20
  replace HRq21_0 : Ft c [0] w (fun w_ => Kd.string.C w_ Aq21_0 o15.f0.length o15.f0) := HRq21_0
  replace HRq21_1 : Ft c [0] w (fun w_ => (Kd.mp Value.string (Value.int .i64)).K w_ o15.f1 [vq21_1]) := HRq21_1
  refine st (.bool false) rfl rfl (xr_bin (.pointer (some ⟨g17, 0, none⟩)) (.pointer none) (.bool false) rfl rfl rfl (B.eql_pn ⟨_, Tryd.underlying26⟩ ⟨g17, 0, none⟩)) ?_
  refine wl_end ?_
  (try simp only [ls0, ls1])
  refine hK14 _ _ ?_
  (try clear hK14 K14)
  refine wp_cond_false rfl ?_
  refine wp_skip ?_
  (try simp only [ls0, ls1])
  refine hK13 _ _ ?_
  (try clear hK13 K13)
  refine wp_seq_k fun K22 hK22 => ?_
  refine wl_region ?_
  refine mv_ rfl ?_
  refine st (.pointer (some ⟨g17, 0, none⟩)) rfl rfl (xr_nilCheck _ rfl rfl) ?_
  refine st (.pointer (some ⟨g17, 0, none⟩)) rfl rfl (xr_fieldAddr _ _ rfl rfl (bx_field2 Tryd.underlying81 rfl rfl (by kernel_rfl))) ?_
  refine st (.slice Aq21_0 o15.f0.length cpq21_0) rfl rfl (xr_load _ _ rfl rfl (load_cell Tryd.underlying30 rfl (bx_cell (Ft.now HX19) 0 rfl))) ?_
  simp only [ls0, ls1]
  refine st (.int .i64 (o15.f0.length : Int)) rfl rfl (xr_builtin #[.slice Aq21_0 o15.f0.length cpq21_0] (.int .i64 (o15.f0.length : Int)) rfl (mp_ rfl) (by first | rfl | (go_simp; done) | (go_simp; rfl) | (go_simp; exact i64_w _) | (go_simp; exact i32_w _))) ?_
  refine as_ rfl ?_
  refine wl_end ?_
  (try simp only [ls0, ls1])
  refine hK22 _ _ ?_
  (try clear hK22 K22)
  refine wp_ret ?_
  (try simp only [Exit.inBlock, Exit.then, Exit.noGoto])
  (try simp only [ls0, ls1])
  obtain rfl := Option.some.inj H
  refine bodyPost_ret (results_tmp rfl _ _ _) rfl ?_
  exact ⟨_, rfl, HS⟩

/-! ### order_Order_in: function 64 -/
def order_Order_in.f (x0 : Option S81) (a1 : Int) : Option (Bool) := if a1 ≥ 0 then ((order_Order_Len.f x0).bind fun t13 => (some (decide (a1 < t13)))) else (some false)
set_option maxHeartbeats 2000000 in
set_option maxRecDepth 100000 in
theorem order_Order_in.calls (v0 : Value) (x0 : Option S81) (a1 : Int) (r : Bool) (c : Nat → Nat) (w : World) (hc : ∀ k, c k < 10) (HP0 : Ft c [0] w (fun w_ => (Kd.ptr 81 k81).K w_ x0 [v0])) (H : order_Order_in.f x0 a1 = some r) :
    Calls Tryd.prog 64 #[v0, .int .i64 a1] w fun e w' => ∃ (c' : Nat → Nat) , e = .returned (.bool r) ∧ Step c w c' w' [] := by
 unfold order_Order_in.f at H
 have HS := Step.refl c w []
 go_enter Tryd.func64, Tryd.ntmps64
 refine wp_seq_k fun K10 hK10 => ?_
 refine wl_region ?_
 refine st (.bool false) rfl rfl (xr_assign _ rfl rfl) ?_
 refine wl_end ?_
 (try simp only [ls0, ls1])
 refine hK10 _ _ ?_
 (try clear hK10 K10)
 refine wp_seq_k fun K11 hK11 => ?_
 refine wl_region ?_
 refine mv_ rfl ?_
 refine st (.bool (decide (a1 ≥ 0))) rfl rfl (xr_bin _ _ _ rfl rfl rfl (B.geq_i64 _ _)) ?_
 refine mv_ rfl ?_
 by_cases c12 : a1 ≥ 0
 ·rw [if_pos c12] at H
  (try rw [(decide_eq_true c12)])
  refine on_guard (guard_on 2 true 7 rfl rfl rfl) ?_
  refine mv_ rfl ?_
  simp only [ls0, ls1]
  refine on_guard (guard_on 2 true 7 rfl rfl rfl) ?_
  refine mv_ rfl ?_
  refine on_guard (guard_on 2 true 7 rfl rfl rfl) ?_
  obtain ⟨t13, A14, H⟩ := bnd H
  refine st_call #[v0] rfl rfl Tryd.func21 (by kernel_rfl) rfl rfl (mp_ rfl) ?_
  refine (order_Order_Len.calls v0 x0 t13  (fun z_ => pal [(0, 0)] (c z_)) w (fun _ => pal_lt rfl _) (Ft.arg HP0 rfl) A14).mono ?_
  rintro _ w16 ⟨C17, rfl, hs18⟩
  refine ⟨_, rfl, ?_⟩
  replace hs18 := Step.lift (U := [(0, 0)]) hs18 [] rfl rfl
  generalize up c C17 w.heap.size [(0, 0)] = C17_ at hs18
  replace HS := HS.trans hs18 hc rfl
  (try simp only [ls0, ls1])
  refine on_guard (guard_on 2 true 7 rfl rfl rfl) ?_
  refine st (.bool (decide (a1 < t13))) rfl rfl (xr_bin _ _ _ rfl rfl rfl (B.lss_i64 _ _)) ?_
  refine st (.bool (decide (a1 < t13))) rfl rfl (xr_pick true _ rfl rfl rfl) ?_
  refine as_ rfl ?_
  refine wl_end ?_
  (try simp only [ls0, ls1])
  refine hK11 _ _ ?_
  (try clear hK11 K11)
  refine wp_ret ?_
  (try simp only [Exit.inBlock, Exit.then, Exit.noGoto])
  (try simp only [ls0, ls1])
  obtain rfl := Option.some.inj H
  refine bodyPost_ret (results_tmp rfl _ _ _) rfl ?_
  exact ⟨_, rfl, HS⟩
 rw [if_neg c12] at H
 (try rw [(decide_eq_false c12)])
 refine sk_guard (guard_off 2 true 7 rfl rfl false (by decide) rfl) rfl ?_
 refine sk_guard (guard_off 2 true 7 rfl rfl false (by decide) rfl) rfl ?_
 refine sk_guard (guard_off 2 true 7 rfl rfl false (by decide) rfl) rfl ?_
 refine sk_guard (guard_off 2 true 7 rfl rfl false (by decide) rfl) rfl ?_
 simp only [ls0, ls1]
 refine st (.bool false) rfl rfl (xr_pick false _ rfl rfl rfl) ?_
 refine as_ rfl ?_
 refine wl_end ?_
 (try simp only [ls0, ls1])
 refine hK11 _ _ ?_
 (try clear hK11 K11)
 refine wp_ret ?_
 (try simp only [Exit.inBlock, Exit.then, Exit.noGoto])
 (try simp only [ls0, ls1])
 obtain rfl := Option.some.inj H
 refine bodyPost_ret (results_tmp rfl _ _ _) rfl ?_
 exact ⟨_, rfl, HS⟩

/-! ### order_Order_Most: function 24 -/
def order_Order_Most.f (x0 : Option S81) (a1 : Int) (a2 : Int) : Option (Bool) := (order_Order_in.f x0 a1).bind fun t28 => (if t28 = true then ((order_Order_in.f x0 a2).bind fun t35 => (if t35 = true then (onOpt x0 (none) (fun o42 => (if 0 ≤ a1 then (if a1 < 64 then (if 0 ≤ (IntKind.u64.wrap (a2)) then (some (decide ((Go.bits .and .u64 (shr .u64 (List.getD o42.f2 ((a1 : Int).toNat) 0) (IntKind.u64.wrap (a2))) 1) = 1))) else (none)) else (none)) else (none)))) else (some false))) else (some false))
set_option maxHeartbeats 2000000 in
set_option maxRecDepth 100000 in
theorem order_Order_Most.calls (v0 : Value) (x0 : Option S81) (a1 : Int) (a2 : Int) (r : Bool) (c : Nat → Nat) (w : World) (hc : ∀ k, c k < 10) (HP0 : Ft c [0] w (fun w_ => (Kd.ptr 81 k81).K w_ x0 [v0])) (H : order_Order_Most.f x0 a1 a2 = some r) :
    Calls Tryd.prog 24 #[v0, .int .i64 a1, .int .i64 a2] w fun e w' => ∃ (c' : Nat → Nat) , e = .returned (.bool r) ∧ Step c w c' w' [] := by
 unfold order_Order_Most.f at H
 have HS := Step.refl c w []
 go_enter Tryd.func24, Tryd.ntmps24
 refine wp_seq_k fun K26 hK26 => ?_
 refine wl_region ?_
 refine st (.bool false) rfl rfl (xr_assign _ rfl rfl) ?_
 refine wl_end ?_
 (try simp only [ls0, ls1])
 refine hK26 _ _ ?_
 (try clear hK26 K26)
 refine wp_seq_k fun K27 hK27 => ?_
 refine wl_region ?_
 refine mv_ rfl ?_
 refine mv_ rfl ?_
 obtain ⟨t28, A29, H⟩ := bnd H
 refine st_call #[v0, .int .i64 a1] rfl rfl Tryd.func64 (by kernel_rfl) rfl rfl (mp_ rfl) ?_
 refine (order_Order_in.calls v0 x0 a1 t28  (fun z_ => pal [(0, 0)] (c z_)) w (fun _ => pal_lt rfl _) (Ft.arg HP0 rfl) A29).mono ?_
 rintro _ w31 ⟨C32, rfl, hs33⟩
 refine ⟨_, rfl, ?_⟩
 replace hs33 := Step.lift (U := [(0, 0)]) hs33 [] rfl rfl
 generalize up c C32 w.heap.size [(0, 0)] = C32_ at hs33
 replace HP0 := HP0.thru hs33 rfl
 replace HS := HS.trans hs33 hc rfl
 (try simp only [ls0, ls1])
 refine mv_ rfl ?_
 by_cases c34 : t28 = true
 ·rw [if_pos c34] at H
  (try rw [c34])
  refine on_guard (guard_on 3 true 10 rfl rfl rfl) ?_
  refine mv_ rfl ?_
  refine on_guard (guard_on 3 true 10 rfl rfl rfl) ?_
  refine mv_ rfl ?_
  refine on_guard (guard_on 3 true 10 rfl rfl rfl) ?_
  obtain ⟨t35, A36, H⟩ := bnd H
  refine st_call #[v0, .int .i64 a2] rfl rfl Tryd.func64 (by kernel_rfl) rfl rfl (mp_ rfl) ?_
  refine (order_Order_in.calls v0 x0 a2 t35  (fun z_ => pal [(0, 0)] (C32_ z_)) w31 (fun _ => pal_lt rfl _) (Ft.arg HP0 rfl) A36).mono ?_
  rintro _ w38 ⟨C39, rfl, hs40⟩
  refine ⟨_, rfl, ?_⟩
  replace hs40 := Step.lift (U := [(0, 0)]) hs40 [] rfl rfl
  generalize up C32_ C39 w31.heap.size [(0, 0)] = C39_ at hs40
  replace HP0 := HP0.thru hs40 rfl
  replace HS := HS.trans hs40 hc rfl
  (try simp only [ls0, ls1])
  refine st (.bool t35) rfl rfl (xr_pick true _ rfl rfl rfl) ?_
  refine mv_ rfl ?_
  by_cases c41 : t35 = true
  ·rw [if_pos c41] at H
   (try rw [c41])
   refine on_guard (guard_on 8 true 15 rfl rfl rfl) ?_
   refine mv_ rfl ?_
   refine on_guard (guard_on 8 true 15 rfl rfl rfl) ?_
   refine mv_ rfl ?_
   simp only [ls0, ls1]
   refine on_guard (guard_on 8 true 15 rfl rfl rfl) ?_
   cases x0 with
   | none =>
    (try simp only [onOpt] at H)
    obtain rfl := ptr_none HP0
    exact absurd H (by simp)
   | some o42 =>
    (try simp only [onOpt] at H)
    obtain ⟨g43, cs44, rfl, HX45, HK46⟩ := ptr_some HP0
    obtain ⟨Aq47_0, cpq47_0, vq47_1, rfl, HCq47_0, HRq47_0, HRq47_1, HLq47_2, HLq47_3⟩ := k81_openF HK46
    replace HRq47_0 : Ft C39_ [0] w38 (fun w_ => Kd.string.C w_ Aq47_0 o42.f0.length o42.f0) := HRq47_0
    replace HRq47_1 : Ft C39_ [0] w38 (fun w_ => (Kd.mp Value.string (Value.int .i64)).K w_ o42.f1 [vq47_1]) := HRq47_1
    refine st (.pointer (some ⟨g43, 0, none⟩)) rfl rfl (xr_nilCheck _ rfl rfl) ?_
    refine on_guard (guard_on 8 true 15 rfl rfl rfl) ?_
    refine st (.pointer (some ⟨g43, 2, none⟩)) rfl rfl (xr_fieldAddr _ _ rfl rfl (bx_field2 Tryd.underlying81 rfl rfl (by kernel_rfl))) ?_
    refine on_guard (guard_on 8 true 15 rfl rfl rfl) ?_
    obtain ⟨c48, H⟩ := if_some H
    obtain ⟨c49, H⟩ := if_some H
    refine st (.pointer (some ⟨g43, 2 + ((a1 : Int).toNat), none⟩)) rfl rfl (xr_indexAddr _ _ _ rfl rfl rfl (arr_index (sz := 1) Tryd.underlying79 (by kernel_rfl) (by first | assumption | decide | omega) (by first | assumption | decide | omega) (by omega))) ?_
    refine on_guard (guard_on 8 true 15 rfl rfl rfl) ?_
    refine st (.int .u64 (List.getD o42.f2 ((a1 : Int).toNat) 0)) rfl rfl (xr_load _ _ rfl rfl (arr_load (o := 2) (N := 64) (pre := [.slice Aq47_0 o42.f0.length cpq47_0, vq47_1]) (post := List.map (Value.int .u64) o42.f3) (enc := (Value.int .u64)) (l := o42.f2) (i := (a1 : Int).toNat) 0 Tryd.underlying58 rfl (Ft.now HX45) (by first | (simp only [List.append_assoc, List.cons_append, List.nil_append, List.append_nil]; done) | rfl) rfl HLq47_2 (by omega) (by omega))) ?_
    simp only [ls0, ls1]
    refine on_guard (guard_on 8 true 15 rfl rfl rfl) ?_
    refine mv_ rfl ?_
    refine on_guard (guard_on 8 true 15 rfl rfl rfl) ?_
    refine st (.int .u64 (IntKind.u64.wrap (a2))) rfl rfl (xr_conv (.int .i64 a2) _ rfl rfl (by first | rfl | (go_simp; done) | (go_simp; rfl) | (go_simp; exact i64_w _) | (go_simp; exact i32_w _))) ?_
    refine on_guard (guard_on 8 true 15 rfl rfl rfl) ?_
    obtain ⟨c50, H⟩ := if_some H
    refine st (.int .u64 (shr .u64 (List.getD o42.f2 ((a1 : Int).toNat) 0) (IntKind.u64.wrap (a2)))) rfl rfl (xr_bin _ _ _ rfl rfl rfl (B.shr_u64_u64 _ _ (by assumption))) ?_
    refine on_guard (guard_on 8 true 15 rfl rfl rfl) ?_
    refine st (.int .u64 (Go.bits .and .u64 (shr .u64 (List.getD o42.f2 ((a1 : Int).toNat) 0) (IntKind.u64.wrap (a2))) 1)) rfl rfl (xr_bin _ _ _ rfl rfl rfl (B.and_u64 _ _)) ?_
    simp only [ls0, ls1]
    refine on_guard (guard_on 8 true 15 rfl rfl rfl) ?_
    refine st (.bool (decide ((Go.bits .and .u64 (shr .u64 (List.getD o42.f2 ((a1 : Int).toNat) 0) (IntKind.u64.wrap (a2))) 1) = 1))) rfl rfl (xr_bin _ _ _ rfl rfl rfl (B.eql_u64 _ _)) ?_
    refine st (.bool (decide ((Go.bits .and .u64 (shr .u64 (List.getD o42.f2 ((a1 : Int).toNat) 0) (IntKind.u64.wrap (a2))) 1) = 1))) rfl rfl (xr_pick true _ rfl rfl rfl) ?_
    refine as_ rfl ?_
    refine wl_end ?_
    (try simp only [ls0, ls1])
    refine hK27 _ _ ?_
    (try clear hK27 K27)
    refine wp_ret ?_
    (try simp only [Exit.inBlock, Exit.then, Exit.noGoto])
    (try simp only [ls0, ls1])
    obtain rfl := Option.some.inj H
    refine bodyPost_ret (results_tmp rfl _ _ _) rfl ?_
    exact ⟨_, rfl, HS⟩
  rw [if_neg c41] at H
  (try rw [(Bool.eq_false_iff.mpr c41)])
  refine sk_guard (guard_off 8 true 15 rfl rfl false (by decide) rfl) rfl ?_
  refine sk_guard (guard_off 8 true 15 rfl rfl false (by decide) rfl) rfl ?_
  refine sk_guard (guard_off 8 true 15 rfl rfl false (by decide) rfl) rfl ?_
  refine sk_guard (guard_off 8 true 15 rfl rfl false (by decide) rfl) rfl ?_
  simp only [ls0, ls1]
  refine sk_guard (guard_off 8 true 15 rfl rfl false (by decide) rfl) rfl ?_
  refine sk_guard (guard_off 8 true 15 rfl rfl false (by decide) rfl) rfl ?_
  refine sk_guard (guard_off 8 true 15 rfl rfl false (by decide) rfl) rfl ?_
  refine sk_guard (guard_off 8 true 15 rfl rfl false (by decide) rfl) rfl ?_
  simp only [ls0, ls1]
  refine sk_guard (guard_off 8 true 15 rfl rfl false (by decide) rfl) rfl ?_
  refine sk_guard (guard_off 8 true 15 rfl rfl false (by decide) rfl) rfl ?_
  refine sk_guard (guard_off 8 true 15 rfl rfl false (by decide) rfl) rfl ?_
  refine st (.bool false) rfl rfl (xr_pick false _ rfl rfl rfl) ?_
  simp only [ls0, ls1]
  refine as_ rfl ?_
  refine wl_end ?_
  (try simp only [ls0, ls1])
  refine hK27 _ _ ?_
  (try clear hK27 K27)
  refine wp_ret ?_
  (try simp only [Exit.inBlock, Exit.then, Exit.noGoto])
  (try simp only [ls0, ls1])
  obtain rfl := Option.some.inj H
  refine bodyPost_ret (results_tmp rfl _ _ _) rfl ?_
  exact ⟨_, rfl, HS⟩
 rw [if_neg c34] at H
 (try rw [(Bool.eq_false_iff.mpr c34)])
 refine sk_guard (guard_off 3 true 10 rfl rfl false (by decide) rfl) rfl ?_
 refine sk_guard (guard_off 3 true 10 rfl rfl false (by decide) rfl) rfl ?_
 refine sk_guard (guard_off 3 true 10 rfl rfl false (by decide) rfl) rfl ?_
 refine st (.bool false) rfl rfl (xr_pick false _ rfl rfl rfl) ?_
 simp only [ls0, ls1]
 refine mv_ rfl ?_
 refine sk_guard (guard_off 8 true 15 rfl rfl false (by decide) rfl) rfl ?_
 refine sk_guard (guard_off 8 true 15 rfl rfl false (by decide) rfl) rfl ?_
 refine sk_guard (guard_off 8 true 15 rfl rfl false (by decide) rfl) rfl ?_
 simp only [ls0, ls1]
 refine sk_guard (guard_off 8 true 15 rfl rfl false (by decide) rfl) rfl ?_
 refine sk_guard (guard_off 8 true 15 rfl rfl false (by decide) rfl) rfl ?_
 refine sk_guard (guard_off 8 true 15 rfl rfl false (by decide) rfl) rfl ?_
 refine sk_guard (guard_off 8 true 15 rfl rfl false (by decide) rfl) rfl ?_
 simp only [ls0, ls1]
 refine sk_guard (guard_off 8 true 15 rfl rfl false (by decide) rfl) rfl ?_
 refine sk_guard (guard_off 8 true 15 rfl rfl false (by decide) rfl) rfl ?_
 refine sk_guard (guard_off 8 true 15 rfl rfl false (by decide) rfl) rfl ?_
 refine sk_guard (guard_off 8 true 15 rfl rfl false (by decide) rfl) rfl ?_
 simp only [ls0, ls1]
 refine st (.bool false) rfl rfl (xr_pick false _ rfl rfl rfl) ?_
 refine as_ rfl ?_
 refine wl_end ?_
 (try simp only [ls0, ls1])
 refine hK27 _ _ ?_
 (try clear hK27 K27)
 refine wp_ret ?_
 (try simp only [Exit.inBlock, Exit.then, Exit.noGoto])
 (try simp only [ls0, ls1])
 obtain rfl := Option.some.inj H
 refine bodyPost_ret (results_tmp rfl _ _ _) rfl ?_
 exact ⟨_, rfl, HS⟩

/-! ### lex_Keyword: function 83 -/
def lex_Keyword.j0 (x113 : Bool) : Option (Bool) := if x113 = true then (some true) else (some false)
def lex_Keyword.f (a0 : ByteArray) : Option (Bool) := if a0 = (⟨#[105, 109, 112, 111, 114, 116]⟩ : ByteArray) then (lex_Keyword.j0 true) else (if a0 = (⟨#[108, 97, 116, 116, 105, 99, 101]⟩ : ByteArray) then (lex_Keyword.j0 true) else (if a0 = (⟨#[101, 102, 102, 101, 99, 116, 115]⟩ : ByteArray) then (lex_Keyword.j0 true) else (if a0 = (⟨#[118, 97, 114]⟩ : ByteArray) then (lex_Keyword.j0 true) else (if a0 = (⟨#[102, 110]⟩ : ByteArray) then (lex_Keyword.j0 true) else (if a0 = (⟨#[108, 101, 116]⟩ : ByteArray) then (lex_Keyword.j0 true) else (if a0 = (⟨#[105, 102]⟩ : ByteArray) then (lex_Keyword.j0 true) else (if a0 = (⟨#[101, 108, 115, 101]⟩ : ByteArray) then (lex_Keyword.j0 true) else (if a0 = (⟨#[119, 104, 105, 108, 101]⟩ : ByteArray) then (lex_Keyword.j0 true) else (if a0 = (⟨#[114, 101, 116, 117, 114, 110]⟩ : ByteArray) then (lex_Keyword.j0 true) else (if a0 = (⟨#[100, 111]⟩ : ByteArray) then (lex_Keyword.j0 true) else (if a0 = (⟨#[116, 114, 117, 101]⟩ : ByteArray) then (lex_Keyword.j0 true) else (if a0 = (⟨#[102, 97, 108, 115, 101]⟩ : ByteArray) then (lex_Keyword.j0 true) else (if a0 = (⟨#[105, 110, 116]⟩ : ByteArray) then (lex_Keyword.j0 true) else (if a0 = (⟨#[98, 111, 111, 108]⟩ : ByteArray) then (lex_Keyword.j0 true) else (lex_Keyword.j0 (decide (a0 = (⟨#[100, 101, 99, 108, 97, 115, 115, 105, 102, 121]⟩ : ByteArray))))))))))))))))))
set_option maxHeartbeats 2000000 in
set_option maxRecDepth 100000 in
theorem lex_Keyword.calls (a0 : ByteArray) (r : Bool) (c : Nat → Nat) (w : World) (hc : ∀ k, c k < 10)  (H : lex_Keyword.f a0 = some r) :
    Calls Tryd.prog 83 #[.string a0] w fun e w' => ∃ (c' : Nat → Nat) , e = .returned (.bool r) ∧ Step c w c' w' [] := by
 unfold lex_Keyword.f at H
 have HS := Step.refl c w []
 go_enter Tryd.func83, Tryd.ntmps83
 refine wp_seq_k fun K75 hK75 => ?_
 refine wl_region ?_
 refine st (.bool false) rfl rfl (xr_assign _ rfl rfl) ?_
 refine wl_end ?_
 (try simp only [ls0, ls1])
 refine hK75 _ _ ?_
 (try clear hK75 K75)
 refine wp_seq_k fun K76 hK76 => ?_
 refine wp_seq_k fun K77 hK77 => ?_
 refine wl_region ?_
 refine mv_ rfl ?_
 refine wl_end ?_
 (try simp only [ls0, ls1])
 refine hK77 _ _ ?_
 (try clear hK77 K77)
 refine wp_block ?_
 refine wp_seq_k fun K78 hK78 => ?_
 have hj109 : ∀ (C110 : Nat → Nat) (w111 : World) (x113 : Bool) (g_ : Nat → Value), Step c w C110 w111 [] → lex_Keyword.j0 x113 = some r → K78 ⟨#[(g_ 0), (g_ 1), (g_ 2), (g_ 3), .bool x113, (g_ 5), (g_ 6), (g_ 7), (g_ 8), (g_ 9), (g_ 10), (g_ 11), (g_ 12), (g_ 13), (g_ 14), (g_ 15), (g_ 16), (g_ 17), (g_ 18), (g_ 19), (g_ 20)], []⟩ w111 := by
  intro C110 w111 x113 g_ HS112  H
  unfold lex_Keyword.j0 at H
  refine hK78 _ _ ?_
  (try clear hK78)
  by_cases c116 : x113 = true
  ·rw [if_pos c116] at H
   (try rw [c116])
   refine wp_cond_true rfl ?_
   refine wp_seq_k fun K117 hK117 => ?_
   refine wl_region ?_
   refine st (.bool true) rfl rfl (xr_assign _ rfl rfl) ?_
   refine wl_end ?_
   (try simp only [ls0, ls1])
   refine hK117 _ _ ?_
   (try clear hK117 K117)
   refine wp_ret ?_
   (try simp only [Exit.inBlock, Exit.then, Exit.noGoto])
   (try simp only [ls0, ls1])
   obtain rfl := Option.some.inj H
   refine bodyPost_ret (results_tmp rfl _ _ _) rfl ?_
   exact ⟨_, rfl, HS112⟩
  rw [if_neg c116] at H
  (try rw [(Bool.eq_false_iff.mpr c116)])
  refine wp_cond_false rfl ?_
  refine wp_skip ?_
  (try simp only [ls0, ls1])
  refine hK76 _ _ ?_
  (try clear hK76 K76)
  refine wp_seq_k fun K118 hK118 => ?_
  refine wl_region ?_
  refine st (.bool false) rfl rfl (xr_assign _ rfl rfl) ?_
  refine wl_end ?_
  (try simp only [ls0, ls1])
  refine hK118 _ _ ?_
  (try clear hK118 K118)
  refine wp_ret ?_
  (try simp only [Exit.inBlock, Exit.then, Exit.noGoto])
  (try simp only [ls0, ls1])
  obtain rfl := Option.some.inj H
  refine bodyPost_ret (results_tmp rfl _ _ _) rfl ?_
  exact ⟨_, rfl, HS112⟩
 refine wp_seq_k fun K119 hK119 => ?_
 refine wl_region ?_
 refine st (.bool (decide (a0 = (⟨#[105, 109, 112, 111, 114, 116]⟩ : ByteArray)))) rfl rfl (xr_bin _ _ _ rfl rfl rfl (B.eql_str _ _)) ?_
 refine as_ rfl ?_
 refine wl_end ?_
 (try simp only [ls0, ls1])
 refine hK119 _ _ ?_
 (try clear hK119 K119)
 by_cases c120 : a0 = (⟨#[105, 109, 112, 111, 114, 116]⟩ : ByteArray)
 ·rw [if_pos c120] at H
  (try rw [(decide_eq_true c120)])
  refine wp_cond_true rfl ?_
  refine wp_skip ?_
  (try simp only [ls0, ls1])
  exact jmp (fun g_ => hj109 _ _ (true) g_ HS H) rfl
 rw [if_neg c120] at H
 (try rw [(decide_eq_false c120)])
 refine wp_cond_false rfl ?_
 refine wp_seq_k fun K121 hK121 => ?_
 refine wl_region ?_
 refine st (.bool (decide (a0 = (⟨#[108, 97, 116, 116, 105, 99, 101]⟩ : ByteArray)))) rfl rfl (xr_bin _ _ _ rfl rfl rfl (B.eql_str _ _)) ?_
 refine as_ rfl ?_
 refine wl_end ?_
 (try simp only [ls0, ls1])
 refine hK121 _ _ ?_
 (try clear hK121 K121)
 by_cases c122 : a0 = (⟨#[108, 97, 116, 116, 105, 99, 101]⟩ : ByteArray)
 ·rw [if_pos c122] at H
  (try rw [(decide_eq_true c122)])
  refine wp_cond_true rfl ?_
  refine wp_skip ?_
  (try simp only [ls0, ls1])
  exact jmp (fun g_ => hj109 _ _ (true) g_ HS H) rfl
 rw [if_neg c122] at H
 (try rw [(decide_eq_false c122)])
 refine wp_cond_false rfl ?_
 refine wp_seq_k fun K123 hK123 => ?_
 refine wl_region ?_
 refine st (.bool (decide (a0 = (⟨#[101, 102, 102, 101, 99, 116, 115]⟩ : ByteArray)))) rfl rfl (xr_bin _ _ _ rfl rfl rfl (B.eql_str _ _)) ?_
 refine as_ rfl ?_
 refine wl_end ?_
 (try simp only [ls0, ls1])
 refine hK123 _ _ ?_
 (try clear hK123 K123)
 by_cases c124 : a0 = (⟨#[101, 102, 102, 101, 99, 116, 115]⟩ : ByteArray)
 ·rw [if_pos c124] at H
  (try rw [(decide_eq_true c124)])
  refine wp_cond_true rfl ?_
  refine wp_skip ?_
  (try simp only [ls0, ls1])
  exact jmp (fun g_ => hj109 _ _ (true) g_ HS H) rfl
 rw [if_neg c124] at H
 (try rw [(decide_eq_false c124)])
 refine wp_cond_false rfl ?_
 refine wp_seq_k fun K125 hK125 => ?_
 refine wl_region ?_
 refine st (.bool (decide (a0 = (⟨#[118, 97, 114]⟩ : ByteArray)))) rfl rfl (xr_bin _ _ _ rfl rfl rfl (B.eql_str _ _)) ?_
 refine as_ rfl ?_
 refine wl_end ?_
 (try simp only [ls0, ls1])
 refine hK125 _ _ ?_
 (try clear hK125 K125)
 by_cases c126 : a0 = (⟨#[118, 97, 114]⟩ : ByteArray)
 ·rw [if_pos c126] at H
  (try rw [(decide_eq_true c126)])
  refine wp_cond_true rfl ?_
  refine wp_skip ?_
  (try simp only [ls0, ls1])
  exact jmp (fun g_ => hj109 _ _ (true) g_ HS H) rfl
 rw [if_neg c126] at H
 (try rw [(decide_eq_false c126)])
 refine wp_cond_false rfl ?_
 refine wp_seq_k fun K127 hK127 => ?_
 refine wl_region ?_
 refine st (.bool (decide (a0 = (⟨#[102, 110]⟩ : ByteArray)))) rfl rfl (xr_bin _ _ _ rfl rfl rfl (B.eql_str _ _)) ?_
 refine as_ rfl ?_
 refine wl_end ?_
 (try simp only [ls0, ls1])
 refine hK127 _ _ ?_
 (try clear hK127 K127)
 by_cases c128 : a0 = (⟨#[102, 110]⟩ : ByteArray)
 ·rw [if_pos c128] at H
  (try rw [(decide_eq_true c128)])
  refine wp_cond_true rfl ?_
  refine wp_skip ?_
  (try simp only [ls0, ls1])
  exact jmp (fun g_ => hj109 _ _ (true) g_ HS H) rfl
 rw [if_neg c128] at H
 (try rw [(decide_eq_false c128)])
 refine wp_cond_false rfl ?_
 refine wp_seq_k fun K129 hK129 => ?_
 refine wl_region ?_
 refine st (.bool (decide (a0 = (⟨#[108, 101, 116]⟩ : ByteArray)))) rfl rfl (xr_bin _ _ _ rfl rfl rfl (B.eql_str _ _)) ?_
 refine as_ rfl ?_
 refine wl_end ?_
 (try simp only [ls0, ls1])
 refine hK129 _ _ ?_
 (try clear hK129 K129)
 by_cases c130 : a0 = (⟨#[108, 101, 116]⟩ : ByteArray)
 ·rw [if_pos c130] at H
  (try rw [(decide_eq_true c130)])
  refine wp_cond_true rfl ?_
  refine wp_skip ?_
  (try simp only [ls0, ls1])
  exact jmp (fun g_ => hj109 _ _ (true) g_ HS H) rfl
 rw [if_neg c130] at H
 (try rw [(decide_eq_false c130)])
 refine wp_cond_false rfl ?_
 refine wp_seq_k fun K131 hK131 => ?_
 refine wl_region ?_
 refine st (.bool (decide (a0 = (⟨#[105, 102]⟩ : ByteArray)))) rfl rfl (xr_bin _ _ _ rfl rfl rfl (B.eql_str _ _)) ?_
 refine as_ rfl ?_
 refine wl_end ?_
 (try simp only [ls0, ls1])
 refine hK131 _ _ ?_
 (try clear hK131 K131)
 by_cases c132 : a0 = (⟨#[105, 102]⟩ : ByteArray)
 ·rw [if_pos c132] at H
  (try rw [(decide_eq_true c132)])
  refine wp_cond_true rfl ?_
  refine wp_skip ?_
  (try simp only [ls0, ls1])
  exact jmp (fun g_ => hj109 _ _ (true) g_ HS H) rfl
 rw [if_neg c132] at H
 (try rw [(decide_eq_false c132)])
 refine wp_cond_false rfl ?_
 refine wp_seq_k fun K133 hK133 => ?_
 refine wl_region ?_
 refine st (.bool (decide (a0 = (⟨#[101, 108, 115, 101]⟩ : ByteArray)))) rfl rfl (xr_bin _ _ _ rfl rfl rfl (B.eql_str _ _)) ?_
 refine as_ rfl ?_
 refine wl_end ?_
 (try simp only [ls0, ls1])
 refine hK133 _ _ ?_
 (try clear hK133 K133)
 by_cases c134 : a0 = (⟨#[101, 108, 115, 101]⟩ : ByteArray)
 ·rw [if_pos c134] at H
  (try rw [(decide_eq_true c134)])
  refine wp_cond_true rfl ?_
  refine wp_skip ?_
  (try simp only [ls0, ls1])
  exact jmp (fun g_ => hj109 _ _ (true) g_ HS H) rfl
 rw [if_neg c134] at H
 (try rw [(decide_eq_false c134)])
 refine wp_cond_false rfl ?_
 refine wp_seq_k fun K135 hK135 => ?_
 refine wl_region ?_
 refine st (.bool (decide (a0 = (⟨#[119, 104, 105, 108, 101]⟩ : ByteArray)))) rfl rfl (xr_bin _ _ _ rfl rfl rfl (B.eql_str _ _)) ?_
 refine as_ rfl ?_
 refine wl_end ?_
 (try simp only [ls0, ls1])
 refine hK135 _ _ ?_
 (try clear hK135 K135)
 by_cases c136 : a0 = (⟨#[119, 104, 105, 108, 101]⟩ : ByteArray)
 ·rw [if_pos c136] at H
  (try rw [(decide_eq_true c136)])
  refine wp_cond_true rfl ?_
  refine wp_skip ?_
  (try simp only [ls0, ls1])
  exact jmp (fun g_ => hj109 _ _ (true) g_ HS H) rfl
 rw [if_neg c136] at H
 (try rw [(decide_eq_false c136)])
 refine wp_cond_false rfl ?_
 refine wp_seq_k fun K137 hK137 => ?_
 refine wl_region ?_
 refine st (.bool (decide (a0 = (⟨#[114, 101, 116, 117, 114, 110]⟩ : ByteArray)))) rfl rfl (xr_bin _ _ _ rfl rfl rfl (B.eql_str _ _)) ?_
 refine as_ rfl ?_
 refine wl_end ?_
 (try simp only [ls0, ls1])
 refine hK137 _ _ ?_
 (try clear hK137 K137)
 by_cases c138 : a0 = (⟨#[114, 101, 116, 117, 114, 110]⟩ : ByteArray)
 ·rw [if_pos c138] at H
  (try rw [(decide_eq_true c138)])
  refine wp_cond_true rfl ?_
  refine wp_skip ?_
  (try simp only [ls0, ls1])
  exact jmp (fun g_ => hj109 _ _ (true) g_ HS H) rfl
 rw [if_neg c138] at H
 (try rw [(decide_eq_false c138)])
 refine wp_cond_false rfl ?_
 refine wp_seq_k fun K139 hK139 => ?_
 refine wl_region ?_
 refine st (.bool (decide (a0 = (⟨#[100, 111]⟩ : ByteArray)))) rfl rfl (xr_bin _ _ _ rfl rfl rfl (B.eql_str _ _)) ?_
 refine as_ rfl ?_
 refine wl_end ?_
 (try simp only [ls0, ls1])
 refine hK139 _ _ ?_
 (try clear hK139 K139)
 by_cases c140 : a0 = (⟨#[100, 111]⟩ : ByteArray)
 ·rw [if_pos c140] at H
  (try rw [(decide_eq_true c140)])
  refine wp_cond_true rfl ?_
  refine wp_skip ?_
  (try simp only [ls0, ls1])
  exact jmp (fun g_ => hj109 _ _ (true) g_ HS H) rfl
 rw [if_neg c140] at H
 (try rw [(decide_eq_false c140)])
 refine wp_cond_false rfl ?_
 refine wp_seq_k fun K141 hK141 => ?_
 refine wl_region ?_
 refine st (.bool (decide (a0 = (⟨#[116, 114, 117, 101]⟩ : ByteArray)))) rfl rfl (xr_bin _ _ _ rfl rfl rfl (B.eql_str _ _)) ?_
 refine as_ rfl ?_
 refine wl_end ?_
 (try simp only [ls0, ls1])
 refine hK141 _ _ ?_
 (try clear hK141 K141)
 by_cases c142 : a0 = (⟨#[116, 114, 117, 101]⟩ : ByteArray)
 ·rw [if_pos c142] at H
  (try rw [(decide_eq_true c142)])
  refine wp_cond_true rfl ?_
  refine wp_skip ?_
  (try simp only [ls0, ls1])
  exact jmp (fun g_ => hj109 _ _ (true) g_ HS H) rfl
 rw [if_neg c142] at H
 (try rw [(decide_eq_false c142)])
 refine wp_cond_false rfl ?_
 refine wp_seq_k fun K143 hK143 => ?_
 refine wl_region ?_
 refine st (.bool (decide (a0 = (⟨#[102, 97, 108, 115, 101]⟩ : ByteArray)))) rfl rfl (xr_bin _ _ _ rfl rfl rfl (B.eql_str _ _)) ?_
 refine as_ rfl ?_
 refine wl_end ?_
 (try simp only [ls0, ls1])
 refine hK143 _ _ ?_
 (try clear hK143 K143)
 by_cases c144 : a0 = (⟨#[102, 97, 108, 115, 101]⟩ : ByteArray)
 ·rw [if_pos c144] at H
  (try rw [(decide_eq_true c144)])
  refine wp_cond_true rfl ?_
  refine wp_skip ?_
  (try simp only [ls0, ls1])
  exact jmp (fun g_ => hj109 _ _ (true) g_ HS H) rfl
 rw [if_neg c144] at H
 (try rw [(decide_eq_false c144)])
 refine wp_cond_false rfl ?_
 refine wp_seq_k fun K145 hK145 => ?_
 refine wl_region ?_
 refine st (.bool (decide (a0 = (⟨#[105, 110, 116]⟩ : ByteArray)))) rfl rfl (xr_bin _ _ _ rfl rfl rfl (B.eql_str _ _)) ?_
 refine as_ rfl ?_
 refine wl_end ?_
 (try simp only [ls0, ls1])
 refine hK145 _ _ ?_
 (try clear hK145 K145)
 by_cases c146 : a0 = (⟨#[105, 110, 116]⟩ : ByteArray)
 ·rw [if_pos c146] at H
  (try rw [(decide_eq_true c146)])
  refine wp_cond_true rfl ?_
  refine wp_skip ?_
  (try simp only [ls0, ls1])
  exact jmp (fun g_ => hj109 _ _ (true) g_ HS H) rfl
 rw [if_neg c146] at H
 (try rw [(decide_eq_false c146)])
 refine wp_cond_false rfl ?_
 refine wp_seq_k fun K147 hK147 => ?_
 refine wl_region ?_
 refine st (.bool (decide (a0 = (⟨#[98, 111, 111, 108]⟩ : ByteArray)))) rfl rfl (xr_bin _ _ _ rfl rfl rfl (B.eql_str _ _)) ?_
 refine as_ rfl ?_
 refine wl_end ?_
 (try simp only [ls0, ls1])
 refine hK147 _ _ ?_
 (try clear hK147 K147)
 by_cases c148 : a0 = (⟨#[98, 111, 111, 108]⟩ : ByteArray)
 ·rw [if_pos c148] at H
  (try rw [(decide_eq_true c148)])
  refine wp_cond_true rfl ?_
  refine wp_skip ?_
  (try simp only [ls0, ls1])
  exact jmp (fun g_ => hj109 _ _ (true) g_ HS H) rfl
 rw [if_neg c148] at H
 (try rw [(decide_eq_false c148)])
 refine wp_cond_false rfl ?_
 refine wl_region ?_
 refine st (.bool (decide (a0 = (⟨#[100, 101, 99, 108, 97, 115, 115, 105, 102, 121]⟩ : ByteArray)))) rfl rfl (xr_bin _ _ _ rfl rfl rfl (B.eql_str _ _)) ?_
 refine as_ rfl ?_
 refine wl_end ?_
 (try simp only [ls0, ls1])
 exact jmp (fun g_ => hj109 _ _ (decide (a0 = (⟨#[100, 101, 99, 108, 97, 115, 115, 105, 102, 121]⟩ : ByteArray))) g_ HS H) rfl

/-! ### lex_letter: function 84 -/
def lex_letter.f (a0 : Int) : Option (Bool) := if (Go.bits .or .u8 a0 32) ≥ 97 then (if (Go.bits .or .u8 a0 32) ≤ 122 then (some true) else (some (decide (a0 = 95)))) else (some (decide (a0 = 95)))
set_option maxHeartbeats 2000000 in
set_option maxRecDepth 100000 in
theorem lex_letter.calls (a0 : Int) (r : Bool) (c : Nat → Nat) (w : World) (hc : ∀ k, c k < 10)  (H : lex_letter.f a0 = some r) :
    Calls Tryd.prog 84 #[.int .u8 a0] w fun e w' => ∃ (c' : Nat → Nat) , e = .returned (.bool r) ∧ Step c w c' w' [] := by
 unfold lex_letter.f at H
 have HS := Step.refl c w []
 go_enter Tryd.func84, Tryd.ntmps84
 refine wp_seq_k fun K5 hK5 => ?_
 refine wl_region ?_
 refine st (.bool false) rfl rfl (xr_assign _ rfl rfl) ?_
 refine wl_end ?_
 (try simp only [ls0, ls1])
 refine hK5 _ _ ?_
 (try clear hK5 K5)
 refine wp_seq_k fun K6 hK6 => ?_
 refine wl_region ?_
 refine mv_ rfl ?_
 refine st (.int .u8 (Go.bits .or .u8 a0 32)) rfl rfl (xr_bin _ _ _ rfl rfl rfl (B.or_u8 _ _)) ?_
 refine st (.bool (decide ((Go.bits .or .u8 a0 32) ≥ 97))) rfl rfl (xr_bin _ _ _ rfl rfl rfl (B.geq_u8 _ _)) ?_
 refine mv_ rfl ?_
 simp only [ls0, ls1]
 by_cases c7 : (Go.bits .or .u8 a0 32) ≥ 97
 ·rw [if_pos c7] at H
  (try rw [(decide_eq_true c7)])
  refine on_guard (guard_on 3 true 6 rfl rfl rfl) ?_
  refine mv_ rfl ?_
  refine on_guard (guard_on 3 true 6 rfl rfl rfl) ?_
  refine st (.int .u8 (Go.bits .or .u8 a0 32)) rfl rfl (xr_bin _ _ _ rfl rfl rfl (B.or_u8 _ _)) ?_
  refine on_guard (guard_on 3 true 6 rfl rfl rfl) ?_
  refine st (.bool (decide ((Go.bits .or .u8 a0 32) ≤ 122))) rfl rfl (xr_bin _ _ _ rfl rfl rfl (B.leq_u8 _ _)) ?_
  refine st (.bool (decide ((Go.bits .or .u8 a0 32) ≤ 122))) rfl rfl (xr_pick true _ rfl rfl rfl) ?_
  simp only [ls0, ls1]
  refine mv_ rfl ?_
  by_cases c8 : (Go.bits .or .u8 a0 32) ≤ 122
  ·rw [if_pos c8] at H
   (try rw [(decide_eq_true c8)])
   refine sk_guard (guard_off 8 false 11 rfl rfl true (by decide) rfl) rfl ?_
   refine sk_guard (guard_off 8 false 11 rfl rfl true (by decide) rfl) rfl ?_
   refine st (.bool true) rfl rfl (xr_pick true _ rfl rfl rfl) ?_
   simp only [ls0, ls1]
   refine as_ rfl ?_
   refine wl_end ?_
   (try simp only [ls0, ls1])
   refine hK6 _ _ ?_
   (try clear hK6 K6)
   refine wp_ret ?_
   (try simp only [Exit.inBlock, Exit.then, Exit.noGoto])
   (try simp only [ls0, ls1])
   obtain rfl := Option.some.inj H
   refine bodyPost_ret (results_tmp rfl _ _ _) rfl ?_
   exact ⟨_, rfl, HS⟩
  rw [if_neg c8] at H
  (try rw [(decide_eq_false c8)])
  refine on_guard (guard_on 8 false 11 rfl rfl rfl) ?_
  refine mv_ rfl ?_
  refine on_guard (guard_on 8 false 11 rfl rfl rfl) ?_
  refine st (.bool (decide (a0 = 95))) rfl rfl (xr_bin _ _ _ rfl rfl rfl (B.eql_u8 _ _)) ?_
  refine st (.bool (decide (a0 = 95))) rfl rfl (xr_pick false _ rfl rfl rfl) ?_
  refine as_ rfl ?_
  simp only [ls0, ls1]
  refine wl_end ?_
  (try simp only [ls0, ls1])
  refine hK6 _ _ ?_
  (try clear hK6 K6)
  refine wp_ret ?_
  (try simp only [Exit.inBlock, Exit.then, Exit.noGoto])
  (try simp only [ls0, ls1])
  obtain rfl := Option.some.inj H
  refine bodyPost_ret (results_tmp rfl _ _ _) rfl ?_
  exact ⟨_, rfl, HS⟩
 rw [if_neg c7] at H
 (try rw [(decide_eq_false c7)])
 refine sk_guard (guard_off 3 true 6 rfl rfl false (by decide) rfl) rfl ?_
 refine sk_guard (guard_off 3 true 6 rfl rfl false (by decide) rfl) rfl ?_
 refine sk_guard (guard_off 3 true 6 rfl rfl false (by decide) rfl) rfl ?_
 refine st (.bool false) rfl rfl (xr_pick false _ rfl rfl rfl) ?_
 simp only [ls0, ls1]
 refine mv_ rfl ?_
 refine on_guard (guard_on 8 false 11 rfl rfl rfl) ?_
 refine mv_ rfl ?_
 refine on_guard (guard_on 8 false 11 rfl rfl rfl) ?_
 refine st (.bool (decide (a0 = 95))) rfl rfl (xr_bin _ _ _ rfl rfl rfl (B.eql_u8 _ _)) ?_
 refine st (.bool (decide (a0 = 95))) rfl rfl (xr_pick false _ rfl rfl rfl) ?_
 simp only [ls0, ls1]
 refine as_ rfl ?_
 refine wl_end ?_
 (try simp only [ls0, ls1])
 refine hK6 _ _ ?_
 (try clear hK6 K6)
 refine wp_ret ?_
 (try simp only [Exit.inBlock, Exit.then, Exit.noGoto])
 (try simp only [ls0, ls1])
 obtain rfl := Option.some.inj H
 refine bodyPost_ret (results_tmp rfl _ _ _) rfl ?_
 exact ⟨_, rfl, HS⟩

/-! ### lex_digit: function 87 -/
def lex_digit.f (a0 : Int) : Option (Bool) := if a0 ≥ 48 then (some (decide (a0 ≤ 57))) else (some false)
set_option maxHeartbeats 2000000 in
set_option maxRecDepth 100000 in
theorem lex_digit.calls (a0 : Int) (r : Bool) (c : Nat → Nat) (w : World) (hc : ∀ k, c k < 10)  (H : lex_digit.f a0 = some r) :
    Calls Tryd.prog 87 #[.int .u8 a0] w fun e w' => ∃ (c' : Nat → Nat) , e = .returned (.bool r) ∧ Step c w c' w' [] := by
 unfold lex_digit.f at H
 have HS := Step.refl c w []
 go_enter Tryd.func87, Tryd.ntmps87
 refine wp_seq_k fun K4 hK4 => ?_
 refine wl_region ?_
 refine st (.bool false) rfl rfl (xr_assign _ rfl rfl) ?_
 refine wl_end ?_
 (try simp only [ls0, ls1])
 refine hK4 _ _ ?_
 (try clear hK4 K4)
 refine wp_seq_k fun K5 hK5 => ?_
 refine wl_region ?_
 refine mv_ rfl ?_
 refine st (.bool (decide (a0 ≥ 48))) rfl rfl (xr_bin _ _ _ rfl rfl rfl (B.geq_u8 _ _)) ?_
 refine mv_ rfl ?_
 by_cases c6 : a0 ≥ 48
 ·rw [if_pos c6] at H
  (try rw [(decide_eq_true c6)])
  refine on_guard (guard_on 2 true 5 rfl rfl rfl) ?_
  refine mv_ rfl ?_
  simp only [ls0, ls1]
  refine on_guard (guard_on 2 true 5 rfl rfl rfl) ?_
  refine st (.bool (decide (a0 ≤ 57))) rfl rfl (xr_bin _ _ _ rfl rfl rfl (B.leq_u8 _ _)) ?_
  refine st (.bool (decide (a0 ≤ 57))) rfl rfl (xr_pick true _ rfl rfl rfl) ?_
  refine as_ rfl ?_
  refine wl_end ?_
  (try simp only [ls0, ls1])
  refine hK5 _ _ ?_
  (try clear hK5 K5)
  refine wp_ret ?_
  (try simp only [Exit.inBlock, Exit.then, Exit.noGoto])
  (try simp only [ls0, ls1])
  obtain rfl := Option.some.inj H
  refine bodyPost_ret (results_tmp rfl _ _ _) rfl ?_
  exact ⟨_, rfl, HS⟩
 rw [if_neg c6] at H
 (try rw [(decide_eq_false c6)])
 refine sk_guard (guard_off 2 true 5 rfl rfl false (by decide) rfl) rfl ?_
 refine sk_guard (guard_off 2 true 5 rfl rfl false (by decide) rfl) rfl ?_
 refine st (.bool false) rfl rfl (xr_pick false _ rfl rfl rfl) ?_
 refine as_ rfl ?_
 simp only [ls0, ls1]
 refine wl_end ?_
 (try simp only [ls0, ls1])
 refine hK5 _ _ ?_
 (try clear hK5 K5)
 refine wp_ret ?_
 (try simp only [Exit.inBlock, Exit.then, Exit.noGoto])
 (try simp only [ls0, ls1])
 obtain rfl := Option.some.inj H
 refine bodyPost_ret (results_tmp rfl _ _ _) rfl ?_
 exact ⟨_, rfl, HS⟩

/-! ### lex_Ident_1: function 86 -/
def lex_Ident_1.f (a0 : Int) : Option (Bool) := (lex_letter.f a0).bind fun t18 => (if t18 = true then (some true) else ((lex_digit.f a0).bind fun t25 => (some t25)))
set_option maxHeartbeats 2000000 in
set_option maxRecDepth 100000 in
theorem lex_Ident_1.calls (a0 : Int) (r : Bool) (c : Nat → Nat) (w : World) (hc : ∀ k, c k < 10)  (H : lex_Ident_1.f a0 = some r) :
    Calls Tryd.prog 86 #[.int .u8 a0] w fun e w' => ∃ (c' : Nat → Nat) , e = .returned (.bool r) ∧ Step c w c' w' [] := by
 unfold lex_Ident_1.f at H
 have HS := Step.refl c w []
 go_enter Tryd.func86, Tryd.ntmps86
 refine wp_seq_k fun K16 hK16 => ?_
 refine wl_region ?_
 refine st (.bool false) rfl rfl (xr_assign _ rfl rfl) ?_
 refine wl_end ?_
 (try simp only [ls0, ls1])
 refine hK16 _ _ ?_
 (try clear hK16 K16)
 refine wp_seq_k fun K17 hK17 => ?_
 refine wl_region ?_
 refine mv_ rfl ?_
 obtain ⟨t18, A19, H⟩ := bnd H
 refine st_call #[.int .u8 a0] rfl rfl Tryd.func84 (by kernel_rfl) rfl rfl (mp_ rfl) ?_
 refine (lex_letter.calls a0 t18  (fun z_ => pal [(0, 0)] (c z_)) w (fun _ => pal_lt rfl _) A19).mono ?_
 rintro _ w21 ⟨C22, rfl, hs23⟩
 refine ⟨_, rfl, ?_⟩
 replace hs23 := Step.lift (U := [(0, 0)]) hs23 [] rfl rfl
 generalize up c C22 w.heap.size [(0, 0)] = C22_ at hs23
 replace HS := HS.trans hs23 hc rfl
 (try simp only [ls0, ls1])
 refine mv_ rfl ?_
 by_cases c24 : t18 = true
 ·rw [if_pos c24] at H
  (try rw [c24])
  refine sk_guard (guard_off 2 false 5 rfl rfl true (by decide) rfl) rfl ?_
  refine sk_guard (guard_off 2 false 5 rfl rfl true (by decide) rfl) rfl ?_
  refine st (.bool true) rfl rfl (xr_pick true _ rfl rfl rfl) ?_
  simp only [ls0, ls1]
  refine as_ rfl ?_
  refine wl_end ?_
  (try simp only [ls0, ls1])
  refine hK17 _ _ ?_
  (try clear hK17 K17)
  refine wp_ret ?_
  (try simp only [Exit.inBlock, Exit.then, Exit.noGoto])
  (try simp only [ls0, ls1])
  obtain rfl := Option.some.inj H
  refine bodyPost_ret (results_tmp rfl _ _ _) rfl ?_
  exact ⟨_, rfl, HS⟩
 rw [if_neg c24] at H
 (try rw [(Bool.eq_false_iff.mpr c24)])
 refine on_guard (guard_on 2 false 5 rfl rfl rfl) ?_
 refine mv_ rfl ?_
 refine on_guard (guard_on 2 false 5 rfl rfl rfl) ?_
 obtain ⟨t25, A26, H⟩ := bnd H
 refine st_call #[.int .u8 a0] rfl rfl Tryd.func87 (by kernel_rfl) rfl rfl (mp_ rfl) ?_
 refine (lex_digit.calls a0 t25  (fun z_ => pal [(0, 0)] (C22_ z_)) w21 (fun _ => pal_lt rfl _) A26).mono ?_
 rintro _ w28 ⟨C29, rfl, hs30⟩
 refine ⟨_, rfl, ?_⟩
 replace hs30 := Step.lift (U := [(0, 0)]) hs30 [] rfl rfl
 generalize up C22_ C29 w21.heap.size [(0, 0)] = C29_ at hs30
 replace HS := HS.trans hs30 hc rfl
 (try simp only [ls0, ls1])
 refine st (.bool t25) rfl rfl (xr_pick false _ rfl rfl rfl) ?_
 refine as_ rfl ?_
 refine wl_end ?_
 (try simp only [ls0, ls1])
 refine hK17 _ _ ?_
 (try clear hK17 K17)
 refine wp_ret ?_
 (try simp only [Exit.inBlock, Exit.then, Exit.noGoto])
 (try simp only [ls0, ls1])
 obtain rfl := Option.some.inj H
 refine bodyPost_ret (results_tmp rfl _ _ _) rfl ?_
 exact ⟨_, rfl, HS⟩

/-! ### lex_run_lex_Ident_1: function 85 -/
mutual
def lex_run_lex_Ident_1.j0 : Nat → (List Int) → Int → Bool → Option (Int)
  | 0, _, _, _ => none
  | k + 1, l0, x186, x213 => if x213 = true then (lex_run_lex_Ident_1.l0 k l0 (wrap64 (x186 + 1))) else (some x186)
def lex_run_lex_Ident_1.l0 : Nat → (List Int) → Int → Option (Int)
  | 0, _, _ => none
  | k + 1, l0, x186 => if x186 < (l0.length : Int) then (if 0 ≤ x186 then ((lex_Ident_1.f (rd l0 x186)).bind fun t223 => (lex_run_lex_Ident_1.j0 k l0 x186 t223)) else (none)) else (lex_run_lex_Ident_1.j0 k l0 x186 false)
end
def lex_run_lex_Ident_1.f (k : Nat) (l0 : List Int) : Option (Int) := lex_run_lex_Ident_1.l0 k l0 0

set_option maxHeartbeats 2000000 in
set_option maxRecDepth 100000 in
theorem lex_run_lex_Ident_1.calls (k : Nat) (A0 : Option Addr) (c0 : Nat) (l0 : List Int) (r : Int) (c : Nat → Nat) (w : World) (hc : ∀ k, c k < 10) (HP0 : Ft c [0] w (fun w_ => (Kd.int .u8).C w_ A0 l0.length l0)) (HCP0 : l0.length ≤ c0) (H : lex_run_lex_Ident_1.f k l0 = some r) :
    Calls Tryd.prog 85 #[.slice A0 l0.length c0, .func (.func 86) #[] #[]] w fun e w' => ∃ (c' : Nat → Nat) , e = .returned (.int .i64 r) ∧ Step c w c' w' [] := by
 unfold lex_run_lex_Ident_1.f at H
 have HS := Step.refl c w []
 go_enter Tryd.func85, Tryd.ntmps85
 refine wp_seq_k fun K115 hK115 => ?_
 refine wl_region ?_
 refine st (.int .i64 0) rfl rfl (xr_assign _ rfl rfl) ?_
 refine wl_end ?_
 (try simp only [ls0, ls1])
 refine hK115 _ _ ?_
 (try clear hK115 K115)
 refine wp_seq_k fun K116 hK116 => ?_
 refine wl_region ?_
 refine st (.int .i64 0) rfl rfl (xr_assign _ rfl rfl) ?_
 refine wl_end ?_
 (try simp only [ls0, ls1])
 refine hK116 _ _ ?_
 (try clear hK116 K116)
 refine wp_seq_k fun K117 hK117 => ?_
 refine wp_block ?_
 (try simp only [ls0, ls1])
 refine wp_looped (looped_fin (fun kq189 a_ w188 => ∃ (C187 : Nat → Nat) (x186 : Int) (g_ : Nat → Value), a_ = ⟨#[.slice A0 l0.length c0, .func (.func 86) #[] #[], (g_ 2), (g_ 3), (g_ 4), .int .i64 x186, (g_ 6), (g_ 7), (g_ 8), (g_ 9), (g_ 10), (g_ 11), (g_ 12), (g_ 13), (g_ 14), (g_ 15), (g_ 16), (g_ 17), (g_ 18), (g_ 19), (g_ 20)], []⟩ ∧ Step c w C187 w188 [] ∧ kq189 ≤ k ∧ (Ft C187 [0] w188 (fun w_ => (Kd.int .u8).C w_ A0 l0.length l0)) ∧ lex_run_lex_Ident_1.l0 kq189 l0 x186 = some r) ?step fun hL_ => ?init)
 case init =>
  exact jmpL (fun a_ h_ => hL_ k a_ _ h_) (fun g_ => ⟨_, 0, g_, rfl, HS, Nat.le_refl _, HP0, H⟩) rfl
 case step =>
  intro kq189 ih192 a193 w188 hr194
  obtain ⟨C187, x186, g_, rfl, HS190, hk191, HJ185, H⟩ := hr194
  refine looped_round ?_
  cases kq189 with
  | zero => exact absurd H (by simp [lex_run_lex_Ident_1.l0])
  | succ k195 =>
   simp only [lex_run_lex_Ident_1.l0] at H
   refine wp_seq_k fun K196 hK196 => ?_
   refine wp_seq_k fun K197 hK197 => ?_
   have hj208 : ∀ (kq214 : Nat) (C209 : Nat → Nat) (w210 : World) (x213 : Bool) (g_ : Nat → Value), Step c w C209 w210 [] → kq214 ≤ k195 → (Ft C209 [0] w210 (fun w_ => (Kd.int .u8).C w_ A0 l0.length l0)) → lex_run_lex_Ident_1.j0 kq214 l0 x186 x213 = some r → K197 ⟨#[.slice A0 l0.length c0, .func (.func 86) #[] #[], (g_ 2), (g_ 3), (g_ 4), .int .i64 x186, (g_ 6), (g_ 7), (g_ 8), (g_ 9), (g_ 10), (g_ 11), (g_ 12), (g_ 13), (g_ 14), (g_ 15), (g_ 16), .bool x213, (g_ 18), (g_ 19), (g_ 20)], []⟩ w210 := by
    intro kq214 C209 w210 x213 g_ HS211 hk215 HJ212 H
    cases kq214 with
    | zero => exact absurd H (by simp [lex_run_lex_Ident_1.j0])
    | succ k216 =>
     simp only [lex_run_lex_Ident_1.j0] at H
     refine hK197 _ _ ?_
     (try clear hK197)
     by_cases c217 : x213 = true
     ·rw [if_pos c217] at H
      (try rw [c217])
      refine wp_cond_true rfl ?_
      refine wp_skip ?_
      (try simp only [ls0, ls1])
      refine hK196 _ _ ?_
      (try clear hK196 K196)
      refine wp_block ?_
      refine wl_region ?_
      refine mv_ rfl ?_
      refine st (.int .i64 (wrap64 (x186 + 1))) rfl rfl (xr_bin _ _ _ rfl rfl rfl (B.add_i64 _ _)) ?_
      refine as_ rfl ?_
      refine wl_end ?_
      (try simp only [ls0, ls1])
      exact jmpL (fun a_ h_ => ih192 k216 (by omega) a_ _ h_) (fun g_ => ⟨_, wrap64 (x186 + 1), g_, rfl, HS211, (by omega), HJ212, H⟩) rfl
     rw [if_neg c217] at H
     (try rw [(Bool.eq_false_iff.mpr c217)])
     refine wp_cond_false rfl ?_
     refine wp_exit ?_
     (try simp only [ls0, ls1])
     refine hK117 _ _ ?_
     (try clear hK117 K117)
     refine wp_seq_k fun K218 hK218 => ?_
     refine wl_region ?_
     refine mv_ rfl ?_
     refine as_ rfl ?_
     refine wl_end ?_
     (try simp only [ls0, ls1])
     refine hK218 _ _ ?_
     (try clear hK218 K218)
     refine wp_ret ?_
     (try simp only [Exit.inBlock, Exit.then, Exit.noGoto])
     (try simp only [ls0, ls1])
     obtain rfl := Option.some.inj H
     refine bodyPost_ret (results_tmp rfl _ _ _) rfl ?_
     exact ⟨_, rfl, HS211⟩
   refine wl_region ?_
   refine mv_ rfl ?_
   refine mv_ rfl ?_
   refine st (.int .i64 (l0.length : Int)) rfl rfl (xr_builtin #[.slice A0 l0.length c0] (.int .i64 (l0.length : Int)) rfl (mp_ rfl) (by first | rfl | (go_simp; done) | (go_simp; rfl) | (go_simp; exact i64_w _) | (go_simp; exact i32_w _))) ?_
   refine st (.bool (decide (x186 < (l0.length : Int)))) rfl rfl (xr_bin _ _ _ rfl rfl rfl (B.lss_i64 _ _)) ?_
   simp only [ls0, ls1]
   refine mv_ rfl ?_
   by_cases c219 : x186 < (l0.length : Int)
   ·rw [if_pos c219] at H
    (try rw [(decide_eq_true c219)])
    refine on_guard (guard_on 4 true 10 rfl rfl rfl) ?_
    refine mv_ rfl ?_
    refine on_guard (guard_on 4 true 10 rfl rfl rfl) ?_
    refine mv_ rfl ?_
    refine on_guard (guard_on 4 true 10 rfl rfl rfl) ?_
    refine mv_ rfl ?_
    simp only [ls0, ls1]
    refine on_guard (guard_on 4 true 10 rfl rfl rfl) ?_
    obtain ⟨c220, H⟩ := if_some H
    obtain ⟨ad221, hA222⟩ := c_addr (Ft.now HJ185) (pos_of (j := x186) (by first | assumption | decide) (by first | assumption | omega))
    refine st (.pointer (some (ad221.add ((x186 : Int).toNat * 1)))) rfl rfl (xr_indexAddr _ _ _ rfl rfl rfl (index_at Tryd.underlying129 info5 hA222 (by first | assumption | decide | omega) (by first | assumption | decide | omega))) ?_
    refine on_guard (guard_on 4 true 10 rfl rfl rfl) ?_
    refine st (.int .u8 (rd l0 x186)) rfl rfl (xr_load _ _ rfl rfl (load_int Tryd.underlying5 rfl hA222 (Ft.now HJ185) (by first | assumption | decide | omega) (by first | assumption | decide | omega))) ?_
    refine on_guard (guard_on 4 true 10 rfl rfl rfl) ?_
    obtain ⟨t223, A224, H⟩ := bnd H
    refine st_callV #[.int .u8 (rd l0 x186)] #[] #[.int .u8 (rd l0 x186)] rfl rfl Tryd.func86 (by kernel_rfl) rfl rfl rfl (mp_ rfl) (by rfl) ?_
    refine (lex_Ident_1.calls (rd l0 x186) t223  (fun z_ => pal [(0, 0)] (C187 z_)) w188 (fun _ => pal_lt rfl _) A224).mono ?_
    rintro _ w226 ⟨C227, rfl, hs228⟩
    refine ⟨_, rfl, ?_⟩
    replace hs228 := Step.lift (U := [(0, 0)]) hs228 [] rfl rfl
    generalize up C187 C227 w188.heap.size [(0, 0)] = C227_ at hs228
    replace HJ185 := HJ185.thru hs228 rfl
    replace HS190 := HS190.trans hs228 hc rfl
    (try simp only [ls0, ls1])
    refine st (.bool t223) rfl rfl (xr_pick true _ rfl rfl rfl) ?_
    refine wl_end ?_
    (try simp only [ls0, ls1])
    exact jmp (fun g_ => hj208 _ _ _ (t223) g_ HS190 (by omega) HJ185 H) rfl
   rw [if_neg c219] at H
   (try rw [(decide_eq_false c219)])
   refine sk_guard (guard_off 4 true 10 rfl rfl false (by decide) rfl) rfl ?_
   refine sk_guard (guard_off 4 true 10 rfl rfl false (by decide) rfl) rfl ?_
   refine sk_guard (guard_off 4 true 10 rfl rfl false (by decide) rfl) rfl ?_
   refine sk_guard (guard_off 4 true 10 rfl rfl false (by decide) rfl) rfl ?_
   simp only [ls0, ls1]
   refine sk_guard (guard_off 4 true 10 rfl rfl false (by decide) rfl) rfl ?_
   refine sk_guard (guard_off 4 true 10 rfl rfl false (by decide) rfl) rfl ?_
   refine st (.bool false) rfl rfl (xr_pick false _ rfl rfl rfl) ?_
   refine wl_end ?_
   (try simp only [ls0, ls1])
   exact jmp (fun g_ => hj208 _ _ _ (false) g_ HS190 (by omega) HJ185 H) rfl

/-! ### lex_Ident: function 71 -/
def lex_Ident.j0 : Nat → ByteArray → Bool → Option (Bool)
  | 0, _, _ => none
  | k + 1, a0, x86 => if x86 = true then (some false) else (if a0.size ≤ 9223372036854775807 then ((some (bytesOf a0 : List Int)).bind fun y94 => ((lex_run_lex_Ident_1.f k y94).bind fun t103 => (some (decide (t103 = (a0.size : Int)))))) else (none))
def lex_Ident.f (k : Nat) (a0 : ByteArray) : Option (Bool) := if a0 = (⟨#[]⟩ : ByteArray) then (lex_Ident.j0 k a0 true) else (if (a0.size : Int) > 24 then (lex_Ident.j0 k a0 true) else ((lex_Keyword.f a0).bind fun t111 => (if t111 = true then (lex_Ident.j0 k a0 true) else (if 0 < (a0.size : Int) then ((lex_letter.f (bt a0 0)).bind fun t119 => (lex_Ident.j0 k a0 (!t119))) else (none)))))

set_option maxHeartbeats 2000000 in
set_option maxRecDepth 100000 in
theorem lex_Ident.calls (k : Nat) (a0 : ByteArray) (r : Bool) (c : Nat → Nat) (w : World) (hc : ∀ k, c k < 10)  (H : lex_Ident.f k a0 = some r) :
    Calls Tryd.prog 71 #[.string a0] w fun e w' => ∃ (c' : Nat → Nat) , e = .returned (.bool r) ∧ Step c w c' w' [] := by
 unfold lex_Ident.f at H
 have HS := Step.refl c w []
 go_enter Tryd.func71, Tryd.ntmps71
 refine wp_seq_k fun K63 hK63 => ?_
 refine wl_region ?_
 refine st (.bool false) rfl rfl (xr_assign _ rfl rfl) ?_
 refine wl_end ?_
 (try simp only [ls0, ls1])
 refine hK63 _ _ ?_
 (try clear hK63 K63)
 refine wp_seq_k fun K64 hK64 => ?_
 refine wp_seq_k fun K65 hK65 => ?_
 have hj82 : ∀ (kq87 : Nat) (C83 : Nat → Nat) (w84 : World) (x86 : Bool) (g_ : Nat → Value), Step c w C83 w84 [] → kq87 ≤ k → lex_Ident.j0 kq87 a0 x86 = some r → K65 ⟨#[.string a0, (g_ 1), (g_ 2), (g_ 3), (g_ 4), (g_ 5), (g_ 6), (g_ 7), (g_ 8), (g_ 9), (g_ 10), (g_ 11), (g_ 12), (g_ 13), (g_ 14), (g_ 15), (g_ 16), (g_ 17), (g_ 18), .bool x86, (g_ 20), (g_ 21), (g_ 22), (g_ 23), (g_ 24), (g_ 25)], []⟩ w84 := by
  intro kq87 C83 w84 x86 g_ HS85 hk88  H
  cases kq87 with
  | zero => exact absurd H (by simp [lex_Ident.j0])
  | succ k89 =>
   simp only [lex_Ident.j0] at H
   refine hK65 _ _ ?_
   (try clear hK65)
   by_cases c90 : x86 = true
   ·rw [if_pos c90] at H
    (try rw [c90])
    refine wp_cond_true rfl ?_
    refine wp_seq_k fun K91 hK91 => ?_
    refine wl_region ?_
    refine st (.bool false) rfl rfl (xr_assign _ rfl rfl) ?_
    refine wl_end ?_
    (try simp only [ls0, ls1])
    refine hK91 _ _ ?_
    (try clear hK91 K91)
    refine wp_ret ?_
    (try simp only [Exit.inBlock, Exit.then, Exit.noGoto])
    (try simp only [ls0, ls1])
    obtain rfl := Option.some.inj H
    refine bodyPost_ret (results_tmp rfl _ _ _) rfl ?_
    exact ⟨_, rfl, HS85⟩
   rw [if_neg c90] at H
   (try rw [(Bool.eq_false_iff.mpr c90)])
   refine wp_cond_false rfl ?_
   refine wp_skip ?_
   (try simp only [ls0, ls1])
   refine hK64 _ _ ?_
   (try clear hK64 K64)
   refine wp_seq_k fun K92 hK92 => ?_
   refine wl_region ?_
   refine mv_ rfl ?_
   obtain ⟨c93, H⟩ := if_some H
   obtain ⟨y94, A95, H⟩ := bnd H
   refine own_conv (C := C83) (i := 0) 5 rfl rfl 9 129 _ rfl a0 rfl Tryd.underlying9 Tryd.underlying129 Tryd.underlying5 (by assumption) 11 (Option.some.inj A95) ?_
   intro A96 cp97 w98 C99 HR100 HC101 hs102
   replace HS85 := HS85.trans hs102 hc rfl
   (try simp only [ls0, ls1])
   obtain ⟨t103, A104, H⟩ := bnd H
   refine st_call #[.slice A96 y94.length cp97, .func (.func 86) #[] #[]] rfl rfl Tryd.func85 (by kernel_rfl) rfl rfl (mp_ rfl) ?_
   refine (lex_run_lex_Ident_1.calls k89 A96 cp97 y94 t103  (fun z_ => pal [(0, 0), (11, 0)] (C99 z_)) w98 (fun _ => pal_lt rfl _) (Ft.arg HR100 rfl) HC101 A104).mono ?_
   rintro _ w106 ⟨C107, rfl, hs108⟩
   refine ⟨_, rfl, ?_⟩
   replace hs108 := Step.lift (U := [(0, 0)]) hs108 [] rfl rfl
   generalize up C99 C107 w98.heap.size [(0, 0)] = C107_ at hs108
   replace HS85 := HS85.trans hs108 hc rfl
   (try simp only [ls0, ls1])
   refine mv_ rfl ?_
   refine st (.int .i64 (a0.size : Int)) rfl rfl (xr_builtin #[.string a0] (.int .i64 (a0.size : Int)) rfl (mp_ rfl) (by first | rfl | (go_simp; done) | (go_simp; rfl) | (go_simp; exact i64_w _) | (go_simp; exact i32_w _))) ?_
   refine st (.bool (decide (t103 = (a0.size : Int)))) rfl rfl (xr_bin _ _ _ rfl rfl rfl (B.eql_i64 _ _)) ?_
   refine as_ rfl ?_
   simp only [ls0, ls1]
   refine wl_end ?_
   (try simp only [ls0, ls1])
   refine hK92 _ _ ?_
   (try clear hK92 K92)
   refine wp_ret ?_
   (try simp only [Exit.inBlock, Exit.then, Exit.noGoto])
   (try simp only [ls0, ls1])
   obtain rfl := Option.some.inj H
   refine bodyPost_ret (results_tmp rfl _ _ _) rfl ?_
   exact ⟨_, rfl, HS85⟩
 refine wl_region ?_
 refine mv_ rfl ?_
 refine st (.bool (decide (a0 = (⟨#[]⟩ : ByteArray)))) rfl rfl (xr_bin _ _ _ rfl rfl rfl (B.eql_str _ _)) ?_
 refine mv_ rfl ?_
 by_cases c109 : a0 = (⟨#[]⟩ : ByteArray)
 ·rw [if_pos c109] at H
  (try rw [(decide_eq_true c109)])
  refine sk_guard (guard_off 2 false 5 rfl rfl true (by decide) rfl) rfl ?_
  simp only [ls0, ls1]
  refine sk_guard (guard_off 2 false 5 rfl rfl true (by decide) rfl) rfl ?_
  refine sk_guard (guard_off 2 false 5 rfl rfl true (by decide) rfl) rfl ?_
  refine st (.bool true) rfl rfl (xr_pick true _ rfl rfl rfl) ?_
  refine mv_ rfl ?_
  simp only [ls0, ls1]
  refine sk_guard (guard_off 7 false 10 rfl rfl true (by decide) rfl) rfl ?_
  refine sk_guard (guard_off 7 false 10 rfl rfl true (by decide) rfl) rfl ?_
  refine st (.bool true) rfl rfl (xr_pick true _ rfl rfl rfl) ?_
  refine mv_ rfl ?_
  simp only [ls0, ls1]
  refine sk_guard (guard_off 11 false 14 rfl rfl true (by decide) rfl) rfl ?_
  refine sk_guard (guard_off 11 false 14 rfl rfl true (by decide) rfl) rfl ?_
  refine sk_guard (guard_off 11 false 14 rfl rfl true (by decide) rfl) rfl ?_
  refine sk_guard (guard_off 11 false 14 rfl rfl true (by decide) rfl) rfl ?_
  simp only [ls0, ls1]
  refine st (.bool true) rfl rfl (xr_pick true _ rfl rfl rfl) ?_
  refine wl_end ?_
  (try simp only [ls0, ls1])
  exact jmp (fun g_ => hj82 _ _ _ (true) g_ HS (by omega) H) rfl
 rw [if_neg c109] at H
 (try rw [(decide_eq_false c109)])
 refine on_guard (guard_on 2 false 5 rfl rfl rfl) ?_
 refine mv_ rfl ?_
 refine on_guard (guard_on 2 false 5 rfl rfl rfl) ?_
 refine st (.int .i64 (a0.size : Int)) rfl rfl (xr_builtin #[.string a0] (.int .i64 (a0.size : Int)) rfl (mp_ rfl) (by first | rfl | (go_simp; done) | (go_simp; rfl) | (go_simp; exact i64_w _) | (go_simp; exact i32_w _))) ?_
 refine on_guard (guard_on 2 false 5 rfl rfl rfl) ?_
 refine st (.bool (decide ((a0.size : Int) > 24))) rfl rfl (xr_bin _ _ _ rfl rfl rfl (B.gtr_i64 _ _)) ?_
 refine st (.bool (decide ((a0.size : Int) > 24))) rfl rfl (xr_pick false _ rfl rfl rfl) ?_
 simp only [ls0, ls1]
 refine mv_ rfl ?_
 by_cases c110 : (a0.size : Int) > 24
 ·rw [if_pos c110] at H
  (try rw [(decide_eq_true c110)])
  refine sk_guard (guard_off 7 false 10 rfl rfl true (by decide) rfl) rfl ?_
  refine sk_guard (guard_off 7 false 10 rfl rfl true (by decide) rfl) rfl ?_
  refine st (.bool true) rfl rfl (xr_pick true _ rfl rfl rfl) ?_
  simp only [ls0, ls1]
  refine mv_ rfl ?_
  refine sk_guard (guard_off 11 false 14 rfl rfl true (by decide) rfl) rfl ?_
  refine sk_guard (guard_off 11 false 14 rfl rfl true (by decide) rfl) rfl ?_
  refine sk_guard (guard_off 11 false 14 rfl rfl true (by decide) rfl) rfl ?_
  simp only [ls0, ls1]
  refine sk_guard (guard_off 11 false 14 rfl rfl true (by decide) rfl) rfl ?_
  refine st (.bool true) rfl rfl (xr_pick true _ rfl rfl rfl) ?_
  refine wl_end ?_
  (try simp only [ls0, ls1])
  exact jmp (fun g_ => hj82 _ _ _ (true) g_ HS (by omega) H) rfl
 rw [if_neg c110] at H
 (try rw [(decide_eq_false c110)])
 refine on_guard (guard_on 7 false 10 rfl rfl rfl) ?_
 refine mv_ rfl ?_
 refine on_guard (guard_on 7 false 10 rfl rfl rfl) ?_
 obtain ⟨t111, A112, H⟩ := bnd H
 refine st_call #[.string a0] rfl rfl Tryd.func83 (by kernel_rfl) rfl rfl (mp_ rfl) ?_
 refine (lex_Keyword.calls a0 t111  (fun z_ => pal [(0, 0)] (c z_)) w (fun _ => pal_lt rfl _) A112).mono ?_
 rintro _ w114 ⟨C115, rfl, hs116⟩
 refine ⟨_, rfl, ?_⟩
 replace hs116 := Step.lift (U := [(0, 0)]) hs116 [] rfl rfl
 generalize up c C115 w.heap.size [(0, 0)] = C115_ at hs116
 replace HS := HS.trans hs116 hc rfl
 (try simp only [ls0, ls1])
 refine st (.bool t111) rfl rfl (xr_pick false _ rfl rfl rfl) ?_
 refine mv_ rfl ?_
 by_cases c117 : t111 = true
 ·rw [if_pos c117] at H
  (try rw [c117])
  refine sk_guard (guard_off 11 false 14 rfl rfl true (by decide) rfl) rfl ?_
  refine sk_guard (guard_off 11 false 14 rfl rfl true (by decide) rfl) rfl ?_
  simp only [ls0, ls1]
  refine sk_guard (guard_off 11 false 14 rfl rfl true (by decide) rfl) rfl ?_
  refine sk_guard (guard_off 11 false 14 rfl rfl true (by decide) rfl) rfl ?_
  refine st (.bool true) rfl rfl (xr_pick true _ rfl rfl rfl) ?_
  refine wl_end ?_
  (try simp only [ls0, ls1])
  exact jmp (fun g_ => hj82 _ _ _ (true) g_ HS (by omega) H) rfl
 rw [if_neg c117] at H
 (try rw [(Bool.eq_false_iff.mpr c117)])
 refine on_guard (guard_on 11 false 14 rfl rfl rfl) ?_
 refine mv_ rfl ?_
 refine on_guard (guard_on 11 false 14 rfl rfl rfl) ?_
 obtain ⟨c118, H⟩ := if_some H
 refine st (.int .u8 (bt a0 0)) rfl rfl (xr_index _ _ _ rfl rfl rfl (index_str Tryd.underlying9 (by first | assumption | decide | omega) (by first | assumption | decide | omega))) ?_
 refine on_guard (guard_on 11 false 14 rfl rfl rfl) ?_
 obtain ⟨t119, A120, H⟩ := bnd H
 refine st_call #[.int .u8 (bt a0 0)] rfl rfl Tryd.func84 (by kernel_rfl) rfl rfl (mp_ rfl) ?_
 refine (lex_letter.calls (bt a0 0) t119  (fun z_ => pal [(0, 0)] (C115_ z_)) w114 (fun _ => pal_lt rfl _) A120).mono ?_
 rintro _ w122 ⟨C123, rfl, hs124⟩
 refine ⟨_, rfl, ?_⟩
 replace hs124 := Step.lift (U := [(0, 0)]) hs124 [] rfl rfl
 generalize up C115_ C123 w114.heap.size [(0, 0)] = C123_ at hs124
 replace HS := HS.trans hs124 hc rfl
 (try simp only [ls0, ls1])
 refine on_guard (guard_on 11 false 14 rfl rfl rfl) ?_
 refine st (.bool (!t119)) rfl rfl (xr_un (.bool t119) _ rfl rfl (by first | rfl | (go_simp; done) | (go_simp; rfl) | (go_simp; exact i64_w _) | (go_simp; exact i32_w _))) ?_
 refine st (.bool (!t119)) rfl rfl (xr_pick false _ rfl rfl rfl) ?_
 refine wl_end ?_
 (try simp only [ls0, ls1])
 exact jmp (fun g_ => hj82 _ _ _ (!t119) g_ HS (by omega) H) rfl

/-! ### order_Order_add: function 72 -/
def order_Order_add.f (l0_0 : List ByteArray) (m0_1 : List (ByteArray × Int)) (a0_2 : List Int) (a0_3 : List Int) (a1 : ByteArray) : Option (Int × Bool × List ByteArray × (List (ByteArray × Int)) × (List Int)) := if mhas m0_1 a1 = true then (some (mget 0 m0_1 a1, true, l0_0, m0_1, a0_2)) else (if (l0_0.length : Int) = 64 then (some (0, false, l0_0, m0_1, a0_2)) else ((some (mput m0_1 a1 (l0_0.length : Int) : List (ByteArray × Int))).bind fun y55 => (if l0_0.length < 8796093022208 then ((some (l0_0 ++ [a1] : List ByteArray)).bind fun y62 => (if 0 ≤ (IntKind.u64.wrap ((l0_0.length : Int))) then (if 0 ≤ (l0_0.length : Int) then (if (l0_0.length : Int) < 64 then ((some (List.set a0_2 (((l0_0.length : Int) : Int).toNat) (shl .u64 1 (IntKind.u64.wrap ((l0_0.length : Int)))) : List Int)).bind fun y78 => (some ((l0_0.length : Int), true, y62, y55, y78))) else (none)) else (none)) else (none))) else (none))))
set_option maxHeartbeats 2000000 in
set_option maxRecDepth 100000 in
theorem order_Order_add.calls (g0 : Nat) (A0_0 : Option Addr) (c0_0 : Nat) (l0_0 : List ByteArray) (b0_1 : Nat) (m0_1 : List (ByteArray × Int)) (a0_2 : List Int) (a0_3 : List Int) (a1 : ByteArray) (r1 : Int) (r2 : Bool) (r3 : List ByteArray) (r4 : List (ByteArray × Int)) (r5 : List Int) (c : Nat → Nat) (w : World) (hc : ∀ k, c k < 10) (HP0 : Bx c 1 w g0 81 ([.slice A0_0 l0_0.length c0_0, .map (some b0_1)] ++ (List.map (Value.int .u64) a0_2 ++ (List.map (Value.int .u64) a0_3)))) (HP0_0 : Own c 3 w Kd.string 9 (.slice A0_0 l0_0.length c0_0) l0_0) (HCP0_0 : l0_0.length ≤ c0_0) (HP0_1 : Mp Value.string (Value.int .i64) c 2 w b0_1 m0_1) (HL0_2 : a0_2.length = 64) (HL0_3 : a0_3.length = 64) (H : order_Order_add.f l0_0 m0_1 a0_2 a0_3 a1 = some (r1, r2, r3, r4, r5)) :
    Calls Tryd.prog 72 #[.pointer (some ⟨g0, 0, none⟩), .string a1] w fun e w' => ∃ (c' : Nat → Nat) (A_r3 : Option Addr) (c_r3 : Nat) (b_r4 : Nat), e = .returned (.tuple #[.int .i64 r1, .bool r2]) ∧ Step c w c' w' [1, 2, 3] ∧ Own c' 3 w' Kd.string 9 (.slice A_r3 r3.length c_r3) r3 ∧ r3.length ≤ c_r3 ∧ Mp Value.string (Value.int .i64) c' 2 w' b_r4 r4 ∧ r5.length = 64 ∧ Bx c' 1 w' g0 81 ([.slice A_r3 r3.length c_r3, .map (some b_r4)] ++ (List.map (Value.int .u64) r5 ++ (List.map (Value.int .u64) a0_3))) := by
 unfold order_Order_add.f at H
 have HS := Step.refl c w [1, 2, 3]
 go_enter Tryd.func72, Tryd.ntmps72
 refine wp_seq_k fun K43 hK43 => ?_
 refine wl_region ?_
 refine st (.int .i64 0) rfl rfl (xr_assign _ rfl rfl) ?_
 refine st (.bool false) rfl rfl (xr_assign _ rfl rfl) ?_
 refine wl_end ?_
 (try simp only [ls0, ls1])
 refine hK43 _ _ ?_
 (try clear hK43 K43)
 refine wp_seq_k fun K44 hK44 => ?_
 refine wp_seq_k fun K45 hK45 => ?_
 refine wl_region ?_
 refine mv_ rfl ?_
 refine st (.pointer (some ⟨g0, 0, none⟩)) rfl rfl (xr_nilCheck _ rfl rfl) ?_
 refine st (.pointer (some ⟨g0, 1, none⟩)) rfl rfl (xr_fieldAddr _ _ rfl rfl (bx_field2 Tryd.underlying81 rfl rfl (by kernel_rfl))) ?_
 refine st (.map (some b0_1)) rfl rfl (xr_load _ _ rfl rfl (load_cell Tryd.underlying78 rfl (bx_cell (HP0).2 1 rfl))) ?_
 simp only [ls0, ls1]
 refine mv_ rfl ?_
 refine st (.tuple #[.int .i64 (mget 0 m0_1 a1), .bool (mhas m0_1 a1)]) rfl rfl (xr_lookup (.map (some b0_1)) (.string a1) (.tuple #[.int .i64 (mget 0 m0_1 a1), .bool (mhas m0_1 a1)]) rfl rfl rfl (look_map (z := 0) (keyK_str Tryd.underlying9) Tryd.underlying78 info3 (HP0_1).2 a1 true)) ?_
 refine mv_ rfl ?_
 refine st (.int .i64 (mget 0 m0_1 a1)) rfl rfl (xr_extract (.tuple #[.int .i64 (mget 0 m0_1 a1), .bool (mhas m0_1 a1)]) _ rfl rfl rfl) ?_
 simp only [ls0, ls1]
 refine st (.bool (mhas m0_1 a1)) rfl rfl (xr_extract (.tuple #[.int .i64 (mget 0 m0_1 a1), .bool (mhas m0_1 a1)]) _ rfl rfl rfl) ?_
 refine as_ rfl ?_
 refine as_ rfl ?_
 refine wl_end ?_
 (try simp only [ls0, ls1])
 refine hK45 _ _ ?_
 (try clear hK45 K45)
 refine wp_seq_k fun K46 hK46 => ?_
 refine wl_region ?_
 refine mv_ rfl ?_
 refine wl_end ?_
 (try simp only [ls0, ls1])
 refine hK46 _ _ ?_
 (try clear hK46 K46)
 by_cases c47 : mhas m0_1 a1 = true
 ·rw [if_pos c47] at H
  (try rw [c47])
  refine wp_cond_true rfl ?_
  refine wp_seq_k fun K48 hK48 => ?_
  refine wl_region ?_
  refine mv_ rfl ?_
  refine as_ rfl ?_
  refine st (.bool true) rfl rfl (xr_assign _ rfl rfl) ?_
  refine wl_end ?_
  (try simp only [ls0, ls1])
  refine hK48 _ _ ?_
  (try clear hK48 K48)
  refine wp_ret ?_
  (try simp only [Exit.inBlock, Exit.then, Exit.noGoto])
  (try simp only [ls0, ls1])
  simp only [Option.some.injEq, Prod.mk.injEq] at H
  obtain ⟨rfl, rfl, rfl, rfl, rfl⟩ := H
  refine bodyPost_ret (results_tmp2 rfl _ _ _) rfl ?_
  exact ⟨_, A0_0, c0_0, b0_1, rfl, HS, HP0_0, HCP0_0, HP0_1, HL0_2, HP0⟩
 rw [if_neg c47] at H
 (try rw [(Bool.eq_false_iff.mpr c47)])
 refine wp_cond_false rfl ?_
 refine wp_skip ?_
 (try simp only [ls0, ls1])
 refine hK44 _ _ ?_
 (try clear hK44 K44)
 refine wp_seq_k fun K49 hK49 => ?_
 refine wp_seq_k fun K50 hK50 => ?_
 refine wl_region ?_
 refine mv_ rfl ?_
 refine st (.pointer (some ⟨g0, 0, none⟩)) rfl rfl (xr_nilCheck _ rfl rfl) ?_
 refine st (.pointer (some ⟨g0, 0, none⟩)) rfl rfl (xr_fieldAddr _ _ rfl rfl (bx_field2 Tryd.underlying81 rfl rfl (by kernel_rfl))) ?_
 refine st (.slice A0_0 l0_0.length c0_0) rfl rfl (xr_load _ _ rfl rfl (load_cell Tryd.underlying30 rfl (bx_cell (HP0).2 0 rfl))) ?_
 simp only [ls0, ls1]
 refine st (.int .i64 (l0_0.length : Int)) rfl rfl (xr_builtin #[.slice A0_0 l0_0.length c0_0] (.int .i64 (l0_0.length : Int)) rfl (mp_ rfl) (by first | rfl | (go_simp; done) | (go_simp; rfl) | (go_simp; exact i64_w _) | (go_simp; exact i32_w _))) ?_
 refine st (.bool (decide ((l0_0.length : Int) = 64))) rfl rfl (xr_bin _ _ _ rfl rfl rfl (B.eql_i64 _ _)) ?_
 refine wl_end ?_
 (try simp only [ls0, ls1])
 refine hK50 _ _ ?_
 (try clear hK50 K50)
 by_cases c51 : (l0_0.length : Int) = 64
 ·rw [if_pos c51] at H
  (try rw [(decide_eq_true c51)])
  refine wp_cond_true rfl ?_
  refine wp_seq_k fun K52 hK52 => ?_
  refine wl_region ?_
  refine st (.int .i64 0) rfl rfl (xr_assign _ rfl rfl) ?_
  refine st (.bool false) rfl rfl (xr_assign _ rfl rfl) ?_
  refine wl_end ?_
  (try simp only [ls0, ls1])
  refine hK52 _ _ ?_
  (try clear hK52 K52)
  refine wp_ret ?_
  (try simp only [Exit.inBlock, Exit.then, Exit.noGoto])
  (try simp only [ls0, ls1])
  simp only [Option.some.injEq, Prod.mk.injEq] at H
  obtain ⟨rfl, rfl, rfl, rfl, rfl⟩ := H
  refine bodyPost_ret (results_tmp2 rfl _ _ _) rfl ?_
  exact ⟨_, A0_0, c0_0, b0_1, rfl, HS, HP0_0, HCP0_0, HP0_1, HL0_2, HP0⟩
 rw [if_neg c51] at H
 (try rw [(decide_eq_false c51)])
 refine wp_cond_false rfl ?_
 refine wp_skip ?_
 (try simp only [ls0, ls1])
 refine hK49 _ _ ?_
 (try clear hK49 K49)
 refine wp_seq_k fun K53 hK53 => ?_
 refine wl_region ?_
 refine mv_ rfl ?_
 refine st (.pointer (some ⟨g0, 0, none⟩)) rfl rfl (xr_nilCheck _ rfl rfl) ?_
 refine st (.pointer (some ⟨g0, 0, none⟩)) rfl rfl (xr_fieldAddr _ _ rfl rfl (bx_field2 Tryd.underlying81 rfl rfl (by kernel_rfl))) ?_
 refine st (.slice A0_0 l0_0.length c0_0) rfl rfl (xr_load _ _ rfl rfl (load_cell Tryd.underlying30 rfl (bx_cell (HP0).2 0 rfl))) ?_
 simp only [ls0, ls1]
 refine st (.int .i64 (l0_0.length : Int)) rfl rfl (xr_builtin #[.slice A0_0 l0_0.length c0_0] (.int .i64 (l0_0.length : Int)) rfl (mp_ rfl) (by first | rfl | (go_simp; done) | (go_simp; rfl) | (go_simp; exact i64_w _) | (go_simp; exact i32_w _))) ?_
 refine as_ rfl ?_
 refine wl_end ?_
 (try simp only [ls0, ls1])
 refine hK53 _ _ ?_
 (try clear hK53 K53)
 refine wp_seq_k fun K54 hK54 => ?_
 refine wl_region ?_
 refine mv_ rfl ?_
 refine st (.pointer (some ⟨g0, 0, none⟩)) rfl rfl (xr_nilCheck _ rfl rfl) ?_
 refine st (.pointer (some ⟨g0, 1, none⟩)) rfl rfl (xr_fieldAddr _ _ rfl rfl (bx_field2 Tryd.underlying81 rfl rfl (by kernel_rfl))) ?_
 refine st (.map (some b0_1)) rfl rfl (xr_load _ _ rfl rfl (load_cell Tryd.underlying78 rfl (bx_cell (HP0).2 1 rfl))) ?_
 simp only [ls0, ls1]
 refine mv_ rfl ?_
 refine mv_ rfl ?_
 obtain ⟨y55, A56, H⟩ := bnd H
 refine mp_store (C := c) (lm := m0_1) a1 (l0_0.length : Int) (keyK_str Tryd.underlying9) Tryd.underlying78 rfl rfl rfl rfl rfl rfl HP0_1 (Option.some.inj A56) ?_
 intro w57 HM58 hs59
 replace HP0 := HP0.thru hs59 rfl
 replace HP0_0 := HP0_0.thru hs59 rfl
 replace HS := HS.trans hs59 hc rfl
 (try simp only [ls0, ls1])
 refine wl_end ?_
 (try simp only [ls0, ls1])
 refine hK54 _ _ ?_
 (try clear hK54 K54)
 refine wp_seq_k fun K60 hK60 => ?_
 refine wl_region ?_
 refine mv_ rfl ?_
 refine mv_ rfl ?_
 refine st (.pointer (some ⟨g0, 0, none⟩)) rfl rfl (xr_nilCheck _ rfl rfl) ?_
 refine st (.pointer (some ⟨g0, 0, none⟩)) rfl rfl (xr_fieldAddr _ _ rfl rfl (bx_field2 Tryd.underlying81 rfl rfl (by kernel_rfl))) ?_
 simp only [ls0, ls1]
 refine st (.slice A0_0 l0_0.length c0_0) rfl rfl (xr_load _ _ rfl rfl (load_cell Tryd.underlying30 rfl (bx_cell (HP0).2 0 rfl))) ?_
 refine mv_ rfl ?_
 refine ev_run (w1 := w57.alloc (.cells #[.string a1] 9)) (.slice (some ⟨w57.heap.size, 0, none⟩) 1 1) rfl rfl (by first | (go_simp; done) | (go_simp; rfl)) ?_
 (try simp only [Act.put, List.setIfInBounds_toArray, ls0, ls1])
 obtain ⟨c61, H⟩ := if_some H
 obtain ⟨y62, A63, H⟩ := bnd H
 refine Own.append Kd.string (C := c) (i := 3) rfl (.tmp 41) (.tmp 43) 30 9 (.string ⟨#[]⟩) 16 rfl Tryd.underlying30 info9 rfl (by decide) (by decide) (.slice A0_0 l0_0.length c0_0) l0_0 a1 [.string a1] rfl rfl (fk_str _ _ a1) HP0_0 (by decide) (by omega) (Option.some.inj A63) ?_
 intro A64 cp65 w66 C67 HO68 HC69 hs70
 replace HP0 := HP0.thru hs70 rfl
 replace HM58 := HM58.thru hs70 rfl
 replace HS := HS.trans hs70 hc rfl
 (try simp only [ls0, ls1])
 refine st (.pointer (some ⟨g0, 0, none⟩)) rfl rfl (xr_nilCheck _ rfl rfl) ?_
 refine st (.pointer (some ⟨g0, 0, none⟩)) rfl rfl (xr_fieldAddr _ _ rfl rfl (bx_field2 Tryd.underlying81 rfl rfl (by kernel_rfl))) ?_
 refine bx_store (C := C67) (z := 1) (g := g0) (j := 0) (tb := 81) (u := .slice A64 y62.length cp65) (seg := [.slice A64 y62.length cp65]) (xs := [.slice A0_0 l0_0.length c0_0, .map (some b0_1)] ++ (List.map (Value.int .u64) a0_2 ++ (List.map (Value.int .u64) a0_3))) rfl rfl rfl rfl rfl rfl (by first | kernel_rfl | rfl) (by simp [Value.oneCell']) HP0 (by simp [HL0_2, HL0_3]) rfl ?_
 intro w71 HX72 hs73
 replace HX72 : Bx C67 1 w71 g0 81 ([.slice A64 y62.length cp65, .map (some b0_1)] ++ (List.map (Value.int .u64) a0_2 ++ (List.map (Value.int .u64) a0_3))) := HX72
 replace HO68 := HO68.thru hs73 rfl
 replace HM58 := HM58.thru hs73 rfl
 replace HS := HS.trans hs73 hc rfl
 (try simp only [ls0, ls1])
 refine wl_end ?_
 (try simp only [ls0, ls1])
 refine hK60 _ _ ?_
 (try clear hK60 K60)
 refine wp_seq_k fun K74 hK74 => ?_
 refine wl_region ?_
 refine mv_ rfl ?_
 refine mv_ rfl ?_
 refine mv_ rfl ?_
 refine st (.int .u64 (IntKind.u64.wrap ((l0_0.length : Int)))) rfl rfl (xr_conv (.int .i64 (l0_0.length : Int)) _ rfl rfl (by first | rfl | (go_simp; done) | (go_simp; rfl) | (go_simp; exact i64_w _) | (go_simp; exact i32_w _))) ?_
 simp only [ls0, ls1]
 obtain ⟨c75, H⟩ := if_some H
 refine st (.int .u64 (shl .u64 1 (IntKind.u64.wrap ((l0_0.length : Int))))) rfl rfl (xr_bin _ _ _ rfl rfl rfl (B.shl_u64_u64 _ _ (by assumption))) ?_
 refine st (.pointer (some ⟨g0, 0, none⟩)) rfl rfl (xr_nilCheck _ rfl rfl) ?_
 refine st (.pointer (some ⟨g0, 2, none⟩)) rfl rfl (xr_fieldAddr _ _ rfl rfl (bx_field2 Tryd.underlying81 rfl rfl (by kernel_rfl))) ?_
 obtain ⟨c76, H⟩ := if_some H
 obtain ⟨c77, H⟩ := if_some H
 refine st (.pointer (some ⟨g0, 2 + (((l0_0.length : Int) : Int).toNat), none⟩)) rfl rfl (xr_indexAddr _ _ _ rfl rfl rfl (arr_index (sz := 1) Tryd.underlying79 (by kernel_rfl) (by first | assumption | decide | omega) (by first | assumption | decide | omega) (by omega))) ?_
 simp only [ls0, ls1]
 obtain ⟨y78, A79, H⟩ := bnd H
 refine arr_store (C := C67) (z := 1) (g := g0) (tb := 81) (of := 2) (N := 64) (pre := [.slice A64 y62.length cp65, .map (some b0_1)]) (post := List.map (Value.int .u64) a0_3) (enc := (Value.int .u64)) (l0 := a0_2) (i := ((l0_0.length : Int) : Int).toNat) (shl .u64 1 (IntKind.u64.wrap ((l0_0.length : Int)))) rfl rfl rfl rfl rfl rfl (by kernel_rfl) rfl HX72 (by first | (simp only [List.append_assoc, List.cons_append, List.nil_append, List.append_nil]; done) | rfl) rfl HL0_2 (by omega) (by omega) (Option.some.inj A79) (xs' := [.slice A64 y62.length cp65, .map (some b0_1)] ++ (List.map (Value.int .u64) y78 ++ (List.map (Value.int .u64) a0_3))) (by first | (simp only [List.append_assoc, List.cons_append, List.nil_append, List.append_nil]; done) | rfl) ?_
 intro w80 HX81 HL83 hs82
 replace HO68 := HO68.thru hs82 rfl
 replace HM58 := HM58.thru hs82 rfl
 replace HS := HS.trans hs82 hc rfl
 (try simp only [ls0, ls1])
 refine wl_end ?_
 (try simp only [ls0, ls1])
 refine hK74 _ _ ?_
 (try clear hK74 K74)
 refine wp_seq_k fun K84 hK84 => ?_
 refine wl_region ?_
 refine mv_ rfl ?_
 refine as_ rfl ?_
 refine st (.bool true) rfl rfl (xr_assign _ rfl rfl) ?_
 refine wl_end ?_
 (try simp only [ls0, ls1])
 refine hK84 _ _ ?_
 (try clear hK84 K84)
 refine wp_ret ?_
 (try simp only [Exit.inBlock, Exit.then, Exit.noGoto])
 (try simp only [ls0, ls1])
 simp only [Option.some.injEq, Prod.mk.injEq] at H
 obtain ⟨rfl, rfl, rfl, rfl, rfl⟩ := H
 refine bodyPost_ret (results_tmp2 rfl _ _ _) rfl ?_
 exact ⟨_, A64, cp65, b0_1, rfl, HS, HO68, HC69, HM58, HL83, HX81⟩

/-! ### order_Order_add_nil: function 72 -/
def order_Order_add_nil.f (a1 : ByteArray) : Option (Int × Bool) := none
set_option maxHeartbeats 2000000 in
set_option maxRecDepth 100000 in
theorem order_Order_add_nil.calls (a1 : ByteArray) (r1 : Int) (r2 : Bool) (c : Nat → Nat) (w : World) (hc : ∀ k, c k < 10)  (H : order_Order_add_nil.f a1 = some (r1, r2)) :
    Calls Tryd.prog 72 #[.pointer none, .string a1] w fun e w' => ∃ (c' : Nat → Nat) , e = .returned (.tuple #[.int .i64 r1, .bool r2]) ∧ Step c w c' w' [] := by
 unfold order_Order_add_nil.f at H
 have HS := Step.refl c w []
 go_enter Tryd.func72, Tryd.ntmps72
 refine wp_seq_k fun K4 hK4 => ?_
 refine wl_region ?_
 refine st (.int .i64 0) rfl rfl (xr_assign _ rfl rfl) ?_
 refine st (.bool false) rfl rfl (xr_assign _ rfl rfl) ?_
 refine wl_end ?_
 (try simp only [ls0, ls1])
 refine hK4 _ _ ?_
 (try clear hK4 K4)
 refine wp_seq_k fun K5 hK5 => ?_
 refine wp_seq_k fun K6 hK6 => ?_
 refine wl_region ?_
 refine mv_ rfl ?_
 exact absurd H (by simp)

/-! ### order_Order_pair: function 50 -/
def order_Order_pair.j0 : Nat → (List Int) → (List Int) → ByteArray → ByteArray → (List ByteArray) → (List (ByteArray × Int)) → Bool → Option (Int × List ByteArray × (List (ByteArray × Int)) × (List Int))
  | 0, _, _, _, _, _, _, _ => none
  | k + 1, a0_2, a0_3, a1_0, a1_1, l0_0, m0_1, x225 => if x225 = true then (some (1, l0_0, m0_1, a0_2)) else ((order_Order_add.f l0_0 m0_1 a0_2 a0_3 a1_0).bind fun bt236 => (if bt236.2.1 = true then (if a1_1 = (⟨#[]⟩ : ByteArray) then (some (0, bt236.2.2.1, bt236.2.2.2.1, bt236.2.2.2.2)) else ((order_Order_add.f bt236.2.2.1 bt236.2.2.2.1 bt236.2.2.2.2 a0_3 a1_1).bind fun bt262 => (if bt262.2.1 = true then (if 0 ≤ bt236.1 then (if bt236.1 < 64 then (if 0 ≤ (IntKind.u64.wrap (bt262.1)) then ((some (List.set bt262.2.2.2.2 ((bt236.1 : Int).toNat) (Go.bits .or .u64 (List.getD bt262.2.2.2.2 ((bt236.1 : Int).toNat) 0) (shl .u64 1 (IntKind.u64.wrap (bt262.1)))) : List Int)).bind fun y288 => (some (0, bt262.2.2.1, bt262.2.2.2.1, y288))) else (none)) else (none)) else (none)) else (some (8, bt262.2.2.1, bt262.2.2.2.1, bt262.2.2.2.2))))) else (some (8, bt236.2.2.1, bt236.2.2.2.1, bt236.2.2.2.2))))
def order_Order_pair.f (k : Nat) (l0_0 : List ByteArray) (m0_1 : List (ByteArray × Int)) (a0_2 : List Int) (a0_3 : List Int) (a1_0 : ByteArray) (a1_1 : ByteArray) (a1_2 : Int) : Option (Int × List ByteArray × (List (ByteArray × Int)) × (List Int)) := (lex_Ident.f k a1_0).bind fun t297 => (if t297 = true then (if a1_1 = (⟨#[]⟩ : ByteArray) then (order_Order_pair.j0 k a0_2 a0_3 a1_0 a1_1 l0_0 m0_1 false) else ((lex_Ident.f k a1_1).bind fun t305 => (order_Order_pair.j0 k a0_2 a0_3 a1_0 a1_1 l0_0 m0_1 (!t305)))) else (order_Order_pair.j0 k a0_2 a0_3 a1_0 a1_1 l0_0 m0_1 true))

set_option maxHeartbeats 2000000 in
set_option maxRecDepth 100000 in
theorem order_Order_pair.calls (k : Nat) (g0 : Nat) (A0_0 : Option Addr) (c0_0 : Nat) (l0_0 : List ByteArray) (b0_1 : Nat) (m0_1 : List (ByteArray × Int)) (a0_2 : List Int) (a0_3 : List Int) (a1_0 : ByteArray) (a1_1 : ByteArray) (a1_2 : Int) (r1 : Int) (r2 : List ByteArray) (r3 : List (ByteArray × Int)) (r4 : List Int) (c : Nat → Nat) (w : World) (hc : ∀ k, c k < 10) (HP0 : Bx c 1 w g0 81 ([.slice A0_0 l0_0.length c0_0, .map (some b0_1)] ++ (List.map (Value.int .u64) a0_2 ++ (List.map (Value.int .u64) a0_3)))) (HP0_0 : Own c 2 w Kd.string 9 (.slice A0_0 l0_0.length c0_0) l0_0) (HCP0_0 : l0_0.length ≤ c0_0) (HP0_1 : Mp Value.string (Value.int .i64) c 3 w b0_1 m0_1) (HL0_2 : a0_2.length = 64) (HL0_3 : a0_3.length = 64) (H : order_Order_pair.f k l0_0 m0_1 a0_2 a0_3 a1_0 a1_1 a1_2 = some (r1, r2, r3, r4)) :
    Calls Tryd.prog 50 #[.pointer (some ⟨g0, 0, none⟩), .agg #[.string a1_0, .string a1_1, .int .i64 a1_2]] w fun e w' => ∃ (c' : Nat → Nat) (A_r2 : Option Addr) (c_r2 : Nat) (b_r3 : Nat), e = .returned (.int .i64 r1) ∧ Step c w c' w' [1, 2, 3] ∧ Own c' 2 w' Kd.string 9 (.slice A_r2 r2.length c_r2) r2 ∧ r2.length ≤ c_r2 ∧ Mp Value.string (Value.int .i64) c' 3 w' b_r3 r3 ∧ r4.length = 64 ∧ Bx c' 1 w' g0 81 ([.slice A_r2 r2.length c_r2, .map (some b_r3)] ++ (List.map (Value.int .u64) r4 ++ (List.map (Value.int .u64) a0_3))) := by
 unfold order_Order_pair.f at H
 have HS := Step.refl c w [1, 2, 3]
 go_enter Tryd.func50, Tryd.ntmps50
 refine wp_seq_k fun K156 hK156 => ?_
 refine wl_region ?_
 refine bx_new (C := c) 53 ([.string a1_0, .string a1_1, .int .i64 a1_2]) 11 rfl rfl (by first | (go_simp; done) | (go_simp; rfl)) ?_
 intro g157 w158 C159 HX160 hs161
 replace HP0 := HP0.thru hs161 rfl
 replace HP0_0 := HP0_0.thru hs161 rfl
 replace HP0_1 := HP0_1.thru hs161 rfl
 replace HS := HS.trans hs161 hc rfl
 (try simp only [ls0, ls1])
 refine st (.int .i64 0) rfl rfl (xr_assign _ rfl rfl) ?_
 refine wl_end ?_
 (try simp only [ls0, ls1])
 refine hK156 _ _ ?_
 (try clear hK156 K156)
 refine wp_seq_k fun K162 hK162 => ?_
 refine wp_seq_k fun K206 hK206 => ?_
 have hj221 : ∀ (kq230 : Nat) (C222 : Nat → Nat) (w223 : World) (x225 : Bool) (g_ : Nat → Value), Step c w C222 w223 [1, 2, 3] → kq230 ≤ k → (Own C222 2 w223 Kd.string 9 (.slice A0_0 l0_0.length c0_0) l0_0) → (Mp Value.string (Value.int .i64) C222 3 w223 b0_1 m0_1) → (Bx C222 1 w223 g0 81 ([.slice A0_0 l0_0.length c0_0, .map (some b0_1)] ++ (List.map (Value.int .u64) a0_2 ++ (List.map (Value.int .u64) a0_3)))) → (Bx C222 11 w223 g157 53 ([.string a1_0, .string a1_1, .int .i64 a1_2])) → order_Order_pair.j0 kq230 a0_2 a0_3 a1_0 a1_1 l0_0 m0_1 x225 = some (r1, r2, r3, r4) → K206 ⟨#[.pointer (some ⟨g0, 0, none⟩), (g_ 1), (g_ 2), .pointer (some ⟨g157, 0, none⟩), (g_ 4), (g_ 5), (g_ 6), (g_ 7), (g_ 8), (g_ 9), (g_ 10), (g_ 11), (g_ 12), (g_ 13), (g_ 14), (g_ 15), (g_ 16), (g_ 17), (g_ 18), (g_ 19), (g_ 20), (g_ 21), .bool x225, (g_ 23), (g_ 24), (g_ 25), (g_ 26), (g_ 27), (g_ 28), (g_ 29), (g_ 30), (g_ 31), (g_ 32), (g_ 33), (g_ 34), (g_ 35), (g_ 36), (g_ 37), (g_ 38), (g_ 39), (g_ 40), (g_ 41), (g_ 42), (g_ 43), (g_ 44), (g_ 45), (g_ 46), (g_ 47), (g_ 48), (g_ 49), (g_ 50), (g_ 51), (g_ 52), (g_ 53), (g_ 54), (g_ 55), (g_ 56)], []⟩ w223 := by
  intro kq230 C222 w223 x225 g_ HS224 hk231 HJ226 HJ227 HJ228 HJ229 H
  cases kq230 with
  | zero => exact absurd H (by simp [order_Order_pair.j0])
  | succ k232 =>
   simp only [order_Order_pair.j0] at H
   refine hK206 _ _ ?_
   (try clear hK206)
   by_cases c233 : x225 = true
   ·rw [if_pos c233] at H
    (try rw [c233])
    refine wp_cond_true rfl ?_
    refine wp_seq_k fun K234 hK234 => ?_
    refine wl_region ?_
    refine st (.int .i64 1) rfl rfl (xr_assign _ rfl rfl) ?_
    refine wl_end ?_
    (try simp only [ls0, ls1])
    refine hK234 _ _ ?_
    (try clear hK234 K234)
    refine wp_ret ?_
    (try simp only [Exit.inBlock, Exit.then, Exit.noGoto])
    (try simp only [ls0, ls1])
    simp only [Option.some.injEq, Prod.mk.injEq] at H
    obtain ⟨rfl, rfl, rfl, rfl⟩ := H
    refine bodyPost_ret (results_tmp rfl _ _ _) rfl ?_
    exact ⟨_, A0_0, c0_0, b0_1, rfl, HS224, HJ226, HCP0_0, HJ227, HL0_2, HJ228⟩
   rw [if_neg c233] at H
   (try rw [(Bool.eq_false_iff.mpr c233)])
   refine wp_cond_false rfl ?_
   refine wp_skip ?_
   (try simp only [ls0, ls1])
   refine hK162 _ _ ?_
   (try clear hK162 K162)
   refine wp_seq_k fun K235 hK235 => ?_
   refine wl_region ?_
   refine mv_ rfl ?_
   refine st (.pointer (some ⟨g157, 0, none⟩)) rfl rfl (xr_fieldAddr _ _ rfl rfl (bx_field2 Tryd.underlying53 rfl rfl (by kernel_rfl))) ?_
   refine st (.string a1_0) rfl rfl (xr_load _ _ rfl rfl (load_cell Tryd.underlying9 rfl (bx_cell (HJ229).2 0 rfl))) ?_
   obtain ⟨⟨t236, t237, t238, t239, t240⟩, A241, H⟩ := bnd H
   (try dsimp only at H)
   refine st_call #[.pointer (some ⟨g0, 0, none⟩), .string a1_0] rfl rfl Tryd.func72 (by kernel_rfl) rfl rfl (mp_ rfl) ?_
   refine (order_Order_add.calls g0 A0_0 c0_0 l0_0 b0_1 m0_1 a0_2 a0_3 a1_0 t236 t237 t238 t239 t240  (fun z_ => pal [(0, 0), (1, 1), (2, 3), (3, 2)] (C222 z_)) w223 (fun _ => pal_lt rfl _) (Bx.arg HJ228 rfl) (Own.arg HJ226 rfl rfl) HCP0_0 (Mp.arg HJ227 rfl) HL0_2 HL0_3 A241).mono ?_
   rintro _ w243 ⟨C244, A246, cp247, mb250, rfl, hs245, HO248, HC249, HM251, HL252, HX253⟩
   refine ⟨_, rfl, ?_⟩
   replace HO248 := Own.res (U := [(0, 0), (1, 1), (3, 2), (2, 3)]) (j := 2) HO248 hs245 (by rfl) (by decide) rfl rfl
   replace HM251 := Mp.res (U := [(0, 0), (1, 1), (3, 2), (2, 3)]) (j := 3) HM251 hs245 (by rfl) (by decide) rfl
   replace HX253 := Bx.res (U := [(0, 0), (1, 1), (3, 2), (2, 3)]) (j := 1) HX253 hs245 (by rfl) (by decide) rfl
   replace hs245 := Step.lift (U := [(0, 0), (1, 1), (3, 2), (2, 3)]) hs245 [1, 2, 3] rfl rfl
   generalize up C222 C244 w223.heap.size [(0, 0), (1, 1), (3, 2), (2, 3)] = C244_ at HO248 HM251 HX253 hs245
   replace HJ229 := HJ229.thru hs245 rfl
   replace HS224 := HS224.trans hs245 hc rfl
   (try simp only [ls0, ls1])
   refine mv_ rfl ?_
   refine st (.int .i64 t236) rfl rfl (xr_extract (.tuple #[.int .i64 t236, .bool t237]) _ rfl rfl rfl) ?_
   refine st (.bool t237) rfl rfl (xr_extract (.tuple #[.int .i64 t236, .bool t237]) _ rfl rfl rfl) ?_
   refine as_ rfl ?_
   simp only [ls0, ls1]
   refine as_ rfl ?_
   refine wl_end ?_
   (try simp only [ls0, ls1])
   refine hK235 _ _ ?_
   (try clear hK235 K235)
   refine wp_seq_k fun K254 hK254 => ?_
   refine wp_seq_k fun K255 hK255 => ?_
   refine wl_region ?_
   refine mv_ rfl ?_
   refine st (.bool (!t237)) rfl rfl (xr_un (.bool t237) _ rfl rfl (by first | rfl | (go_simp; done) | (go_simp; rfl) | (go_simp; exact i64_w _) | (go_simp; exact i32_w _))) ?_
   refine wl_end ?_
   (try simp only [ls0, ls1])
   refine hK255 _ _ ?_
   (try clear hK255 K255)
   by_cases c256 : t237 = true
   ·rw [if_pos c256] at H
    (try rw [c256])
    (try simp only [Bool.not_true, Bool.not_false])
    refine wp_cond_false rfl ?_
    refine wp_skip ?_
    (try simp only [ls0, ls1])
    refine hK254 _ _ ?_
    (try clear hK254 K254)
    refine wp_seq_k fun K257 hK257 => ?_
    refine wp_seq_k fun K258 hK258 => ?_
    refine wl_region ?_
    refine st (.pointer (some ⟨g157, 1, none⟩)) rfl rfl (xr_fieldAddr _ _ rfl rfl (bx_field2 Tryd.underlying53 rfl rfl (by kernel_rfl))) ?_
    refine st (.string a1_1) rfl rfl (xr_load _ _ rfl rfl (load_cell Tryd.underlying9 rfl (bx_cell (HJ229).2 1 rfl))) ?_
    refine st (.bool (decide (a1_1 = (⟨#[]⟩ : ByteArray)))) rfl rfl (xr_bin _ _ _ rfl rfl rfl (B.eql_str _ _)) ?_
    refine wl_end ?_
    (try simp only [ls0, ls1])
    refine hK258 _ _ ?_
    (try clear hK258 K258)
    by_cases c259 : a1_1 = (⟨#[]⟩ : ByteArray)
    ·rw [if_pos c259] at H
     (try rw [(decide_eq_true c259)])
     refine wp_cond_true rfl ?_
     refine wp_seq_k fun K260 hK260 => ?_
     refine wl_region ?_
     refine st (.int .i64 0) rfl rfl (xr_assign _ rfl rfl) ?_
     refine wl_end ?_
     (try simp only [ls0, ls1])
     refine hK260 _ _ ?_
     (try clear hK260 K260)
     refine wp_ret ?_
     (try simp only [Exit.inBlock, Exit.then, Exit.noGoto])
     (try simp only [ls0, ls1])
     simp only [Option.some.injEq, Prod.mk.injEq] at H
     obtain ⟨rfl, rfl, rfl, rfl⟩ := H
     refine bodyPost_ret (results_tmp rfl _ _ _) rfl ?_
     exact ⟨_, A246, cp247, mb250, rfl, HS224, HO248, HC249, HM251, HL252, HX253⟩
    rw [if_neg c259] at H
    (try rw [(decide_eq_false c259)])
    refine wp_cond_false rfl ?_
    refine wp_skip ?_
    (try simp only [ls0, ls1])
    refine hK257 _ _ ?_
    (try clear hK257 K257)
    refine wp_seq_k fun K261 hK261 => ?_
    refine wl_region ?_
    refine mv_ rfl ?_
    refine st (.pointer (some ⟨g157, 1, none⟩)) rfl rfl (xr_fieldAddr _ _ rfl rfl (bx_field2 Tryd.underlying53 rfl rfl (by kernel_rfl))) ?_
    refine st (.string a1_1) rfl rfl (xr_load _ _ rfl rfl (load_cell Tryd.underlying9 rfl (bx_cell (HJ229).2 1 rfl))) ?_
    obtain ⟨⟨t262, t263, t264, t265, t266⟩, A267, H⟩ := bnd H
    (try dsimp only at H)
    refine st_call #[.pointer (some ⟨g0, 0, none⟩), .string a1_1] rfl rfl Tryd.func72 (by kernel_rfl) rfl rfl (mp_ rfl) ?_
    refine (order_Order_add.calls g0 A246 cp247 t238 mb250 t239 t240 a0_3 a1_1 t262 t263 t264 t265 t266  (fun z_ => pal [(0, 0), (1, 1), (2, 3), (3, 2)] (C244_ z_)) w243 (fun _ => pal_lt rfl _) (Bx.arg HX253 rfl) (Own.arg HO248 rfl rfl) HC249 (Mp.arg HM251 rfl) HL252 HL0_3 A267).mono ?_
    rintro _ w269 ⟨C270, A272, cp273, mb276, rfl, hs271, HO274, HC275, HM277, HL278, HX279⟩
    refine ⟨_, rfl, ?_⟩
    replace HO274 := Own.res (U := [(0, 0), (1, 1), (3, 2), (2, 3)]) (j := 2) HO274 hs271 (by rfl) (by decide) rfl rfl
    replace HM277 := Mp.res (U := [(0, 0), (1, 1), (3, 2), (2, 3)]) (j := 3) HM277 hs271 (by rfl) (by decide) rfl
    replace HX279 := Bx.res (U := [(0, 0), (1, 1), (3, 2), (2, 3)]) (j := 1) HX279 hs271 (by rfl) (by decide) rfl
    replace hs271 := Step.lift (U := [(0, 0), (1, 1), (3, 2), (2, 3)]) hs271 [1, 2, 3] rfl rfl
    generalize up C244_ C270 w243.heap.size [(0, 0), (1, 1), (3, 2), (2, 3)] = C270_ at HO274 HM277 HX279 hs271
    replace HJ229 := HJ229.thru hs271 rfl
    replace HS224 := HS224.trans hs271 hc rfl
    (try simp only [ls0, ls1])
    refine mv_ rfl ?_
    refine st (.int .i64 t262) rfl rfl (xr_extract (.tuple #[.int .i64 t262, .bool t263]) _ rfl rfl rfl) ?_
    refine st (.bool t263) rfl rfl (xr_extract (.tuple #[.int .i64 t262, .bool t263]) _ rfl rfl rfl) ?_
    refine as_ rfl ?_
    simp only [ls0, ls1]
    refine as_ rfl ?_
    refine wl_end ?_
    (try simp only [ls0, ls1])
    refine hK261 _ _ ?_
    (try clear hK261 K261)
    refine wp_seq_k fun K280 hK280 => ?_
    refine wp_seq_k fun K281 hK281 => ?_
    refine wl_region ?_
    refine mv_ rfl ?_
    refine st (.bool (!t263)) rfl rfl (xr_un (.bool t263) _ rfl rfl (by first | rfl | (go_simp; done) | (go_simp; rfl) | (go_simp; exact i64_w _) | (go_simp; exact i32_w _))) ?_
    refine wl_end ?_
    (try simp only [ls0, ls1])
    refine hK281 _ _ ?_
    (try clear hK281 K281)
    by_cases c282 : t263 = true
    ·rw [if_pos c282] at H
     (try rw [c282])
     (try simp only [Bool.not_true, Bool.not_false])
     refine wp_cond_false rfl ?_
     refine wp_skip ?_
     (try simp only [ls0, ls1])
     refine hK280 _ _ ?_
     (try clear hK280 K280)
     refine wp_seq_k fun K283 hK283 => ?_
     (try simp only [ls0, ls1])
     refine al_start (lb 14 0) rfl rfl rfl (fun w_ => w_.heap[g0]? = some (.cells (List.toArray ([.slice A272 t264.length cp273, .map (some mb276)] ++ (List.map (Value.int .u64) t266 ++ (List.map (Value.int .u64) a0_3)))) 81 (0, 0))) (HX279.drew).2 [13] ?_
     replace HX279 := HX279.drew
     replace HO274 := HO274.drew
     replace HM277 := HM277.drew
     replace HJ229 := HJ229.drew
     replace HS224 := Step.ofDrew HS224
     generalize w269.drew = w284 at *
     refine al_mv 0 (lb 14 1) rfl rfl (by kernel_rfl) (fun _ _ _ => id) rfl ?_
     refine al_mv 1 (lb 14 3) rfl rfl (by kernel_rfl) (fun _ _ _ => id) rfl ?_
     refine al_pure 2 46 (.pointer (some ⟨g0, 0, none⟩)) (lb 14 7) rfl rfl (by kernel_rfl) (fun _ _ _ => id) rfl (fun w_ => xr_nilCheck _ rfl rfl) ?_
     refine al_pure 3 47 (.pointer (some ⟨g0, 2, none⟩)) (lb 14 15) rfl rfl (by kernel_rfl) (fun _ _ _ => id) rfl (fun w_ => xr_fieldAddr _ _ rfl rfl (bx_field2 Tryd.underlying81 rfl rfl (by kernel_rfl))) ?_
     simp only [ls0, ls1]
     obtain ⟨c285, H⟩ := if_some H
     obtain ⟨c286, H⟩ := if_some H
     refine al_pure 4 48 (.pointer (some ⟨g0, 2 + ((t236 : Int).toNat), none⟩)) (lb 14 31) rfl rfl (by kernel_rfl) (fun _ _ _ => id) rfl (fun w_ => xr_indexAddr _ _ _ rfl rfl rfl (arr_index (sz := 1) Tryd.underlying79 (by kernel_rfl) (by first | assumption | decide | omega) (by first | assumption | decide | omega) (by omega))) ?_
     refine al_mv 6 (lb 14 95) rfl rfl (by kernel_rfl) (fun _ _ _ => id) rfl ?_
     refine al_pure 7 51 (.int .u64 (IntKind.u64.wrap (t262))) (lb 14 223) rfl rfl (by kernel_rfl) (fun _ _ _ => id) rfl (fun w_ => xr_conv (.int .i64 t262) _ rfl rfl (by first | rfl | (go_simp; done) | (go_simp; rfl) | (go_simp; exact i64_w _) | (go_simp; exact i32_w _))) ?_
     obtain ⟨c287, H⟩ := if_some H
     refine al_pure 8 52 (.int .u64 (shl .u64 1 (IntKind.u64.wrap (t262)))) (lb 14 479) rfl rfl (by kernel_rfl) (fun _ _ _ => id) rfl (fun w_ => xr_bin _ _ _ rfl rfl rfl (B.shl_u64_u64 _ _ (by assumption))) ?_
     simp only [ls0, ls1]
     refine al_pure 10 54 (.pointer (some ⟨g0, 0, none⟩)) (lb 14 1503) rfl rfl (by kernel_rfl) (fun _ _ _ => id) rfl (fun w_ => xr_nilCheck _ rfl rfl) ?_
     refine al_pure 11 55 (.pointer (some ⟨g0, 2, none⟩)) (lb 14 3551) rfl rfl (by kernel_rfl) (fun _ _ _ => id) rfl (fun w_ => xr_fieldAddr _ _ rfl rfl (bx_field2 Tryd.underlying81 rfl rfl (by kernel_rfl))) ?_
     refine al_take 5 49 (.int .u64 (List.getD t266 ((t236 : Int).toNat) 0)) (lb 14 3583) rfl rfl (by kernel_rfl) (fun _ _ _ => id) rfl (fun w_ hS_ => xr_load _ _ rfl rfl (arr_load (o := 2) (N := 64) (pre := [.slice A272 t264.length cp273, .map (some mb276)]) (post := List.map (Value.int .u64) a0_3) (enc := (Value.int .u64)) (l := t266) (i := (t236 : Int).toNat) 0 Tryd.underlying58 rfl hS_ (by first | (simp only [List.append_assoc, List.cons_append, List.nil_append, List.append_nil]; done) | rfl) rfl HL278 (by omega) (by omega))) (HX279).2 ?_
     refine al_pure 9 53 (.int .u64 (Go.bits .or .u64 (List.getD t266 ((t236 : Int).toNat) 0) (shl .u64 1 (IntKind.u64.wrap (t262))))) (lb 14 4095) rfl rfl (by kernel_rfl) (fun _ _ _ => id) rfl (fun w_ => xr_bin _ _ _ rfl rfl rfl (B.or_u64 _ _)) ?_
     simp only [ls0, ls1]
     refine al_pure 12 56 (.pointer (some ⟨g0, 2 + ((t236 : Int).toNat), none⟩)) (lb 14 8191) rfl rfl (by kernel_rfl) (fun _ _ _ => id) rfl (fun w_ => xr_indexAddr _ _ _ rfl rfl rfl (arr_index (sz := 1) Tryd.underlying79 (by kernel_rfl) (by first | assumption | decide | omega) (by first | assumption | decide | omega) (by omega))) ?_
     obtain ⟨y288, A289, H⟩ := bnd H
     refine al_last 13 (lb 14 16383) rfl rfl (by kernel_rfl) rfl (fun K_ hK_ => ?_)
     refine arr_store_step (C := C270_) (z := 1) (g := g0) (tb := 81) (of := 2) (N := 64) (pre := [.slice A272 t264.length cp273, .map (some mb276)]) (post := List.map (Value.int .u64) a0_3) (enc := (Value.int .u64)) (l0 := t266) (i := (t236 : Int).toNat) (Go.bits .or .u64 (List.getD t266 ((t236 : Int).toNat) 0) (shl .u64 1 (IntKind.u64.wrap (t262)))) rfl rfl rfl rfl rfl rfl (by kernel_rfl) rfl HX279 (by first | (simp only [List.append_assoc, List.cons_append, List.nil_append, List.append_nil]; done) | rfl) rfl HL278 (by omega) (by omega) (Option.some.inj A289) (xs' := [.slice A272 t264.length cp273, .map (some mb276)] ++ (List.map (Value.int .u64) y288 ++ (List.map (Value.int .u64) a0_3))) (by first | (simp only [List.append_assoc, List.cons_append, List.nil_append, List.append_nil]; done) | rfl) ?_
     intro w290 HX291 HL293 hs292
     replace HO274 := HO274.thru hs292 rfl
     replace HM277 := HM277.thru hs292 rfl
     replace HJ229 := HJ229.thru hs292 rfl
     replace HS224 := HS224.trans hs292 hc rfl
     refine hK_ _ _ ?_
     clear hK_ K_
     (try simp only [Act.put, List.setIfInBounds_toArray, ls0, ls1])
     refine al_end (by kernel_rfl) ?_
     (try simp only [ls0, ls1])
     refine hK283 _ _ ?_
     (try clear hK283 K283)
     refine wp_seq_k fun K294 hK294 => ?_
     refine wl_region ?_
     refine st (.int .i64 0) rfl rfl (xr_assign _ rfl rfl) ?_
     refine wl_end ?_
     (try simp only [ls0, ls1])
     refine hK294 _ _ ?_
     (try clear hK294 K294)
     refine wp_ret ?_
     (try simp only [Exit.inBlock, Exit.then, Exit.noGoto])
     (try simp only [ls0, ls1])
     simp only [Option.some.injEq, Prod.mk.injEq] at H
     obtain ⟨rfl, rfl, rfl, rfl⟩ := H
     refine bodyPost_ret (results_tmp rfl _ _ _) rfl ?_
     exact ⟨_, A272, cp273, mb276, rfl, HS224, HO274, HC275, HM277, HL293, HX291⟩
    rw [if_neg c282] at H
    (try rw [(Bool.eq_false_iff.mpr c282)])
    (try simp only [Bool.not_true, Bool.not_false])
    refine wp_cond_true rfl ?_
    refine wp_seq_k fun K295 hK295 => ?_
    refine wl_region ?_
    refine st (.int .i64 8) rfl rfl (xr_assign _ rfl rfl) ?_
    refine wl_end ?_
    (try simp only [ls0, ls1])
    refine hK295 _ _ ?_
    (try clear hK295 K295)
    refine wp_ret ?_
    (try simp only [Exit.inBlock, Exit.then, Exit.noGoto])
    (try simp only [ls0, ls1])
    simp only [Option.some.injEq, Prod.mk.injEq] at H
    obtain ⟨rfl, rfl, rfl, rfl⟩ := H
    refine bodyPost_ret (results_tmp rfl _ _ _) rfl ?_
    exact ⟨_, A272, cp273, mb276, rfl, HS224, HO274, HC275, HM277, HL278, HX279⟩
   rw [if_neg c256] at H
   (try rw [(Bool.eq_false_iff.mpr c256)])
   (try simp only [Bool.not_true, Bool.not_false])
   refine wp_cond_true rfl ?_
   refine wp_seq_k fun K296 hK296 => ?_
   refine wl_region ?_
   refine st (.int .i64 8) rfl rfl (xr_assign _ rfl rfl) ?_
   refine wl_end ?_
   (try simp only [ls0, ls1])
   refine hK296 _ _ ?_
   (try clear hK296 K296)
   refine wp_ret ?_
   (try simp only [Exit.inBlock, Exit.then, Exit.noGoto])
   (try simp only [ls0, ls1])
   simp only [Option.some.injEq, Prod.mk.injEq] at H
   obtain ⟨rfl, rfl, rfl, rfl⟩ := H
   refine bodyPost_ret (results_tmp rfl _ _ _) rfl ?_
   exact ⟨_, A246, cp247, mb250, rfl, HS224, HO248, HC249, HM251, HL252, HX253⟩
 refine wl_region ?_
 refine st (.pointer (some ⟨g157, 0, none⟩)) rfl rfl (xr_fieldAddr _ _ rfl rfl (bx_field2 Tryd.underlying53 rfl rfl (by kernel_rfl))) ?_
 refine st (.string a1_0) rfl rfl (xr_load _ _ rfl rfl (load_cell Tryd.underlying9 rfl (bx_cell (HX160).2 0 rfl))) ?_
 obtain ⟨t297, A298, H⟩ := bnd H
 refine st_call #[.string a1_0] rfl rfl Tryd.func71 (by kernel_rfl) rfl rfl (mp_ rfl) ?_
 refine (lex_Ident.calls k a1_0 t297  (fun z_ => pal [(0, 0)] (C159 z_)) w158 (fun _ => pal_lt rfl _) A298).mono ?_
 rintro _ w300 ⟨C301, rfl, hs302⟩
 refine ⟨_, rfl, ?_⟩
 replace hs302 := Step.lift (U := [(0, 0)]) hs302 [] rfl rfl
 generalize up C159 C301 w158.heap.size [(0, 0)] = C301_ at hs302
 replace HP0 := HP0.thru hs302 rfl
 replace HP0_0 := HP0_0.thru hs302 rfl
 replace HP0_1 := HP0_1.thru hs302 rfl
 replace HX160 := HX160.thru hs302 rfl
 replace HS := HS.trans hs302 hc rfl
 (try simp only [ls0, ls1])
 refine st (.bool (!t297)) rfl rfl (xr_un (.bool t297) _ rfl rfl (by first | rfl | (go_simp; done) | (go_simp; rfl) | (go_simp; exact i64_w _) | (go_simp; exact i32_w _))) ?_
 refine mv_ rfl ?_
 by_cases c303 : t297 = true
 ·rw [if_pos c303] at H
  (try rw [c303])
  (try simp only [Bool.not_true, Bool.not_false])
  refine on_guard (guard_on 4 false 12 rfl rfl rfl) ?_
  refine st (.pointer (some ⟨g157, 1, none⟩)) rfl rfl (xr_fieldAddr _ _ rfl rfl (bx_field2 Tryd.underlying53 rfl rfl (by kernel_rfl))) ?_
  refine on_guard (guard_on 4 false 12 rfl rfl rfl) ?_
  refine st (.string a1_1) rfl rfl (xr_load _ _ rfl rfl (load_cell Tryd.underlying9 rfl (bx_cell (HX160).2 1 rfl))) ?_
  simp only [ls0, ls1]
  refine on_guard (guard_on 4 false 12 rfl rfl rfl) ?_
  refine st (.bool (!decide (a1_1 = (⟨#[]⟩ : ByteArray)))) rfl rfl (xr_bin _ _ _ rfl rfl rfl (B.neq_str _ _)) ?_
  refine on_guard (guard_on 4 false 12 rfl rfl rfl) ?_
  refine mv_ rfl ?_
  by_cases c304 : a1_1 = (⟨#[]⟩ : ByteArray)
  ·rw [if_pos c304] at H
   (try rw [(decide_eq_true c304)])
   (try simp only [Bool.not_true, Bool.not_false])
   refine sk_guard (guard_off 8 true 16 rfl rfl false (by decide) rfl) rfl ?_
   refine sk_guard (guard_off 8 true 16 rfl rfl false (by decide) rfl) rfl ?_
   simp only [ls0, ls1]
   refine sk_guard (guard_off 8 true 16 rfl rfl false (by decide) rfl) rfl ?_
   refine sk_guard (guard_off 8 true 16 rfl rfl false (by decide) rfl) rfl ?_
   refine on_guard (guard_on 4 false 12 rfl rfl rfl) ?_
   refine st (.bool false) rfl rfl (xr_pick false _ rfl rfl rfl) ?_
   refine st (.bool false) rfl rfl (xr_pick false _ rfl rfl rfl) ?_
   simp only [ls0, ls1]
   refine wl_end ?_
   (try simp only [ls0, ls1])
   exact jmp (fun g_ => hj221 _ _ _ (false) g_ HS (by omega) HP0_0 HP0_1 HP0 HX160 H) rfl
  rw [if_neg c304] at H
  (try rw [(decide_eq_false c304)])
  (try simp only [Bool.not_true, Bool.not_false])
  refine on_guard (guard_on 8 true 16 rfl rfl rfl) ?_
  refine st (.pointer (some ⟨g157, 1, none⟩)) rfl rfl (xr_fieldAddr _ _ rfl rfl (bx_field2 Tryd.underlying53 rfl rfl (by kernel_rfl))) ?_
  refine on_guard (guard_on 8 true 16 rfl rfl rfl) ?_
  refine st (.string a1_1) rfl rfl (xr_load _ _ rfl rfl (load_cell Tryd.underlying9 rfl (bx_cell (HX160).2 1 rfl))) ?_
  refine on_guard (guard_on 8 true 16 rfl rfl rfl) ?_
  obtain ⟨t305, A306, H⟩ := bnd H
  refine st_call #[.string a1_1] rfl rfl Tryd.func71 (by kernel_rfl) rfl rfl (mp_ rfl) ?_
  refine (lex_Ident.calls k a1_1 t305  (fun z_ => pal [(0, 0)] (C301_ z_)) w300 (fun _ => pal_lt rfl _) A306).mono ?_
  rintro _ w308 ⟨C309, rfl, hs310⟩
  refine ⟨_, rfl, ?_⟩
  replace hs310 := Step.lift (U := [(0, 0)]) hs310 [] rfl rfl
  generalize up C301_ C309 w300.heap.size [(0, 0)] = C309_ at hs310
  replace HP0 := HP0.thru hs310 rfl
  replace HP0_0 := HP0_0.thru hs310 rfl
  replace HP0_1 := HP0_1.thru hs310 rfl
  replace HX160 := HX160.thru hs310 rfl
  replace HS := HS.trans hs310 hc rfl
  (try simp only [ls0, ls1])
  refine on_guard (guard_on 8 true 16 rfl rfl rfl) ?_
  refine st (.bool (!t305)) rfl rfl (xr_un (.bool t305) _ rfl rfl (by first | rfl | (go_simp; done) | (go_simp; rfl) | (go_simp; exact i64_w _) | (go_simp; exact i32_w _))) ?_
  refine on_guard (guard_on 4 false 12 rfl rfl rfl) ?_
  refine st (.bool (!t305)) rfl rfl (xr_pick true _ rfl rfl rfl) ?_
  refine st (.bool (!t305)) rfl rfl (xr_pick false _ rfl rfl rfl) ?_
  refine wl_end ?_
  (try simp only [ls0, ls1])
  exact jmp (fun g_ => hj221 _ _ _ (!t305) g_ HS (by omega) HP0_0 HP0_1 HP0 HX160 H) rfl
 rw [if_neg c303] at H
 (try rw [(Bool.eq_false_iff.mpr c303)])
 (try simp only [Bool.not_true, Bool.not_false])
 refine sk_guard (guard_off 4 false 12 rfl rfl true (by decide) rfl) rfl ?_
 refine sk_guard (guard_off 4 false 12 rfl rfl true (by decide) rfl) rfl ?_
 refine sk_guard (guard_off 4 false 12 rfl rfl true (by decide) rfl) rfl ?_
 refine sk_guard (guard_off 4 false 12 rfl rfl true (by decide) rfl) rfl ?_
 simp only [ls0, ls1]
 refine sk_guard (guard_und 8 true 16 rfl rfl rfl) rfl ?_
 refine sk_guard (guard_und 8 true 16 rfl rfl rfl) rfl ?_
 refine sk_guard (guard_und 8 true 16 rfl rfl rfl) rfl ?_
 refine sk_guard (guard_und 8 true 16 rfl rfl rfl) rfl ?_
 simp only [ls0, ls1]
 refine sk_guard (guard_off 4 false 12 rfl rfl true (by decide) rfl) rfl ?_
 refine st (.bool true) rfl rfl (xr_pick true _ rfl rfl rfl) ?_
 refine wl_end ?_
 (try simp only [ls0, ls1])
 exact jmp (fun g_ => hj221 _ _ _ (true) g_ HS (by omega) HP0_0 HP0_1 HP0 HX160 H) rfl

end Go.Proofs.YtpfepkkpbampkaaDoor.PLnw
