-- By cprint.py, a program of this work. Lean checks it.
import Derived.Test.YtdkbmchbkkhpoaaPMtux0
import Derived.Test.YtdkbmchbkkhpoaaPMtux1
namespace Go.Proofs.Ytdkbmchbkkhpoaa.PMtu
open Go.RowKit Go.Proofs.YtdkbmchbkkhpoaaW.PrintWords Go.Proofs.YtdkbmchbkkhpoaaW.PrintLast Go.Proofs.YtdkbmchbkkhpoaaW.PrintMore
set_option linter.unusedVariables false
set_option linter.unusedSimpArgs false

/-! ### blazonlaw25_MaxflowTurned: function 5 -/
mutual
def blazonlaw25_MaxflowTurned.j0 : Nat → Int → Int → (Option Go.Proofs.Ytdkbmchbkkhpoaa.PMfr.S74) → (Option Go.Proofs.Ytdkbmchbkkhpoaa.PMfr.S74) → Bool → Option (Bool)
  | 0, _, _, _, _, _ => none
  | k + 1, a2, a3, x693, x696, x699 => if x699 = true then (some false) else ((maxflow_Net_Max.f k x693 a2 a3).bind fun bt706 => ((maxflow_Net_Max.f k x696 a3 a2).bind fun bt716 => (if bt706.1 = bt716.1 then (if bt706.2.1 = bt716.2.1 then ((maxflow_Net_Edges.f bt706.2.2).bind fun bt728 => ((maxflow_Net_Edges.f bt716.2.2).bind fun bt736 => (if bt728.1 = bt736.1 then ((blazonlaw25_awake.f k).bind fun t745 => (some t745)) else (some false)))) else (some false)) else (some false))))
def blazonlaw25_MaxflowTurned.l0 : Nat → Int → Int → Int → (List (S35)) → (List (S35)) → Int → Option (Bool)
  | 0, _, _, _, _, _, _ => none
  | k + 1, a0, a2, a3, l1, x588, x594 => if x594 < (l1.length : Int) then (if 0 ≤ x594 then (if x588.length < 5864062014805 then ((some (x588 ++ [(⟨(rd_T35 l1 x594).f1, (rd_T35 l1 x594).f0, (rd_T35 l1 x594).f2⟩ : S35)] : List (S35))).bind fun y620 => (blazonlaw25_MaxflowTurned.l0 k a0 a2 a3 l1 y620 (wrap64 (x594 + 1)))) else (none)) else (none)) else ((blazonlaw25_built.f k a0 l1).bind fun bt630 => ((blazonlaw25_built.f k a0 x588).bind fun bt645 => (onOpt bt630.1 (blazonlaw25_MaxflowTurned.j0 k a2 a3 (none : Option Go.Proofs.Ytdkbmchbkkhpoaa.PMfr.S74) bt645.1 true) (fun o751 => (onOpt bt645.1 (blazonlaw25_MaxflowTurned.j0 k a2 a3 (some o751 : Option Go.Proofs.Ytdkbmchbkkhpoaa.PMfr.S74) (none : Option Go.Proofs.Ytdkbmchbkkhpoaa.PMfr.S74) true) (fun o753 => (blazonlaw25_MaxflowTurned.j0 k a2 a3 (some o751 : Option Go.Proofs.Ytdkbmchbkkhpoaa.PMfr.S74) (some o753 : Option Go.Proofs.Ytdkbmchbkkhpoaa.PMfr.S74) false)))))))
def blazonlaw25_MaxflowTurned.j1 : Nat → Int → Int → Int → (List (S35)) → Bool → Option (Bool)
  | 0, _, _, _, _, _ => none
  | k + 1, a0, a2, a3, l1, x411 => if x411 = true then ((blazonlaw25_awake.f k).bind fun t417 => (some t417)) else (blazonlaw25_MaxflowTurned.l0 k a0 a2 a3 l1 ([] : List (S35)) 0)
end
def blazonlaw25_MaxflowTurned.f (k : Nat) (a0 : Int) (l1 : List (S35)) (a2 : Int) (a3 : Int) : Option (Bool) := if a0 < 1 then (blazonlaw25_MaxflowTurned.j1 k a0 a2 a3 l1 true) else (if a0 > 60 then (blazonlaw25_MaxflowTurned.j1 k a0 a2 a3 l1 true) else (blazonlaw25_MaxflowTurned.j1 k a0 a2 a3 l1 (decide ((l1.length : Int) > 200))))

set_option maxHeartbeats 8000000 in
set_option maxRecDepth 100000 in
theorem blazonlaw25_MaxflowTurned.calls (k : Nat) (a0 : Int) (A1 : Option Addr) (c1 : Nat) (l1 : List (S35)) (a2 : Int) (a3 : Int) (r : Bool) (c : Nat → Nat) (w : World) (hc : ∀ k, c k < 10) (HP1 : Ft c [0] w (fun w_ => k35.C w_ A1 l1.length l1)) (HCP1 : l1.length ≤ c1) (H : blazonlaw25_MaxflowTurned.f k a0 l1 a2 a3 = some r) :
    Calls Try.prog 5 #[.int .i64 a0, .slice A1 l1.length c1, .int .i64 a2, .int .i64 a3] w fun e w' => ∃ (c' : Nat → Nat) , e = .returned (.bool r) ∧ Step c w c' w' [] := by
 unfold blazonlaw25_MaxflowTurned.f at H
 have HS := Step.refl c w []
 go_enter Try.func5, Try.ntmps5
 refine wp_seq_k fun K379 hK379 => ?_
 refine wl_region ?_
 refine st (.bool false) rfl rfl (xr_assign _ rfl rfl) ?_
 refine wl_end ?_
 (try simp only [ls0, ls1])
 refine hK379 _ _ ?_
 (try clear hK379 K379)
 refine wp_seq_k fun K380 hK380 => ?_
 refine wp_seq_k fun K403 hK403 => ?_
 have hj406 : ∀ (kq412 : Nat) (C407 : Nat → Nat) (w408 : World) (x411 : Bool) (g_ : Nat → Value), Step c w C407 w408 [] → kq412 ≤ k → (Ft C407 [0] w408 (fun w_ => k35.C w_ A1 l1.length l1)) → blazonlaw25_MaxflowTurned.j1 kq412 a0 a2 a3 l1 x411 = some r → K403 ⟨#[.int .i64 a0, .slice A1 l1.length c1, .int .i64 a2, .int .i64 a3, (g_ 4), (g_ 5), (g_ 6), (g_ 7), (g_ 8), (g_ 9), (g_ 10), (g_ 11), (g_ 12), (g_ 13), (g_ 14), (g_ 15), (g_ 16), (g_ 17), (g_ 18), (g_ 19), (g_ 20), (g_ 21), (g_ 22), (g_ 23), (g_ 24), (g_ 25), (g_ 26), (g_ 27), (g_ 28), .bool x411, (g_ 30), (g_ 31), (g_ 32), (g_ 33), (g_ 34), (g_ 35), (g_ 36), (g_ 37), (g_ 38), (g_ 39), (g_ 40), (g_ 41), (g_ 42), (g_ 43), (g_ 44), (g_ 45), (g_ 46), (g_ 47), (g_ 48), (g_ 49), (g_ 50), (g_ 51), (g_ 52), (g_ 53), (g_ 54), (g_ 55), (g_ 56), (g_ 57), (g_ 58), (g_ 59), (g_ 60), (g_ 61), (g_ 62), (g_ 63), (g_ 64), (g_ 65), (g_ 66), (g_ 67), (g_ 68), (g_ 69), (g_ 70), (g_ 71), (g_ 72), (g_ 73), (g_ 74), (g_ 75), (g_ 76), (g_ 77), (g_ 78), (g_ 79), (g_ 80), (g_ 81), (g_ 82), (g_ 83), (g_ 84), (g_ 85), (g_ 86), (g_ 87), (g_ 88), (g_ 89), (g_ 90), (g_ 91), (g_ 92), (g_ 93), (g_ 94), (g_ 95), (g_ 96), (g_ 97), (g_ 98), (g_ 99), (g_ 100), (g_ 101), (g_ 102), (g_ 103), (g_ 104), (g_ 105)], []⟩ w408 := by
  intro kq412 C407 w408 x411 g_ HS409 hk413 HJ410 H
  cases kq412 with
  | zero => exact absurd H (by simp [blazonlaw25_MaxflowTurned.j1])
  | succ k414 =>
   simp only [blazonlaw25_MaxflowTurned.j1] at H
   refine hK403 _ _ ?_
   (try clear hK403)
   by_cases c415 : x411 = true
   ·rw [if_pos c415] at H
    (try rw [c415])
    refine wp_cond_true rfl ?_
    refine wp_seq_k fun K416 hK416 => ?_
    refine wl_region ?_
    obtain ⟨t417, A418, H⟩ := bnd H
    refine st_call #[] rfl rfl Try.func14 (by kernel_rfl) rfl rfl (mp_ rfl) ?_
    refine (blazonlaw25_awake.calls k414 t417  (fun z_ => pal [(0, 0)] (C407 z_)) w408 (fun _ => pal_lt rfl _) A418).mono ?_
    rintro _ w420 ⟨C421, rfl, hs422⟩
    refine ⟨_, rfl, ?_⟩
    replace hs422 := Step.lift (U := [(0, 0)]) hs422 [] rfl rfl
    generalize up C407 C421 w408.heap.size [(0, 0)] = C421_ at hs422
    replace HS409 := HS409.trans hs422 hc rfl
    (try simp only [Act.put, List.setIfInBounds_toArray, ls0, ls1])
    refine as_ rfl ?_
    refine wl_end ?_
    (try simp only [ls0, ls1])
    refine hK416 _ _ ?_
    (try clear hK416 K416)
    refine wp_ret ?_
    (try simp only [Exit.inBlock, Exit.then, Exit.noGoto])
    (try simp only [ls0, ls1])
    obtain rfl := Option.some.inj H
    refine bodyPost_ret (results_tmp rfl _ _ _) rfl ?_
    exact ⟨_, rfl, HS409⟩
   rw [if_neg c415] at H
   (try rw [(Bool.eq_false_iff.mpr c415)])
   refine wp_cond_false rfl ?_
   refine wp_skip ?_
   (try simp only [ls0, ls1])
   refine hK380 _ _ ?_
   (try clear hK380 K380)
   refine wp_seq_k fun K423 hK423 => ?_
   refine wl_region ?_
   refine st (.slice none 0 0) rfl rfl (xr_assign _ rfl rfl) ?_
   refine wl_end ?_
   (try simp only [ls0, ls1])
   refine hK423 _ _ ?_
   (try clear hK423 K423)
   refine wp_seq_k fun K424 hK424 => ?_
   refine wp_seq_k fun K527 hK527 => ?_
   refine wl_region ?_
   refine st (.int .i64 0) rfl rfl (xr_assign _ rfl rfl) ?_
   refine wl_end ?_
   (try simp only [ls0, ls1])
   refine hK527 _ _ ?_
   (try clear hK527 K527)
   refine wp_block ?_
   (try simp only [ls0, ls1])
   refine wp_looped (looped_fin (fun kq597 a_ w596 => ∃ (C595 : Nat → Nat) (x594 : Int) (A589 : Option Addr) (n590 cp591 : Nat) (x588 : List (S35)) (g_ : Nat → Value), a_ = ⟨#[.int .i64 a0, .slice A1 l1.length c1, .int .i64 a2, .int .i64 a3, (g_ 4), (g_ 5), (g_ 6), (g_ 7), (g_ 8), .slice A589 n590 cp591, .int .i64 x594, (g_ 11), (g_ 12), (g_ 13), (g_ 14), (g_ 15), (g_ 16), (g_ 17), (g_ 18), (g_ 19), (g_ 20), (g_ 21), (g_ 22), (g_ 23), (g_ 24), (g_ 25), (g_ 26), (g_ 27), (g_ 28), (g_ 29), (g_ 30), (g_ 31), (g_ 32), (g_ 33), (g_ 34), (g_ 35), (g_ 36), (g_ 37), (g_ 38), (g_ 39), (g_ 40), (g_ 41), (g_ 42), (g_ 43), (g_ 44), (g_ 45), (g_ 46), (g_ 47), (g_ 48), (g_ 49), (g_ 50), (g_ 51), (g_ 52), (g_ 53), (g_ 54), (g_ 55), (g_ 56), (g_ 57), (g_ 58), (g_ 59), (g_ 60), (g_ 61), (g_ 62), (g_ 63), (g_ 64), (g_ 65), (g_ 66), (g_ 67), (g_ 68), (g_ 69), (g_ 70), (g_ 71), (g_ 72), (g_ 73), (g_ 74), (g_ 75), (g_ 76), (g_ 77), (g_ 78), (g_ 79), (g_ 80), (g_ 81), (g_ 82), (g_ 83), (g_ 84), (g_ 85), (g_ 86), (g_ 87), (g_ 88), (g_ 89), (g_ 90), (g_ 91), (g_ 92), (g_ 93), (g_ 94), (g_ 95), (g_ 96), (g_ 97), (g_ 98), (g_ 99), (g_ 100), (g_ 101), (g_ 102), (g_ 103), (g_ 104), (g_ 105)], []⟩ ∧ Step c w C595 w596 [] ∧ kq597 ≤ k414 ∧ (Ft C595 [0] w596 (fun w_ => k35.C w_ A1 l1.length l1)) ∧ (Own C595 11 w596 k35 35 (.slice A589 n590 cp591) x588) ∧ (n590 ≤ cp591) ∧ blazonlaw25_MaxflowTurned.l0 kq597 a0 a2 a3 l1 x588 x594 = some r) ?step fun hL_ => ?init)
   case init =>
    exact jmpL (fun a_ h_ => hL_ k414 a_ _ h_) (fun g_ => ⟨_, 0, none, 0, 0, ([] : List (S35)), g_, rfl, HS409, Nat.le_refl _, HJ410, (Own.nil _ _ _ _ _), (Nat.le_refl 0), H⟩) rfl
   case step =>
    intro kq597 ih600 a601 w596 hr602
    obtain ⟨C595, x594, A589, n590, cp591, x588, g_, rfl, HS598, hk599, HJ587, HJ593, HC592, H⟩ := hr602
    refine looped_round ?_
    obtain rfl : n590 = x588.length := HJ593.at_.1
    cases kq597 with
    | zero => exact absurd H (by simp [blazonlaw25_MaxflowTurned.l0])
    | succ k603 =>
     simp only [blazonlaw25_MaxflowTurned.l0] at H
     refine wp_seq_k fun K604 hK604 => ?_
     refine wp_seq_k fun K605 hK605 => ?_
     refine wl_region ?_
     refine mv_ rfl ?_
     refine mv_ rfl ?_
     refine st (.int .i64 (l1.length : Int)) rfl rfl (xr_builtin #[.slice A1 l1.length c1] (.int .i64 (l1.length : Int)) rfl (mp_ rfl) (by first | rfl | (go_simp; done) | (go_simp; rfl) | (go_simp; exact i64_w _) | (go_simp; exact i32_w _))) ?_
     refine st (.bool (decide (x594 < (l1.length : Int)))) rfl rfl (xr_bin _ _ _ rfl rfl rfl (B.lss_i64 _ _)) ?_
     simp only [ls0, ls1]
     refine wl_end ?_
     (try simp only [ls0, ls1])
     refine hK605 _ _ ?_
     (try clear hK605 K605)
     by_cases c606 : x594 < (l1.length : Int)
     ·rw [if_pos c606] at H
      (try rw [(decide_eq_true c606)])
      refine wp_cond_true rfl ?_
      refine wp_skip ?_
      (try simp only [ls0, ls1])
      refine hK604 _ _ ?_
      (try clear hK604 K604)
      refine wp_seq_k fun K607 hK607 => ?_
      refine wp_block ?_
      (try simp only [ls0, ls1])
      refine al_start (lb 20 0) rfl rfl rfl (fun w_ => k35.C w_ A1 l1.length l1) (Ft.now ((HJ587).drew)) [] ?_
      replace HJ587 := HJ587.drew
      replace HJ593 := HJ593.drew
      replace HS598 := Step.ofDrew HS598
      generalize w596.drew = w608 at *
      refine al_mv 0 (lb 20 1) rfl rfl (by kernel_rfl) (fun _ _ _ => id) rfl ?_
      refine al_mv 1 (lb 20 3) rfl rfl (by kernel_rfl) (fun _ _ _ => id) rfl ?_
      refine al_mv 2 (lb 20 7) rfl rfl (by kernel_rfl) (fun _ _ _ => id) rfl ?_
      obtain ⟨c609, H⟩ := if_some H
      obtain ⟨ad610, hA611⟩ := c_addr (Ft.now HJ587) (pos_of (j := x594) (by first | assumption | decide) (by first | assumption | omega))
      refine al_pure 3 40 (.pointer (some (ad610.add ((x594 : Int).toNat * 3)))) (lb 20 15) rfl rfl (by kernel_rfl) (fun _ _ _ => id) rfl (fun w_ => xr_indexAddr _ _ _ rfl rfl rfl (index_at Try.underlying22 info35 hA611 (by first | assumption | decide | omega) (by first | assumption | decide | omega))) ?_
      simp only [ls0, ls1]
      refine al_pure 4 41 (.pointer (some ((ad610.add ((x594 : Int).toNat * 3)).add 1))) (lb 20 31) rfl rfl (by kernel_rfl) (fun _ _ _ => id) rfl (fun w_ => xr_fieldAddr _ _ rfl rfl (field_at2 Try.underlying35 rfl rfl (by kernel_rfl))) ?_
      refine al_mv 6 (lb 20 95) rfl rfl (by kernel_rfl) (fun _ _ _ => id) rfl ?_
      refine al_mv 7 (lb 20 223) rfl rfl (by kernel_rfl) (fun _ _ _ => id) rfl ?_
      obtain ⟨ad612, hA613⟩ := c_addr (Ft.now HJ587) (pos_of (j := x594) (by first | assumption | decide) (by first | assumption | omega))
      refine al_pure 8 45 (.pointer (some (ad612.add ((x594 : Int).toNat * 3)))) (lb 20 479) rfl rfl (by kernel_rfl) (fun _ _ _ => id) rfl (fun w_ => xr_indexAddr _ _ _ rfl rfl rfl (index_at Try.underlying22 info35 hA613 (by first | assumption | decide | omega) (by first | assumption | decide | omega))) ?_
      simp only [ls0, ls1]
      refine al_pure 9 46 (.pointer (some ((ad612.add ((x594 : Int).toNat * 3)).add 0))) (lb 20 991) rfl rfl (by kernel_rfl) (fun _ _ _ => id) rfl (fun w_ => xr_fieldAddr _ _ rfl rfl (field_at2 Try.underlying35 rfl rfl (by kernel_rfl))) ?_
      refine al_mv 11 (lb 20 3039) rfl rfl (by kernel_rfl) (fun _ _ _ => id) rfl ?_
      refine al_mv 12 (lb 20 7135) rfl rfl (by kernel_rfl) (fun _ _ _ => id) rfl ?_
      obtain ⟨ad614, hA615⟩ := c_addr (Ft.now HJ587) (pos_of (j := x594) (by first | assumption | decide) (by first | assumption | omega))
      refine al_pure 13 50 (.pointer (some (ad614.add ((x594 : Int).toNat * 3)))) (lb 20 15327) rfl rfl (by kernel_rfl) (fun _ _ _ => id) rfl (fun w_ => xr_indexAddr _ _ _ rfl rfl rfl (index_at Try.underlying22 info35 hA615 (by first | assumption | decide | omega) (by first | assumption | decide | omega))) ?_
      simp only [ls0, ls1]
      refine al_pure 14 51 (.pointer (some ((ad614.add ((x594 : Int).toNat * 3)).add 2))) (lb 20 31711) rfl rfl (by kernel_rfl) (fun _ _ _ => id) rfl (fun w_ => xr_fieldAddr _ _ rfl rfl (field_at2 Try.underlying35 rfl rfl (by kernel_rfl))) ?_
      refine al_take 5 42 (.int .i64 ((rd_T35 l1 x594).f1)) (lb 20 31743) rfl rfl (by kernel_rfl) (fun _ _ _ => id) rfl (fun w_ hS_ => xr_load (.pointer (some ((ad610.add ((x594 : Int).toNat * 3)).add 1))) (.int .i64 ((rd_T35 l1 x594).f1)) rfl rfl (by obtain ⟨ad_, cs_, e_, _, hK_, hc_⟩ := Kd.C_get hS_ z35 x594 (by first | assumption | decide | omega) (by first | assumption | decide | omega); rw [hA611] at e_; injection e_ with e_; subst e_; obtain rfl := k35_open hK_; exact load_cell Try.underlying3 rfl (by first | (rw [add_add]; exact hc_ 1 _ rfl) | (have h_ := hc_ 1 _ rfl; rw [Nat.add_zero] at h_; exact h_)))) (Ft.now HJ587) ?_
      refine al_take 10 47 (.int .i64 ((rd_T35 l1 x594).f0)) (lb 20 32767) rfl rfl (by kernel_rfl) (fun _ _ _ => id) rfl (fun w_ hS_ => xr_load (.pointer (some ((ad612.add ((x594 : Int).toNat * 3)).add 0))) (.int .i64 ((rd_T35 l1 x594).f0)) rfl rfl (by obtain ⟨ad_, cs_, e_, _, hK_, hc_⟩ := Kd.C_get hS_ z35 x594 (by first | assumption | decide | omega) (by first | assumption | decide | omega); rw [hA613] at e_; injection e_ with e_; subst e_; obtain rfl := k35_open hK_; exact load_cell Try.underlying3 rfl (by first | (rw [add_add]; exact hc_ 0 _ rfl) | (have h_ := hc_ 0 _ rfl; rw [Nat.add_zero] at h_; exact h_)))) (Ft.now HJ587) ?_
      refine al_take 15 52 (.int .i64 ((rd_T35 l1 x594).f2)) (lb 20 65535) rfl rfl (by kernel_rfl) (fun _ _ _ => id) rfl (fun w_ hS_ => xr_load (.pointer (some ((ad614.add ((x594 : Int).toNat * 3)).add 2))) (.int .i64 ((rd_T35 l1 x594).f2)) rfl rfl (by obtain ⟨ad_, cs_, e_, _, hK_, hc_⟩ := Kd.C_get hS_ z35 x594 (by first | assumption | decide | omega) (by first | assumption | decide | omega); rw [hA615] at e_; injection e_ with e_; subst e_; obtain rfl := k35_open hK_; exact load_cell Try.underlying2 rfl (by first | (rw [add_add]; exact hc_ 2 _ rfl) | (have h_ := hc_ 2 _ rfl; rw [Nat.add_zero] at h_; exact h_)))) (Ft.now HJ587) ?_
      simp only [ls0, ls1]
      refine al_pure 16 53 (.agg #[.int .i64 ((rd_T35 l1 x594).f1), .int .i64 ((rd_T35 l1 x594).f0), .int .i64 ((rd_T35 l1 x594).f2)]) (lb 20 131071) rfl rfl (by kernel_rfl) (fun _ _ _ => id) rfl (fun w_ => xr_build #[(0, .int .i64 ((rd_T35 l1 x594).f1)), (1, .int .i64 ((rd_T35 l1 x594).f0)), (2, .int .i64 ((rd_T35 l1 x594).f2))] (.agg #[.int .i64 ((rd_T35 l1 x594).f1), .int .i64 ((rd_T35 l1 x594).f0), .int .i64 ((rd_T35 l1 x594).f2)]) rfl (mp_ rfl) (by first | rfl | (go_simp; done) | (go_simp; rfl) | (go_simp; exact i64_w _) | (go_simp; exact i32_w _))) ?_
      refine al_one 17 (lb 20 262143) rfl rfl (by kernel_rfl) rfl (fun K_ hK_ => ?_)
      refine value_ (w1 := w608.alloc (.cells #[.int .i64 ((rd_T35 l1 x594).f1), .int .i64 ((rd_T35 l1 x594).f0), .int .i64 ((rd_T35 l1 x594).f2)] 35)) (v := .slice (some ⟨w608.heap.size, 0, none⟩) 1 1) rfl rfl (by first | (go_simp; done) | (go_simp; rfl)) ?_
      refine hK_ _ _ (Ft.now ((HJ587).alloc _)) ?_
      clear hK_ K_
      (try simp only [Act.put, List.setIfInBounds_toArray, ls0, ls1])
      obtain ⟨c619, H⟩ := if_some H
      obtain ⟨y620, A621, H⟩ := bnd H
      refine al_one 18 (lb 20 524287) rfl rfl (by kernel_rfl) rfl (fun K_ hK_ => ?_)
      refine Own.append_step k35 (C := C595) (i := 11) rfl (.tmp 37) (.tmp 54) 22 35 (.agg #[(.int .i64 0), (.int .i64 0), (.int .i64 0)]) 24 rfl Try.underlying22 info35 rfl (by decide) (by decide) (.slice A589 x588.length cp591) x588 (⟨(rd_T35 l1 x594).f1, (rd_T35 l1 x594).f0, (rd_T35 l1 x594).f2⟩ : S35) [.int .i64 ((rd_T35 l1 x594).f1), .int .i64 ((rd_T35 l1 x594).f0), .int .i64 ((rd_T35 l1 x594).f2)] rfl rfl (k35_mkF _ _ (⟨(rd_T35 l1 x594).f1, (rd_T35 l1 x594).f0, (rd_T35 l1 x594).f2⟩ : S35)) HJ593 (by decide) (by omega) (Option.some.inj A621) ?_
      intro A622 cp623 w624 C625 HO626 HC627 hs628
      replace HJ587 := HJ587.thru hs628 rfl
      replace HS598 := HS598.trans hs628 hc rfl
      refine hK_ _ _ (Ft.now HJ587) ?_
      clear hK_ K_
      (try simp only [Act.put, List.setIfInBounds_toArray, ls0, ls1])
      refine al_as 19 (lb 20 1048575) rfl rfl (by kernel_rfl) (fun _ _ _ => id) rfl ?_
      refine al_end (by kernel_rfl) ?_
      (try simp only [ls0, ls1])
      refine hK607 _ _ ?_
      (try clear hK607 K607)
      refine wl_region ?_
      refine mv_ rfl ?_
      refine st (.int .i64 (wrap64 (x594 + 1))) rfl rfl (xr_bin _ _ _ rfl rfl rfl (B.add_i64 _ _)) ?_
      refine as_ rfl ?_
      refine wl_end ?_
      (try simp only [ls0, ls1])
      exact jmpL (fun a_ h_ => ih600 k603 (by omega) a_ _ h_) (fun g_ => ⟨_, wrap64 (x594 + 1), A622, y620.length, cp623, y620, g_, rfl, HS598, (by omega), HJ587, HO626, HC627, H⟩) rfl
     rw [if_neg c606] at H
     (try rw [(decide_eq_false c606)])
     refine wp_cond_false rfl ?_
     refine wp_exit ?_
     (try simp only [ls0, ls1])
     refine hK424 _ _ ?_
     (try clear hK424 K424)
     refine wp_seq_k fun K629 hK629 => ?_
     refine wl_region ?_
     refine mv_ rfl ?_
     refine mv_ rfl ?_
     obtain ⟨⟨t630, t631⟩, A632, H⟩ := bnd H
     (try dsimp only at H)
     refine st_call #[.int .i64 a0, .slice A1 l1.length c1] rfl rfl Try.func16 (by kernel_rfl) rfl rfl (mp_ rfl) ?_
     refine (blazonlaw25_built.calls k603 a0 A1 c1 l1 t630 t631  (fun z_ => pal [(0, 0)] (C595 z_)) w596 (fun _ => pal_lt rfl _) (Ft.arg HJ587 rfl) HCP1 A632).mono ?_
     rintro _ w634 ⟨C635, v637, A639, cp640, rfl, hs636, HB638, HO641, HC642⟩
     refine ⟨_, rfl, ?_⟩
     replace HB638 := Ft.res (U := [(0, 0), (5, 12), (6, 13)]) HB638 hs636 [12] rfl rfl rfl
     replace HO641 := Own.resF (U := [(0, 0), (5, 12), (6, 13)]) (j := 13) (fun _ _ _ _ h_ => h_) HO641 hs636 (by rfl) (by decide) rfl
     replace hs636 := Step.lift (U := [(0, 0), (5, 12), (6, 13)]) hs636 [] rfl rfl
     generalize up C595 C635 w596.heap.size [(0, 0), (5, 12), (6, 13)] = C635_ at HB638 HO641 hs636
     replace HJ593 := HJ593.thru hs636 rfl
     replace HS598 := HS598.trans hs636 hc rfl
     (try simp only [Act.put, List.setIfInBounds_toArray, ls0, ls1])
     refine mv_ rfl ?_
     refine st (v637) rfl rfl (xr_extract (.tuple #[v637, .slice A639 t631.length cp640]) _ rfl rfl rfl) ?_
     refine st (.slice A639 t631.length cp640) rfl rfl (xr_extract (.tuple #[v637, .slice A639 t631.length cp640]) _ rfl rfl rfl) ?_
     refine as_ rfl ?_
     simp only [ls0, ls1]
     refine as_ rfl ?_
     refine wl_end ?_
     (try simp only [ls0, ls1])
     refine hK629 _ _ ?_
     (try clear hK629 K629)
     refine wp_seq_k fun K643 hK643 => ?_
     refine wl_region ?_
     refine mv_ rfl ?_
     refine mv_ rfl ?_
     have HR644 := Ft.recolor (a := 11) (b := 0) (HJ593.ft) [0] rfl
     replace HB638 := Ft.recol (a := 11) (b := 0) HB638 (.inl rfl)
     replace HO641 := Own.recol (a := 11) (b := 0) HO641 (by decide) (by decide)
     replace HS598 := Step.recol (a := 11) (b := 0) HS598 hc (by decide)
     obtain ⟨⟨t645, t646⟩, A647, H⟩ := bnd H
     (try dsimp only at H)
     refine st_call #[.int .i64 a0, .slice A589 x588.length cp591] rfl rfl Try.func16 (by kernel_rfl) rfl rfl (mp_ rfl) ?_
     refine (blazonlaw25_built.calls k603 a0 A589 cp591 x588 t645 t646  (fun z_ => pal [(0, 0)] ((recol C635_ 11 0) z_)) w634 (fun _ => pal_lt rfl _) (Ft.arg HR644 rfl) HC592 A647).mono ?_
     rintro _ w649 ⟨C650, v652, A654, cp655, rfl, hs651, HB653, HO656, HC657⟩
     refine ⟨_, rfl, ?_⟩
     replace HB653 := Ft.res (U := [(0, 0), (5, 14), (6, 15)]) HB653 hs651 [14] rfl rfl rfl
     replace HO656 := Own.resF (U := [(0, 0), (5, 14), (6, 15)]) (j := 15) (fun _ _ _ _ h_ => h_) HO656 hs651 (by rfl) (by decide) rfl
     replace hs651 := Step.lift (U := [(0, 0), (5, 14), (6, 15)]) hs651 [] rfl rfl
     generalize up (recol C635_ 11 0) C650 w634.heap.size [(0, 0), (5, 14), (6, 15)] = C650_ at HB653 HO656 hs651
     replace HB638 := HB638.thru hs651 rfl
     replace HS598 := HS598.trans hs651 hc rfl
     (try simp only [Act.put, List.setIfInBounds_toArray, ls0, ls1])
     refine mv_ rfl ?_
     refine st (v652) rfl rfl (xr_extract (.tuple #[v652, .slice A654 t646.length cp655]) _ rfl rfl rfl) ?_
     refine st (.slice A654 t646.length cp655) rfl rfl (xr_extract (.tuple #[v652, .slice A654 t646.length cp655]) _ rfl rfl rfl) ?_
     refine as_ rfl ?_
     simp only [ls0, ls1]
     refine as_ rfl ?_
     refine wl_end ?_
     (try simp only [ls0, ls1])
     refine hK643 _ _ ?_
     (try clear hK643 K643)
     refine wp_seq_k fun K658 hK658 => ?_
     refine wp_seq_k fun K684 hK684 => ?_
     have hj689 : ∀ (kq700 : Nat) (C690 : Nat → Nat) (w691 : World) (x699 : Bool) (v694 : Value) (x693 : Option Go.Proofs.Ytdkbmchbkkhpoaa.PMfr.S74) (v697 : Value) (x696 : Option Go.Proofs.Ytdkbmchbkkhpoaa.PMfr.S74) (g_ : Nat → Value), Step c w C690 w691 [] → kq700 ≤ k603 → (Ft C690 [16] w691 (fun w_ => Go.Proofs.Ytdkbmchbkkhpoaa.PMfr.NetO w_ v694 x693)) → (Ft C690 [17] w691 (fun w_ => Go.Proofs.Ytdkbmchbkkhpoaa.PMfr.NetO w_ v697 x696)) → blazonlaw25_MaxflowTurned.j0 kq700 a2 a3 x693 x696 x699 = some r → K684 ⟨#[(g_ 0), (g_ 1), .int .i64 a2, .int .i64 a3, (g_ 4), (g_ 5), (g_ 6), (g_ 7), (g_ 8), (g_ 9), (g_ 10), v694, (g_ 12), v697, (g_ 14), (g_ 15), (g_ 16), (g_ 17), (g_ 18), (g_ 19), (g_ 20), (g_ 21), (g_ 22), (g_ 23), (g_ 24), (g_ 25), (g_ 26), (g_ 27), (g_ 28), (g_ 29), (g_ 30), (g_ 31), (g_ 32), (g_ 33), (g_ 34), (g_ 35), (g_ 36), (g_ 37), (g_ 38), (g_ 39), (g_ 40), (g_ 41), (g_ 42), (g_ 43), (g_ 44), (g_ 45), (g_ 46), (g_ 47), (g_ 48), (g_ 49), (g_ 50), (g_ 51), (g_ 52), (g_ 53), (g_ 54), (g_ 55), (g_ 56), (g_ 57), (g_ 58), (g_ 59), (g_ 60), (g_ 61), (g_ 62), (g_ 63), (g_ 64), (g_ 65), (g_ 66), (g_ 67), (g_ 68), (g_ 69), (g_ 70), (g_ 71), (g_ 72), .bool x699, (g_ 74), (g_ 75), (g_ 76), (g_ 77), (g_ 78), (g_ 79), (g_ 80), (g_ 81), (g_ 82), (g_ 83), (g_ 84), (g_ 85), (g_ 86), (g_ 87), (g_ 88), (g_ 89), (g_ 90), (g_ 91), (g_ 92), (g_ 93), (g_ 94), (g_ 95), (g_ 96), (g_ 97), (g_ 98), (g_ 99), (g_ 100), (g_ 101), (g_ 102), (g_ 103), (g_ 104), (g_ 105)], []⟩ w691 := by
      intro kq700 C690 w691 x699 v694 x693 v697 x696 g_ HS692 hk701 HJ695 HJ698 H
      cases kq700 with
      | zero => exact absurd H (by simp [blazonlaw25_MaxflowTurned.j0])
      | succ k702 =>
       simp only [blazonlaw25_MaxflowTurned.j0] at H
       refine hK684 _ _ ?_
       (try clear hK684)
       by_cases c703 : x699 = true
       ·rw [if_pos c703] at H
        (try rw [c703])
        refine wp_cond_true rfl ?_
        refine wp_seq_k fun K704 hK704 => ?_
        refine wl_region ?_
        refine st (.bool false) rfl rfl (xr_assign _ rfl rfl) ?_
        refine wl_end ?_
        (try simp only [ls0, ls1])
        refine hK704 _ _ ?_
        (try clear hK704 K704)
        refine wp_ret ?_
        (try simp only [Exit.inBlock, Exit.then, Exit.noGoto])
        (try simp only [ls0, ls1])
        obtain rfl := Option.some.inj H
        refine bodyPost_ret (results_tmp rfl _ _ _) rfl ?_
        exact ⟨_, rfl, HS692⟩
       rw [if_neg c703] at H
       (try rw [(Bool.eq_false_iff.mpr c703)])
       refine wp_cond_false rfl ?_
       refine wp_skip ?_
       (try simp only [ls0, ls1])
       refine hK658 _ _ ?_
       (try clear hK658 K658)
       refine wp_seq_k fun K705 hK705 => ?_
       refine wl_region ?_
       refine mv_ rfl ?_
       refine mv_ rfl ?_
       refine mv_ rfl ?_
       obtain ⟨⟨t706, t707, t708⟩, A709, H⟩ := bnd H
       (try dsimp only at H)
       refine st_call #[v694, .int .i64 a2, .int .i64 a3] rfl rfl Try.func17 (by kernel_rfl) rfl rfl (mp_ rfl) ?_
       refine (maxflow_Net_Max.calls k702 v694 x693 a2 a3 t706 t707 t708  (fun z_ => pal [(0, 0), (16, 1)] (C690 z_)) w691 (fun _ => pal_lt rfl _) (Ft.arg HJ695 rfl) A709).mono ?_
       rintro _ w711 ⟨C712, rfl, hs713, HM714⟩
       refine ⟨_, rfl, ?_⟩
       replace HM714 := Ft.res (U := [(0, 0), (1, 16)]) HM714 hs713 [16] rfl rfl rfl
       replace hs713 := Step.lift (U := [(0, 0), (1, 16)]) hs713 [16] rfl rfl
       generalize up C690 C712 w691.heap.size [(0, 0), (1, 16)] = C712_ at HM714 hs713
       replace HJ698 := HJ698.thru hs713 rfl
       replace HS692 := HS692.trans hs713 hc rfl
       (try simp only [Act.put, List.setIfInBounds_toArray, ls0, ls1])
       refine mv_ rfl ?_
       refine st (.int .i64 t706) rfl rfl (xr_extract (.tuple #[.int .i64 t706, .int .i64 t707]) _ rfl rfl rfl) ?_
       refine st (.int .i64 t707) rfl rfl (xr_extract (.tuple #[.int .i64 t706, .int .i64 t707]) _ rfl rfl rfl) ?_
       refine as_ rfl ?_
       simp only [ls0, ls1]
       refine as_ rfl ?_
       refine wl_end ?_
       (try simp only [ls0, ls1])
       refine hK705 _ _ ?_
       (try clear hK705 K705)
       refine wp_seq_k fun K715 hK715 => ?_
       refine wl_region ?_
       refine mv_ rfl ?_
       refine mv_ rfl ?_
       refine mv_ rfl ?_
       obtain ⟨⟨t716, t717, t718⟩, A719, H⟩ := bnd H
       (try dsimp only at H)
       refine st_call #[v697, .int .i64 a3, .int .i64 a2] rfl rfl Try.func17 (by kernel_rfl) rfl rfl (mp_ rfl) ?_
       refine (maxflow_Net_Max.calls k702 v697 x696 a3 a2 t716 t717 t718  (fun z_ => pal [(0, 0), (17, 1)] (C712_ z_)) w711 (fun _ => pal_lt rfl _) (Ft.arg HJ698 rfl) A719).mono ?_
       rintro _ w721 ⟨C722, rfl, hs723, HM724⟩
       refine ⟨_, rfl, ?_⟩
       replace HM724 := Ft.res (U := [(0, 0), (1, 17)]) HM724 hs723 [17] rfl rfl rfl
       replace hs723 := Step.lift (U := [(0, 0), (1, 17)]) hs723 [17] rfl rfl
       generalize up C712_ C722 w711.heap.size [(0, 0), (1, 17)] = C722_ at HM724 hs723
       replace HM714 := HM714.thru hs723 rfl
       replace HS692 := HS692.trans hs723 hc rfl
       (try simp only [Act.put, List.setIfInBounds_toArray, ls0, ls1])
       refine mv_ rfl ?_
       refine st (.int .i64 t716) rfl rfl (xr_extract (.tuple #[.int .i64 t716, .int .i64 t717]) _ rfl rfl rfl) ?_
       refine st (.int .i64 t717) rfl rfl (xr_extract (.tuple #[.int .i64 t716, .int .i64 t717]) _ rfl rfl rfl) ?_
       refine as_ rfl ?_
       simp only [ls0, ls1]
       refine as_ rfl ?_
       refine wl_end ?_
       (try simp only [ls0, ls1])
       refine hK715 _ _ ?_
       (try clear hK715 K715)
       refine wp_seq_k fun K725 hK725 => ?_
       refine wl_region ?_
       refine mv_ rfl ?_
       refine mv_ rfl ?_
       refine st (.bool (decide (t706 = t716))) rfl rfl (xr_bin _ _ _ rfl rfl rfl (B.eql_i64 _ _)) ?_
       refine mv_ rfl ?_
       simp only [ls0, ls1]
       by_cases c726 : t706 = t716
       ·rw [if_pos c726] at H
        (try rw [(decide_eq_true c726)])
        refine on_guard (guard_on 3 true 91 rfl rfl rfl) ?_
        refine mv_ rfl ?_
        refine on_guard (guard_on 3 true 91 rfl rfl rfl) ?_
        refine mv_ rfl ?_
        refine on_guard (guard_on 3 true 91 rfl rfl rfl) ?_
        refine st (.bool (decide (t707 = t717))) rfl rfl (xr_bin _ _ _ rfl rfl rfl (B.eql_i64 _ _)) ?_
        refine st (.bool (decide (t707 = t717))) rfl rfl (xr_pick true _ rfl rfl rfl) ?_
        simp only [ls0, ls1]
        refine mv_ rfl ?_
        by_cases c727 : t707 = t717
        ·rw [if_pos c727] at H
         (try rw [(decide_eq_true c727)])
         refine on_guard (guard_on 8 true 96 rfl rfl rfl) ?_
         refine mv_ rfl ?_
         refine on_guard (guard_on 8 true 96 rfl rfl rfl) ?_
         obtain ⟨⟨t728, t729⟩, A730, H⟩ := bnd H
         (try dsimp only at H)
         refine st_call #[v694] rfl rfl Try.func23 (by kernel_rfl) rfl rfl (mp_ rfl) ?_
         refine (maxflow_Net_Edges.calls v694 t708 t728 t729  (fun z_ => pal [(0, 0), (16, 1)] (C722_ z_)) w721 (fun _ => pal_lt rfl _) (Ft.arg HM714 rfl) A730).mono ?_
         rintro _ w732 ⟨C733, rfl, hs734, HM735⟩
         refine ⟨_, rfl, ?_⟩
         replace HM735 := Ft.res (U := [(0, 0), (1, 16)]) HM735 hs734 [16] rfl rfl rfl
         replace hs734 := Step.lift (U := [(0, 0), (1, 16)]) hs734 [16] rfl rfl
         generalize up C722_ C733 w721.heap.size [(0, 0), (1, 16)] = C733_ at HM735 hs734
         replace HM724 := HM724.thru hs734 rfl
         replace HS692 := HS692.trans hs734 hc rfl
         (try simp only [Act.put, List.setIfInBounds_toArray, ls0, ls1])
         refine on_guard (guard_on 8 true 96 rfl rfl rfl) ?_
         refine mv_ rfl ?_
         refine on_guard (guard_on 8 true 96 rfl rfl rfl) ?_
         obtain ⟨⟨t736, t737⟩, A738, H⟩ := bnd H
         (try dsimp only at H)
         refine st_call #[v697] rfl rfl Try.func23 (by kernel_rfl) rfl rfl (mp_ rfl) ?_
         refine (maxflow_Net_Edges.calls v697 t718 t736 t737  (fun z_ => pal [(0, 0), (17, 1)] (C733_ z_)) w732 (fun _ => pal_lt rfl _) (Ft.arg HM724 rfl) A738).mono ?_
         rintro _ w740 ⟨C741, rfl, hs742, HM743⟩
         refine ⟨_, rfl, ?_⟩
         replace HM743 := Ft.res (U := [(0, 0), (1, 17)]) HM743 hs742 [17] rfl rfl rfl
         replace hs742 := Step.lift (U := [(0, 0), (1, 17)]) hs742 [17] rfl rfl
         generalize up C733_ C741 w732.heap.size [(0, 0), (1, 17)] = C741_ at HM743 hs742
         replace HS692 := HS692.trans hs742 hc rfl
         (try simp only [Act.put, List.setIfInBounds_toArray, ls0, ls1])
         refine on_guard (guard_on 8 true 96 rfl rfl rfl) ?_
         refine st (.bool (decide (t728 = t736))) rfl rfl (xr_bin _ _ _ rfl rfl rfl (B.eql_i64 _ _)) ?_
         refine st (.bool (decide (t728 = t736))) rfl rfl (xr_pick true _ rfl rfl rfl) ?_
         refine mv_ rfl ?_
         by_cases c744 : t728 = t736
         ·rw [if_pos c744] at H
          (try rw [(decide_eq_true c744)])
          refine on_guard (guard_on 15 true 103 rfl rfl rfl) ?_
          obtain ⟨t745, A746, H⟩ := bnd H
          refine st_call #[] rfl rfl Try.func14 (by kernel_rfl) rfl rfl (mp_ rfl) ?_
          refine (blazonlaw25_awake.calls k702 t745  (fun z_ => pal [(0, 0)] (C741_ z_)) w740 (fun _ => pal_lt rfl _) A746).mono ?_
          rintro _ w748 ⟨C749, rfl, hs750⟩
          refine ⟨_, rfl, ?_⟩
          replace hs750 := Step.lift (U := [(0, 0)]) hs750 [] rfl rfl
          generalize up C741_ C749 w740.heap.size [(0, 0)] = C749_ at hs750
          replace HS692 := HS692.trans hs750 hc rfl
          (try simp only [Act.put, List.setIfInBounds_toArray, ls0, ls1])
          refine st (.bool t745) rfl rfl (xr_pick true _ rfl rfl rfl) ?_
          refine as_ rfl ?_
          refine wl_end ?_
          (try simp only [ls0, ls1])
          refine hK725 _ _ ?_
          (try clear hK725 K725)
          refine wp_ret ?_
          (try simp only [Exit.inBlock, Exit.then, Exit.noGoto])
          (try simp only [ls0, ls1])
          obtain rfl := Option.some.inj H
          refine bodyPost_ret (results_tmp rfl _ _ _) rfl ?_
          exact ⟨_, rfl, HS692⟩
         rw [if_neg c744] at H
         (try rw [(decide_eq_false c744)])
         refine sk_guard (guard_off 15 true 103 rfl rfl false (by decide) rfl) rfl ?_
         refine st (.bool false) rfl rfl (xr_pick false _ rfl rfl rfl) ?_
         refine as_ rfl ?_
         refine wl_end ?_
         (try simp only [ls0, ls1])
         refine hK725 _ _ ?_
         (try clear hK725 K725)
         refine wp_ret ?_
         (try simp only [Exit.inBlock, Exit.then, Exit.noGoto])
         (try simp only [ls0, ls1])
         obtain rfl := Option.some.inj H
         refine bodyPost_ret (results_tmp rfl _ _ _) rfl ?_
         exact ⟨_, rfl, HS692⟩
        rw [if_neg c727] at H
        (try rw [(decide_eq_false c727)])
        refine sk_guard (guard_off 8 true 96 rfl rfl false (by decide) rfl) rfl ?_
        refine sk_guard (guard_off 8 true 96 rfl rfl false (by decide) rfl) rfl ?_
        refine sk_guard (guard_off 8 true 96 rfl rfl false (by decide) rfl) rfl ?_
        refine sk_guard (guard_off 8 true 96 rfl rfl false (by decide) rfl) rfl ?_
        simp only [ls0, ls1]
        refine sk_guard (guard_off 8 true 96 rfl rfl false (by decide) rfl) rfl ?_
        refine st (.bool false) rfl rfl (xr_pick false _ rfl rfl rfl) ?_
        refine mv_ rfl ?_
        refine sk_guard (guard_off 15 true 103 rfl rfl false (by decide) rfl) rfl ?_
        simp only [ls0, ls1]
        refine st (.bool false) rfl rfl (xr_pick false _ rfl rfl rfl) ?_
        refine as_ rfl ?_
        refine wl_end ?_
        (try simp only [ls0, ls1])
        refine hK725 _ _ ?_
        (try clear hK725 K725)
        refine wp_ret ?_
        (try simp only [Exit.inBlock, Exit.then, Exit.noGoto])
        (try simp only [ls0, ls1])
        obtain rfl := Option.some.inj H
        refine bodyPost_ret (results_tmp rfl _ _ _) rfl ?_
        exact ⟨_, rfl, HS692⟩
       rw [if_neg c726] at H
       (try rw [(decide_eq_false c726)])
       refine sk_guard (guard_off 3 true 91 rfl rfl false (by decide) rfl) rfl ?_
       refine sk_guard (guard_off 3 true 91 rfl rfl false (by decide) rfl) rfl ?_
       refine sk_guard (guard_off 3 true 91 rfl rfl false (by decide) rfl) rfl ?_
       refine st (.bool false) rfl rfl (xr_pick false _ rfl rfl rfl) ?_
       simp only [ls0, ls1]
       refine mv_ rfl ?_
       refine sk_guard (guard_off 8 true 96 rfl rfl false (by decide) rfl) rfl ?_
       refine sk_guard (guard_off 8 true 96 rfl rfl false (by decide) rfl) rfl ?_
       refine sk_guard (guard_off 8 true 96 rfl rfl false (by decide) rfl) rfl ?_
       simp only [ls0, ls1]
       refine sk_guard (guard_off 8 true 96 rfl rfl false (by decide) rfl) rfl ?_
       refine sk_guard (guard_off 8 true 96 rfl rfl false (by decide) rfl) rfl ?_
       refine st (.bool false) rfl rfl (xr_pick false _ rfl rfl rfl) ?_
       refine mv_ rfl ?_
       simp only [ls0, ls1]
       refine sk_guard (guard_off 15 true 103 rfl rfl false (by decide) rfl) rfl ?_
       refine st (.bool false) rfl rfl (xr_pick false _ rfl rfl rfl) ?_
       refine as_ rfl ?_
       refine wl_end ?_
       (try simp only [ls0, ls1])
       refine hK725 _ _ ?_
       (try clear hK725 K725)
       refine wp_ret ?_
       (try simp only [Exit.inBlock, Exit.then, Exit.noGoto])
       (try simp only [ls0, ls1])
       obtain rfl := Option.some.inj H
       refine bodyPost_ret (results_tmp rfl _ _ _) rfl ?_
       exact ⟨_, rfl, HS692⟩
     refine wl_region ?_
     refine mv_ rfl ?_
     cases t630 with
     | none =>
      (try simp only [onOpt] at H)
      obtain rfl := Go.Proofs.Ytdkbmchbkkhpoaa.PMfr.NetO.isNone HB638
      refine st (.bool true) rfl rfl (xr_bin (.pointer none) (.pointer none) (.bool true) rfl rfl rfl (B.eql_nn ⟨_, Try.underlying24⟩ (⟨0, 0, none⟩ : Addr))) ?_
      refine mv_ rfl ?_
      refine sk_guard (guard_off 2 false 70 rfl rfl true (by decide) rfl) rfl ?_
      simp only [ls0, ls1]
      refine sk_guard (guard_off 2 false 70 rfl rfl true (by decide) rfl) rfl ?_
      refine st (.bool true) rfl rfl (xr_pick true _ rfl rfl rfl) ?_
      refine wl_end ?_
      replace HB653 := Ft.recolor (a := 14) (b := 17) HB653 [17] rfl
      replace HO656 := Own.recol (a := 14) (b := 17) HO656 (by decide) (by decide)
      replace HS598 := Step.recol (a := 14) (b := 17) HS598 hc (by decide)
      (try simp only [ls0, ls1])
      exact jmp (fun g_ => hj689 _ _ _ (true) (.pointer none) ((none : Option Go.Proofs.Ytdkbmchbkkhpoaa.PMfr.S74)) (v652) (t645) g_ HS598 (by omega) (Go.Proofs.Ytdkbmchbkkhpoaa.PMfr.NetO.nil _ _ _) HB653 H) rfl
     | some o751 =>
      (try simp only [onOpt] at H)
      obtain ⟨g752, rfl⟩ := Go.Proofs.Ytdkbmchbkkhpoaa.PMfr.NetO.isSome HB638
      refine st (.bool false) rfl rfl (xr_bin (.pointer (some ⟨g752, 0, none⟩)) (.pointer none) (.bool false) rfl rfl rfl (B.eql_pn ⟨_, Try.underlying24⟩ ⟨g752, 0, none⟩)) ?_
      refine mv_ rfl ?_
      refine on_guard (guard_on 2 false 70 rfl rfl rfl) ?_
      refine mv_ rfl ?_
      refine on_guard (guard_on 2 false 70 rfl rfl rfl) ?_
      cases t645 with
      | none =>
       (try simp only [onOpt] at H)
       obtain rfl := Go.Proofs.Ytdkbmchbkkhpoaa.PMfr.NetO.isNone HB653
       refine st (.bool true) rfl rfl (xr_bin (.pointer none) (.pointer none) (.bool true) rfl rfl rfl (B.eql_nn ⟨_, Try.underlying24⟩ (⟨0, 0, none⟩ : Addr))) ?_
       simp only [ls0, ls1]
       refine st (.bool true) rfl rfl (xr_pick false _ rfl rfl rfl) ?_
       refine wl_end ?_
       replace HB638 := Ft.recolor (a := 12) (b := 16) HB638 [16] rfl
       replace HO656 := Own.recol (a := 12) (b := 16) HO656 (by decide) (by decide)
       replace HS598 := Step.recol (a := 12) (b := 16) HS598 hc (by decide)
       (try simp only [ls0, ls1])
       exact jmp (fun g_ => hj689 _ _ _ (true) (.pointer (some ⟨g752, 0, none⟩)) ((some o751 : Option Go.Proofs.Ytdkbmchbkkhpoaa.PMfr.S74)) (.pointer none) ((none : Option Go.Proofs.Ytdkbmchbkkhpoaa.PMfr.S74)) g_ HS598 (by omega) HB638 (Go.Proofs.Ytdkbmchbkkhpoaa.PMfr.NetO.nil _ _ _) H) rfl
      | some o753 =>
       (try simp only [onOpt] at H)
       obtain ⟨g754, rfl⟩ := Go.Proofs.Ytdkbmchbkkhpoaa.PMfr.NetO.isSome HB653
       refine st (.bool false) rfl rfl (xr_bin (.pointer (some ⟨g754, 0, none⟩)) (.pointer none) (.bool false) rfl rfl rfl (B.eql_pn ⟨_, Try.underlying24⟩ ⟨g754, 0, none⟩)) ?_
       refine st (.bool false) rfl rfl (xr_pick false _ rfl rfl rfl) ?_
       refine wl_end ?_
       replace HB638 := Ft.recolor (a := 12) (b := 16) HB638 [16] rfl
       replace HB653 := Ft.recol (a := 12) (b := 16) HB653 (.inl rfl)
       replace HO656 := Own.recol (a := 12) (b := 16) HO656 (by decide) (by decide)
       replace HS598 := Step.recol (a := 12) (b := 16) HS598 hc (by decide)
       replace HB638 := Ft.recol (a := 14) (b := 17) HB638 (.inl rfl)
       replace HB653 := Ft.recolor (a := 14) (b := 17) HB653 [17] rfl
       replace HO656 := Own.recol (a := 14) (b := 17) HO656 (by decide) (by decide)
       replace HS598 := Step.recol (a := 14) (b := 17) HS598 hc (by decide)
       (try simp only [ls0, ls1])
       exact jmp (fun g_ => hj689 _ _ _ (false) (.pointer (some ⟨g752, 0, none⟩)) ((some o751 : Option Go.Proofs.Ytdkbmchbkkhpoaa.PMfr.S74)) (.pointer (some ⟨g754, 0, none⟩)) ((some o753 : Option Go.Proofs.Ytdkbmchbkkhpoaa.PMfr.S74)) g_ HS598 (by omega) HB638 HB653 H) rfl
 refine wl_region ?_
 refine mv_ rfl ?_
 refine st (.bool (decide (a0 < 1))) rfl rfl (xr_bin _ _ _ rfl rfl rfl (B.lss_i64 _ _)) ?_
 refine mv_ rfl ?_
 by_cases c755 : a0 < 1
 ·rw [if_pos c755] at H
  (try rw [(decide_eq_true c755)])
  refine sk_guard (guard_off 2 false 21 rfl rfl true (by decide) rfl) rfl ?_
  simp only [ls0, ls1]
  refine sk_guard (guard_off 2 false 21 rfl rfl true (by decide) rfl) rfl ?_
  refine st (.bool true) rfl rfl (xr_pick true _ rfl rfl rfl) ?_
  refine mv_ rfl ?_
  refine sk_guard (guard_off 6 false 25 rfl rfl true (by decide) rfl) rfl ?_
  simp only [ls0, ls1]
  refine sk_guard (guard_off 6 false 25 rfl rfl true (by decide) rfl) rfl ?_
  refine sk_guard (guard_off 6 false 25 rfl rfl true (by decide) rfl) rfl ?_
  refine st (.bool true) rfl rfl (xr_pick true _ rfl rfl rfl) ?_
  refine wl_end ?_
  (try simp only [ls0, ls1])
  exact jmp (fun g_ => hj406 _ _ _ (true) g_ HS (by omega) HP1 H) rfl
 rw [if_neg c755] at H
 (try rw [(decide_eq_false c755)])
 refine on_guard (guard_on 2 false 21 rfl rfl rfl) ?_
 refine mv_ rfl ?_
 refine on_guard (guard_on 2 false 21 rfl rfl rfl) ?_
 refine st (.bool (decide (a0 > 60))) rfl rfl (xr_bin _ _ _ rfl rfl rfl (B.gtr_i64 _ _)) ?_
 refine st (.bool (decide (a0 > 60))) rfl rfl (xr_pick false _ rfl rfl rfl) ?_
 refine mv_ rfl ?_
 simp only [ls0, ls1]
 by_cases c756 : a0 > 60
 ·rw [if_pos c756] at H
  (try rw [(decide_eq_true c756)])
  refine sk_guard (guard_off 6 false 25 rfl rfl true (by decide) rfl) rfl ?_
  refine sk_guard (guard_off 6 false 25 rfl rfl true (by decide) rfl) rfl ?_
  refine sk_guard (guard_off 6 false 25 rfl rfl true (by decide) rfl) rfl ?_
  refine st (.bool true) rfl rfl (xr_pick true _ rfl rfl rfl) ?_
  simp only [ls0, ls1]
  refine wl_end ?_
  (try simp only [ls0, ls1])
  exact jmp (fun g_ => hj406 _ _ _ (true) g_ HS (by omega) HP1 H) rfl
 rw [if_neg c756] at H
 (try rw [(decide_eq_false c756)])
 refine on_guard (guard_on 6 false 25 rfl rfl rfl) ?_
 refine mv_ rfl ?_
 refine on_guard (guard_on 6 false 25 rfl rfl rfl) ?_
 refine st (.int .i64 (l1.length : Int)) rfl rfl (xr_builtin #[.slice A1 l1.length c1] (.int .i64 (l1.length : Int)) rfl (mp_ rfl) (by first | rfl | (go_simp; done) | (go_simp; rfl) | (go_simp; exact i64_w _) | (go_simp; exact i32_w _))) ?_
 refine on_guard (guard_on 6 false 25 rfl rfl rfl) ?_
 refine st (.bool (decide ((l1.length : Int) > 200))) rfl rfl (xr_bin _ _ _ rfl rfl rfl (B.gtr_i64 _ _)) ?_
 refine st (.bool (decide ((l1.length : Int) > 200))) rfl rfl (xr_pick false _ rfl rfl rfl) ?_
 simp only [ls0, ls1]
 refine wl_end ?_
 (try simp only [ls0, ls1])
 exact jmp (fun g_ => hj406 _ _ _ (decide ((l1.length : Int) > 200)) g_ HS (by omega) HP1 H) rfl
/-- THE ONE PURE STATEMENT of blazonlaw25_MaxflowTurned. -/
def blazonlaw25_MaxflowTurned.Pure : Prop := ∀ (a0 : Int) (l1 : List (S35)) (a2 : Int) (a3 : Int), (Lit.int .i64 a0).wf = true → l1.length ≤ maxLen → l1.length * 24 ≤ 140737488351232 → (∀ x_ ∈ l1, Ok35 x_) → (Lit.int .i64 a2).wf = true → (Lit.int .i64 a3).wf = true → ∃ k, blazonlaw25_MaxflowTurned.f k a0 l1 a2 a3 = some true

end Go.Proofs.Ytdkbmchbkkhpoaa.PMtu
