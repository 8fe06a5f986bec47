-- PRINTED BY print.sh 35421559b90ae4d0a3588c463048766b98c2df88dd9212a6774a882060cdf62d: not written by this session
import Derived.Test.YtbpagdgbehefkaaPNumBackx0
import Derived.Test.YtbpagdgbehefkaaPNumBackx1
namespace Go.Proofs.Ytbpagdgbehefkaa.PNumBack
open Go.RowKit Go.Proofs.YtbpagdgbehefkaaW.PrintWords Go.Proofs.YtbpagdgbehefkaaW.PrintLast Go.Proofs.YtbpagdgbehefkaaW.PrintMore
attribute [local go_sem] max2_int min2_int max_two min_two max_three min_three max_four min_four   -- for this text's walks alone
set_option linter.unusedVariables false
set_option linter.unusedSimpArgs false

/-! ### blazonlaw01_NumBack: function 6 -/
mutual
def blazonlaw01_NumBack.j0 : Nat → Int → Int → List Int → Bool → Option (Bool)
  | 0, _, _, _, _ => none
  | k + 1, x1, x2, x9, x48 => if x48 = true then (some false) else (if 0 ≤ (mx 0 (wrap64 ((x9.length : Int) - 1))) then (if (mx 0 (wrap64 ((x9.length : Int) - 1))) ≤ (x9.length : Int) then ((num_Get.f k (x9.take ((mx 0 (wrap64 ((x9.length : Int) - 1))) : Int).toNat)).bind fun bt139 => ((num_Add.f x1 x2).bind fun bt142 => (if bt139.2.2 = 2 then (if bt142.2 = 0 then (blazonlaw01_NumBack.j1 k x1 x2 bt142.1 (x2 == (-9223372036854775808))) else (blazonlaw01_NumBack.j1 k x1 x2 bt142.1 true)) else (some false)))) else (none)) else (none))
def blazonlaw01_NumBack.j1 : Nat → Int → Int → Int → Bool → Option (Bool)
  | 0, _, _, _, _ => none
  | k + 1, x1, x2, x16, x73 => if x73 = true then ((blazonlaw01_awake.f k).bind fun t144 => (some t144)) else ((num_Add.f x16 (wrap64 (-x2))).bind fun bt145 => (if bt145.1 = x1 then (if bt145.2 = 0 then ((blazonlaw01_awake.f k).bind fun t147 => (some t147)) else (some false)) else (some false)))
end
def blazonlaw01_NumBack.f (k : Nat) (a0 : Int) (a1 : Int) (a2 : Int) (l3 : List Int) : Option (Bool) := if (l3.length : Int) > 200 then ((blazonlaw01_awake.f k).bind fun t119 => (some t119)) else ((num_Put.f k ([] : List Int) a0).bind fun t120 => ((some (([] : List Int) : List Int)).bind fun y123 => (if y123.length + t120.length < 140737488355328 then ((some (y123 ++ t120 : List Int)).bind fun y126 => (if y126.length + l3.length < 140737488355328 then ((num_Get.f k (y126 ++ l3)).bind fun bt132 => (if bt132.1 = a0 then (if bt132.2.1 = (t120.length : Int) then (blazonlaw01_NumBack.j0 k a1 a2 t120 (bt132.2.2 != 0)) else (blazonlaw01_NumBack.j0 k a1 a2 t120 true)) else (blazonlaw01_NumBack.j0 k a1 a2 t120 true))) else (none))) else (none))))
theorem blazonlaw01_NumBack.mono_l : ∀ k, (∀ y0 y1 y2 y3, LeO (blazonlaw01_NumBack.j0 k y0 y1 y2 y3) (blazonlaw01_NumBack.j0 (k + 1) y0 y1 y2 y3)) ∧ (∀ y0 y1 y2 y3, LeO (blazonlaw01_NumBack.j1 k y0 y1 y2 y3) (blazonlaw01_NumBack.j1 (k + 1) y0 y1 y2 y3))
  | 0 => ⟨fun _ _ _ _ r h => by simp [blazonlaw01_NumBack.j0] at h, fun _ _ _ _ r h => by simp [blazonlaw01_NumBack.j1] at h⟩
  | k + 1 => by
    obtain ⟨ih0, ih1⟩ := blazonlaw01_NumBack.mono_l k
    refine ⟨?_, ?_⟩
    · intro y0 y1 y2 y3
      unfold blazonlaw01_NumBack.j0
      repeat' first
      | (with_reducible exact ih0 _ _ _ _)
      | (with_reducible exact ih1 _ _ _ _)
      | (with_reducible exact blazonlaw01_awake.mono _)
      | (with_reducible exact num_Get.mono _ _)
      | (with_reducible exact num_Put.mono _ _ _)
      | (with_reducible exact LeO.refl _)
      | (with_reducible exact LeO.none _)
      | (with_reducible refine LeO.ite ?_ ?_)
      | (with_reducible refine LeO.bind ?_ (fun _ => ?_))
      | exact ih0 _ _ _ _
      | exact ih1 _ _ _ _
      | exact blazonlaw01_awake.mono _
      | exact num_Get.mono _ _
      | exact num_Put.mono _ _ _
      | exact LeO.none _
      | refine LeO.ite ?_ ?_
      | refine LeO.bind ?_ (fun _ => ?_)
    · intro y0 y1 y2 y3
      unfold blazonlaw01_NumBack.j1
      repeat' first
      | (with_reducible exact ih0 _ _ _ _)
      | (with_reducible exact ih1 _ _ _ _)
      | (with_reducible exact blazonlaw01_awake.mono _)
      | (with_reducible exact num_Get.mono _ _)
      | (with_reducible exact num_Put.mono _ _ _)
      | (with_reducible exact LeO.refl _)
      | (with_reducible exact LeO.none _)
      | (with_reducible refine LeO.ite ?_ ?_)
      | (with_reducible refine LeO.bind ?_ (fun _ => ?_))
      | exact ih0 _ _ _ _
      | exact ih1 _ _ _ _
      | exact blazonlaw01_awake.mono _
      | exact num_Get.mono _ _
      | exact num_Put.mono _ _ _
      | exact LeO.none _
      | refine LeO.ite ?_ ?_
      | refine LeO.bind ?_ (fun _ => ?_)
theorem blazonlaw01_NumBack.mono : ∀ a0 a1 a2 a3 k, LeO (blazonlaw01_NumBack.f k a0 a1 a2 a3) (blazonlaw01_NumBack.f (k + 1) a0 a1 a2 a3) := by
  intro a0 a1 a2 a3 k
  obtain ⟨ih0, ih1⟩ := blazonlaw01_NumBack.mono_l k
  unfold blazonlaw01_NumBack.f
  repeat' first
      | (with_reducible exact ih0 _ _ _ _)
      | (with_reducible exact ih1 _ _ _ _)
      | (with_reducible exact blazonlaw01_awake.mono _)
      | (with_reducible exact num_Get.mono _ _)
      | (with_reducible exact num_Put.mono _ _ _)
      | (with_reducible exact LeO.refl _)
      | (with_reducible exact LeO.none _)
      | (with_reducible refine LeO.ite ?_ ?_)
      | (with_reducible refine LeO.bind ?_ (fun _ => ?_))
      | exact ih0 _ _ _ _
      | exact ih1 _ _ _ _
      | exact blazonlaw01_awake.mono _
      | exact num_Get.mono _ _
      | exact num_Put.mono _ _ _
      | exact LeO.none _
      | refine LeO.ite ?_ ?_
      | refine LeO.bind ?_ (fun _ => ?_)
set_option maxHeartbeats 8000000 in
set_option maxRecDepth 100000 in
theorem blazonlaw01_NumBack.calls (k : Nat) (a0 : Int) (a1 : Int) (a2 : Int) (A3 : Option Addr) (c3 : Nat) (l3 : List Int) (r : Bool) (w : World) (hr3 : Kd.C (Kd.int .u8) w A3 l3.length l3) (hc3 : l3.length ≤ c3) (h : blazonlaw01_NumBack.f k a0 a1 a2 l3 = some r) :
    Calls Try.prog 6 #[.int .u64 a0, .int .i64 a1, .int .i64 a2, .slice A3 l3.length c3] w fun e w' => e = .returned (.bool r) ∧ Below w.heap.size w w' := by
  have HR3 := Aside0.mk hr3
  have HC3 := Aside0.mk hc3
  clear hr3 hc3
  have HB := Aside0.mk (Below.refl w.heap.size w)
  have H : (if (l3.length : Int) > 200 then ((blazonlaw01_awake.f k).bind fun t119 => (some t119)) else ((num_Put.f k ([] : List Int) a0).bind fun t120 => ((some (([] : List Int) : List Int)).bind fun y123 => (if y123.length + t120.length < 140737488355328 then ((some (y123 ++ t120 : List Int)).bind fun y126 => (if y126.length + l3.length < 140737488355328 then ((num_Get.f k (y126 ++ l3)).bind fun bt132 => (if bt132.1 = a0 then (if bt132.2.1 = (t120.length : Int) then (blazonlaw01_NumBack.j0 k a1 a2 t120 (bt132.2.2 != 0)) else (blazonlaw01_NumBack.j0 k a1 a2 t120 true)) else (blazonlaw01_NumBack.j0 k a1 a2 t120 true))) else (none))) else (none))))) = some r := h
  clear h
  by_cases c5 : (l3.length : Int) > 200
  · rw [if_pos c5] at H
    have c5b0 : decide (200 < (l3.length : Int)) = true := decide_eq_true c5
    have c5b1 : decide (200 < l3.length) = true := decide_eq_true (by omega)
    clear c5
    replace H := Option.bind_eq_some_iff.mp H
    obtain ⟨t119, A60, H⟩ := H
    replace H : (some t119) = some r := H
    have A6 := Aside0.mk A60
    clear A60
    obtain rfl := Option.some.inj H
    go_enter Try.func6, Try.ntmps6
    go_wp2_with (first | ((with_reducible refine gate_callee (f := 18) rfl ?_); refine goesL_ (some 23) rfl rfl Try.func18 (by kernel_rfl) rfl #[] rfl (by (try simp only [List.map_toArray, List.map_cons, List.map_nil]); first | done | rfl | (simp only [List.length_drop, List.length_take]; rfl)) ?_; (with_reducible refine (blazonlaw01_awake.calls k  t119 _ A6.out).mono ?_); rintro e w7 ⟨rfl, hb⟩; refine ⟨_, rfl, ?_⟩; have n0_ := Aside0.mk (below_step (by repeat (first | (with_reducible first | exact HB.out | apply below_alloc | apply pw_below_drewN | apply below_drew1) | exact HB.out)) hb); clear HB; have HB := n0_; clear n0_; (try clear hb); (try clear hb2); (try clear hk); (try clear hi)))
    go_ret
    exact ⟨by first | rfl | (simp [errW_none, errW_some] <;> rfl) | (simp [*, errW_none, errW_some] <;> rfl), by repeat (first | (with_reducible first | exact HB.out | apply below_alloc | apply pw_below_drewN | apply below_drew1) | exact HB.out)⟩
  · rw [if_neg c5] at H
    have c5b0 : decide (200 < (l3.length : Int)) = false := decide_eq_false c5
    have c5b1 : decide (200 < l3.length) = false := decide_eq_false (by omega)
    clear c5
    replace H := Option.bind_eq_some_iff.mp H
    obtain ⟨t120, A80, H⟩ := H
    replace H : ((some (([] : List Int) : List Int)).bind fun y123 => (if y123.length + t120.length < 140737488355328 then ((some (y123 ++ t120 : List Int)).bind fun y126 => (if y126.length + l3.length < 140737488355328 then ((num_Get.f k (y126 ++ l3)).bind fun bt132 => (if bt132.1 = a0 then (if bt132.2.1 = (t120.length : Int) then (blazonlaw01_NumBack.j0 k a1 a2 t120 (bt132.2.2 != 0)) else (blazonlaw01_NumBack.j0 k a1 a2 t120 true)) else (blazonlaw01_NumBack.j0 k a1 a2 t120 true))) else (none))) else (none))) = some r := H
    have A8 := Aside0.mk A80
    clear A80
    obtain ⟨y123, hy123⟩ : ∃ y_ : List Int, y_ = (([] : List Int)) := ⟨_, rfl⟩
    replace H : (if y123.length + t120.length < 140737488355328 then ((some (y123 ++ t120 : List Int)).bind fun y126 => (if y126.length + l3.length < 140737488355328 then ((num_Get.f k (y126 ++ l3)).bind fun bt132 => (if bt132.1 = a0 then (if bt132.2.1 = (t120.length : Int) then (blazonlaw01_NumBack.j0 k a1 a2 t120 (bt132.2.2 != 0)) else (blazonlaw01_NumBack.j0 k a1 a2 t120 true)) else (blazonlaw01_NumBack.j0 k a1 a2 t120 true))) else (none))) else (none)) = some r := by first | (rw [hy123]; with_reducible exact H) | (have H2_ := (Option.bind_some _ _).symm.trans H; rw [hy123]; with_reducible exact H2_) | (have H2_ := (Option.bind_some _ _).symm.trans H; with_reducible exact H2_) | with_reducible exact H | (rw [hy123]; exact H) | exact H
    have Ny123 := Aside0.mk hy123
    clear hy123
    by_cases c9 : y123.length + t120.length < 140737488355328
    · rw [if_pos c9] at H
      have LMc9 := Aside0.mk c9
      clear c9
      obtain ⟨y126, hy126⟩ : ∃ y_ : List Int, y_ = (y123 ++ t120) := ⟨_, rfl⟩
      replace H : (if y126.length + l3.length < 140737488355328 then ((num_Get.f k (y126 ++ l3)).bind fun bt132 => (if bt132.1 = a0 then (if bt132.2.1 = (t120.length : Int) then (blazonlaw01_NumBack.j0 k a1 a2 t120 (bt132.2.2 != 0)) else (blazonlaw01_NumBack.j0 k a1 a2 t120 true)) else (blazonlaw01_NumBack.j0 k a1 a2 t120 true))) else (none)) = some r := by first | (rw [hy126]; with_reducible exact H) | (have H2_ := (Option.bind_some _ _).symm.trans H; rw [hy126]; with_reducible exact H2_) | (have H2_ := (Option.bind_some _ _).symm.trans H; with_reducible exact H2_) | with_reducible exact H | (rw [hy126]; exact H) | exact H
      have Ny126 := Aside0.mk hy126
      clear hy126
      by_cases c10 : y126.length + l3.length < 140737488355328
      · rw [if_pos c10] at H
        have LMc10 := Aside0.mk c10
        clear c10
        obtain ⟨y129, hy129⟩ : ∃ y_ : List Int, y_ = (y126 ++ l3) := ⟨_, rfl⟩
        replace H : ((num_Get.f k y129).bind fun bt132 => (if bt132.1 = a0 then (if bt132.2.1 = (t120.length : Int) then (blazonlaw01_NumBack.j0 k a1 a2 t120 (bt132.2.2 != 0)) else (blazonlaw01_NumBack.j0 k a1 a2 t120 true)) else (blazonlaw01_NumBack.j0 k a1 a2 t120 true))) = some r := by first | (rw [hy129]; with_reducible exact H) | (have H2_ := (Option.bind_some _ _).symm.trans H; rw [hy129]; with_reducible exact H2_) | (have H2_ := (Option.bind_some _ _).symm.trans H; with_reducible exact H2_) | with_reducible exact H | (rw [hy129]; exact H) | exact H
        have Ny129 := Aside0.mk hy129
        clear hy129
        replace H := Option.bind_eq_some_iff.mp H
        obtain ⟨⟨t132, t133, t134⟩, A110, H⟩ := H
        replace H : (if t132 = a0 then (if t133 = (t120.length : Int) then (blazonlaw01_NumBack.j0 k a1 a2 t120 (t134 != 0)) else (blazonlaw01_NumBack.j0 k a1 a2 t120 true)) else (blazonlaw01_NumBack.j0 k a1 a2 t120 true)) = some r := H
        have A11 := Aside0.mk A110
        clear A110
        have HC12 := Aside0.mk H
        clear H
        go_enter Try.func6, Try.ntmps6
        go_upto_region 5 with (first | ((with_reducible refine gate_callee (f := 16) rfl ?_); refine goesL_ (some 25) rfl rfl Try.func16 (by kernel_rfl) rfl #[.slice none 0 0, .int .u64 a0] rfl (by (try simp only [List.map_toArray, List.map_cons, List.map_nil]); first | done | rfl | (simp only [List.length_drop, List.length_take]; rfl)) ?_; (refine (num_Put.calls k (fun k_ => some k_ = (.slice none 0 0 : Value).ownBlock) (.slice none 0 0) ([] : List Int) a0 t120 w _ ?side1 ?side2 A8.out).mono ?_); (case side1 => repeat (first | (with_reducible first | exact HB.out | apply below_alloc | apply pw_below_drewN | apply below_drew1) | exact HB.out)); (case side2 => exact Kd.R_nil _ _ _ _ _); rintro e w13 ⟨v121, rfl, ho0, hb, hkp⟩; refine ⟨_, rfl, ?_⟩; have n0_ := Aside0.mk (Kd.R_mono (ok' := fun k_ => True) ho0 (fun k_ hk_ => trivial)); have n1_ := Aside0.mk (hb); clear HB; have HO122 := n0_; have HB := n1_; clear n0_ n1_; (try clear hb); (try clear hkp); (try clear ho0)) | ((with_reducible refine gate_dst (N := 27) rfl ?_); (try (refine gate_guard (by rfl) ?_; dsimp only)); refine Kd.R_lit (Kd.int .u8) _ 5 ?hg (N := 27) ?hd (xs := ([] : List Int)) (inner := []) (ok := fun _ => True) (okp := fun _ => True) ?hr ?hp (fun _ hk => hk) trivial (Below.refl _ _) (Nat.le_refl _) (by simp) ?_; (case hd => rfl); (case hg => rfl); (case hr => first | (go_simp; done) | (go_simp; rfl)); (case hp => exact (Reps.none _ _)); intro v124 w14 ho15 hb hg_ hnew_; clear hg_ hnew_; (first | rw [← Ny123.out] at ho15 | (simp only [Int.reduceToNat] at ho15; rw [← Ny123.out] at ho15)); have n0_ := Aside0.mk (Kd.R_elder' (by (with_reducible repeat (first | apply Kd.R_alloc | apply Kd.R_drewN | apply Kd.R_drew)); exact HO122.out) (Kd.R_base ho15) hb); have n1_ := Aside0.mk (Kd.R_lower (Kd.R_new' ho15 (Kd.R_lt (by (with_reducible repeat (first | apply Kd.R_alloc | apply Kd.R_drewN | apply Kd.R_drew)); exact HO122.out))) (below_size (by repeat (first | (with_reducible first | exact HB.out | apply below_alloc | apply pw_below_drewN | apply below_drew1) | exact HB.out)))); have n2_ := Aside0.mk (below_step (by repeat (first | (with_reducible first | exact HB.out | apply below_alloc | apply pw_below_drewN | apply below_drew1) | exact HB.out)) hb); clear HO122; clear HB; have HO122 := n0_; have HO125 := n1_; have HB := n2_; clear n0_ n1_ n2_; clear hb ho15; obtain ⟨Ao17, co17, eo17⟩ := Kd.R_slice HO122.out; subst eo17) | ((with_reducible refine gate_builtin (b := .append) (xs := #[.tmp 27, .tmp 28]) rfl ?_); (try (refine gate_guard (by rfl) ?_; dsimp only)); at_builtin; refine Kd.R_append_rows (Kd.int .u8) (w0 := w) w.heap.size rfl (.tmp 27) (.tmp 28) 23 5 (.int .u8 0) 1 rfl Try.underlying23 info5 rfl (by decide) (by omega) v124 y123 t120 _ _ _ (fun k_ => some k_ ≠ (.slice Ao17 t120.length co17 : Value).ownBlock) (fun _ => False) rfl rfl ?aO ?aR (fun _ _ h => h) (fun _ h => h.elim) ?aF ?aB ?aS ?aL ?_; (case aR => repeat (first | exact (Kd.R_reads' HO122.out).2.2 | (with_reducible refine Kd.C_alloc ?_ _) | (with_reducible refine Kd.C_drewN ?_ _) | (with_reducible refine Kd.C_drew ?_))); (case aB => exact (by repeat (first | (with_reducible first | exact HB.out | apply below_alloc | apply pw_below_drewN | apply below_drew1) | exact HB.out))); (case aF => exact (fun k_ hk => Kd.fresh' (Kd.R_lt (by (with_reducible repeat (first | apply Kd.R_alloc | apply Kd.R_drewN | apply Kd.R_drew)); exact HO122.out)) k_ hk)); (case aO => exact (by (with_reducible repeat (first | apply Kd.R_alloc | apply Kd.R_drewN | apply Kd.R_drew)); exact Kd.R_mono HO125.out (fun _ hk => hk.2))); (case aS => exact (below_size (by repeat (first | (with_reducible first | exact HB.out | apply below_alloc | apply pw_below_drewN | apply below_drew1) | exact HB.out)))); (case aL => have := LMc9.out; omega); intro v127 w16 ho hb hg hat; rw [← Ny126.out] at ho; have n0_ := Aside0.mk (Kd.R_after (ok := (fun _ => True)) (by (with_reducible repeat (first | apply Kd.R_alloc | apply Kd.R_drewN | apply Kd.R_drew)); exact HO122.out) hg hat); have n1_ := Aside0.mk (hb); have n2_ := Aside0.mk (ho); clear HO122; clear HB; clear HO125; have HO122 := n0_; have HB := n1_; have HO128 := n2_; clear n0_ n1_ n2_; clear ho hb hg hat) | ((with_reducible refine gate_builtin (b := .append) (xs := #[.tmp 29, .tmp 30]) rfl ?_); (try (refine gate_guard (by rfl) ?_; dsimp only)); at_builtin; refine Kd.R_append_rows (Kd.int .u8) (w0 := w) w.heap.size rfl (.tmp 29) (.tmp 30) 23 5 (.int .u8 0) 1 rfl Try.underlying23 info5 rfl (by decide) (by omega) v127 y126 l3 _ _ _ (fun k_ => some k_ ≠ (.slice Ao17 t120.length co17 : Value).ownBlock) (fun _ => False) rfl rfl ?aO ?aR (fun _ _ h => h) (fun _ h => h.elim) ?aF ?aB ?aS ?aL ?_; (case aR => repeat (first | exact (Kd.C_below HR3.out HB.out) | (with_reducible refine Kd.C_alloc ?_ _) | (with_reducible refine Kd.C_drewN ?_ _) | (with_reducible refine Kd.C_drew ?_))); (case aB => exact (by repeat (first | (with_reducible first | exact HB.out | apply below_alloc | apply pw_below_drewN | apply below_drew1) | exact HB.out))); (case aF => exact (fun k_ hk => Kd.fresh' (Kd.R_lt (by (with_reducible repeat (first | apply Kd.R_alloc | apply Kd.R_drewN | apply Kd.R_drew)); exact HO122.out)) k_ hk)); (case aO => exact (by (with_reducible repeat (first | apply Kd.R_alloc | apply Kd.R_drewN | apply Kd.R_drew)); exact HO128.out)); (case aS => exact (below_size (by repeat (first | (with_reducible first | exact HB.out | apply below_alloc | apply pw_below_drewN | apply below_drew1) | exact HB.out)))); (case aL => have := LMc10.out; omega); intro v130 w18 ho hb hg hat; rw [← Ny129.out] at ho; have n0_ := Aside0.mk (Kd.R_after (ok := (fun _ => True)) (by (with_reducible repeat (first | apply Kd.R_alloc | apply Kd.R_drewN | apply Kd.R_drew)); exact HO122.out) hg hat); have n1_ := Aside0.mk (hb); have n2_ := Aside0.mk (ho); clear HO122; clear HB; clear HO128; have HO122 := n0_; have HB := n1_; have HO131 := n2_; clear n0_ n1_ n2_; clear ho hb hg hat; obtain ⟨Ao19, co19, eo19⟩ := Kd.R_slice HO131.out; subst eo19) | ((with_reducible refine gate_callee (f := 24) rfl ?_); refine goesL_ (some 32) rfl rfl Try.func24 (by kernel_rfl) rfl #[.slice Ao19 y129.length co19] rfl (by (try simp only [List.map_toArray, List.map_cons, List.map_nil]); first | done | rfl | (simp only [List.length_drop, List.length_take]; rfl)) ?_; (with_reducible refine (num_Get.calls k _ _ y129 t132 t133 t134 _ ?side1 ?side2 A11.out).mono ?_); (case side1 => repeat (first | exact (Kd.R_reads' HO131.out).2.2 | (with_reducible refine Kd.C_alloc ?_ _) | (with_reducible refine Kd.C_drewN ?_ _) | (with_reducible refine Kd.C_drew ?_))); (case side2 => exact (Kd.R_reads' HO131.out).2.1); rintro e w' ⟨rfl, ⟨nd, rfl⟩⟩; refine ⟨_, rfl, ?_⟩))
        (try simp only [Act.put, List.setIfInBounds_toArray, List.set_cons_zero, List.set_cons_succ])
        go_cut [48] (fun v48 wc => ∃ (kq : Nat) (x48_11 : Bool), v48 = .bool x48_11 ∧ Aside0 (blazonlaw01_NumBack.j0 kq a1 a2 t120 x48_11 = some r) ∧ Aside0 (kq ≤ k) ∧ Aside0 (Kd.R (Kd.int .u8) 5 wc w.heap.size (fun _ => True) (.slice Ao17 t120.length co17) t120) ∧ Aside0 (Below w.heap.size w wc))
        case first =>
          have H := HC12.out
          clear HC12
          by_cases c20 : t132 = a0
          · rw [if_pos c20] at H
            have c20b0 : (t132 == a0) = true := beq_iff_eq.mpr c20
            have c20b1 : (t132 != a0) = false := bne_eq_false_iff_eq.mpr c20
            clear c20
            (first | rw [c20b0] | (simp only [i64_w, i32_w]; rw [c20b0]) | skip)
            by_cases c21 : t133 = (t120.length : Int)
            · rw [if_pos c21] at H
              have c21b0 : (t133 == (t120.length : Int)) = true := beq_iff_eq.mpr c21
              have c21b1 : (t133 != (t120.length : Int)) = false := bne_eq_false_iff_eq.mpr c21
              clear c21
              have H' := Aside0.mk H
              clear H
              go_wp2
              go_meet
              case rel => exact ⟨_, ((t134 != 0)), (by first | rfl | (simp; done) | (simp [*]; done)), H', ⟨by first | omega | exact Nat.le_refl _⟩, ⟨by (with_reducible repeat (first | apply Kd.R_alloc | apply Kd.R_drewN | apply Kd.R_drew)); exact Kd.R_mono HO122.out (fun _ hk => trivial)⟩, ⟨by repeat (first | (with_reducible first | exact HB.out | apply below_alloc | apply pw_below_drewN | apply below_drew1) | exact HB.out)⟩⟩
            · rw [if_neg c21] at H
              have c21b0 : (t133 == (t120.length : Int)) = false := beq_eq_false_iff_ne.mpr c21
              have c21b1 : (t133 != (t120.length : Int)) = true := bne_iff_ne.mpr c21
              have H' := Aside0.mk H
              clear H
              go_wp2
              go_meet
              case rel => exact ⟨_, (true), (by first | rfl | (simp; done) | (simp [*]; done)), H', ⟨by first | omega | exact Nat.le_refl _⟩, ⟨by (with_reducible repeat (first | apply Kd.R_alloc | apply Kd.R_drewN | apply Kd.R_drew)); exact Kd.R_mono HO122.out (fun _ hk => trivial)⟩, ⟨by repeat (first | (with_reducible first | exact HB.out | apply below_alloc | apply pw_below_drewN | apply below_drew1) | exact HB.out)⟩⟩
          · rw [if_neg c20] at H
            have c20b0 : (t132 == a0) = false := beq_eq_false_iff_ne.mpr c20
            have c20b1 : (t132 != a0) = true := bne_iff_ne.mpr c20
            (first | rw [c20b0] | (simp only [i64_w, i32_w]; rw [c20b0]) | skip)
            have H' := Aside0.mk H
            clear H
            go_wp2
            go_meet
            case rel => exact ⟨_, (true), (by first | rfl | (simp; done) | (simp [*]; done)), H', ⟨by first | omega | exact Nat.le_refl _⟩, ⟨by (with_reducible repeat (first | apply Kd.R_alloc | apply Kd.R_drewN | apply Kd.R_drew)); exact Kd.R_mono HO122.out (fun _ hk => trivial)⟩, ⟨by repeat (first | (with_reducible first | exact HB.out | apply below_alloc | apply pw_below_drewN | apply below_drew1) | exact HB.out)⟩⟩
        case rest =>
          clear HC12
          try clear c1
          try clear c2
          try clear p2
          try clear c3
          try clear c5
          try clear c5b0
          try clear c5b1
          try clear c6
          try clear c9
          try clear c10
          try clear c16
          try clear c18
          try clear c20
          try clear c20b0
          try clear c20b1
          try clear c21
          try clear c21b0
          try clear c21b1
          obtain ⟨kq, x48_11, rfl, HA, HJ11, HO_9, HB⟩ := hcut
          cases kq with
          | zero => exact absurd HA.out (by simp [blazonlaw01_NumBack.j0])
          | succ kj11 =>
            have H := HA.out
            clear HA
            simp only [blazonlaw01_NumBack.j0] at H
            by_cases c22 : x48_11 = true
            · subst c22
              have H1 : (some false) = some r := by rw [if_pos rfl] at H; exact H
              clear H
              have H := H1
              clear H1
              obtain rfl := Option.some.inj H
              go_wp2
              go_ret
              exact ⟨by first | rfl | (simp [errW_none, errW_some] <;> rfl) | (simp [*, errW_none, errW_some] <;> rfl), by repeat (first | (with_reducible first | exact HB.out | apply below_alloc | apply pw_below_drewN | apply below_drew1) | exact HB.out)⟩
            · replace c22 := Bool.eq_false_iff.mpr c22
              subst c22
              have H1 : (if 0 ≤ (mx 0 (wrap64 ((t120.length : Int) - 1))) then (if (mx 0 (wrap64 ((t120.length : Int) - 1))) ≤ (t120.length : Int) then ((num_Get.f kj11 (t120.take ((mx 0 (wrap64 ((t120.length : Int) - 1))) : Int).toNat)).bind fun bt139 => ((num_Add.f a1 a2).bind fun bt142 => (if bt139.2.2 = 2 then (if bt142.2 = 0 then (blazonlaw01_NumBack.j1 kj11 a1 a2 bt142.1 (a2 == (-9223372036854775808))) else (blazonlaw01_NumBack.j1 kj11 a1 a2 bt142.1 true)) else (some false)))) else (none)) else (none)) = some r := by rw [if_neg (show ¬ (false = true) by decide)] at H; exact H
              clear H
              have H := H1
              clear H1
              obtain ⟨ji23, hji23⟩ : ∃ j_ : Int, (mx 0 (wrap64 ((t120.length : Int) - 1))) = j_ := ⟨_, rfl⟩
              replace H : (if 0 ≤ (ji23) then (if (ji23) ≤ (t120.length : Int) then ((num_Get.f kj11 (t120.take ((ji23) : Int).toNat)).bind fun bt139 => ((num_Add.f a1 a2).bind fun bt142 => (if bt139.2.2 = 2 then (if bt142.2 = 0 then (blazonlaw01_NumBack.j1 kj11 a1 a2 bt142.1 (a2 == (-9223372036854775808))) else (blazonlaw01_NumBack.j1 kj11 a1 a2 bt142.1 true)) else (some false)))) else (none)) else (none)) = some r := by first | (rw [hji23] at H; exact H) | (simp only [hji23] at H ⊢; exact H)
              have hji23_ : (if 0 < (wrap64 ((t120.length : Int) - 1)) then (wrap64 ((t120.length : Int) - 1)) else 0) = ji23 := hji23
              by_cases c24 : 0 ≤ (ji23)
              · rw [if_pos c24] at H
                have c24b0 := eq_true c24
                have c24b1 : decide (0 ≤ (ji23)) = true := decide_eq_true c24
                clear c24
                by_cases c25 : (ji23) ≤ (t120.length : Int)
                · rw [if_pos c25] at H
                  have c25b0 := eq_true c25
                  have c25b1 : decide ((ji23) ≤ (t120.length : Int)) = true := decide_eq_true c25
                  clear c25
                  obtain ⟨y135, hy135⟩ : ∃ y_ : List Int, y_ = (t120.take ((ji23) : Int).toNat) := ⟨_, rfl⟩
                  replace H : ((num_Get.f kj11 y135).bind fun bt139 => ((num_Add.f a1 a2).bind fun bt142 => (if bt139.2.2 = 2 then (if bt142.2 = 0 then (blazonlaw01_NumBack.j1 kj11 a1 a2 bt142.1 (a2 == (-9223372036854775808))) else (blazonlaw01_NumBack.j1 kj11 a1 a2 bt142.1 true)) else (some false)))) = some r := by first | (rw [hy135]; with_reducible exact H) | (have H2_ := (Option.bind_some _ _).symm.trans H; rw [hy135]; with_reducible exact H2_) | (have H2_ := (Option.bind_some _ _).symm.trans H; with_reducible exact H2_) | with_reducible exact H | (rw [hy135]; exact H) | exact H
                  have Ny135 := Aside0.mk hy135
                  clear hy135
                  replace H := Option.bind_eq_some_iff.mp H
                  obtain ⟨⟨t139, t140, t141⟩, A260, H⟩ := H
                  replace H : ((num_Add.f a1 a2).bind fun bt142 => (if t141 = 2 then (if bt142.2 = 0 then (blazonlaw01_NumBack.j1 kj11 a1 a2 bt142.1 (a2 == (-9223372036854775808))) else (blazonlaw01_NumBack.j1 kj11 a1 a2 bt142.1 true)) else (some false))) = some r := H
                  have A26 := Aside0.mk A260
                  clear A260
                  replace H := Option.bind_eq_some_iff.mp H
                  obtain ⟨⟨t142, t143⟩, A270, H⟩ := H
                  replace H : (if t141 = 2 then (if t143 = 0 then (blazonlaw01_NumBack.j1 kj11 a1 a2 t142 (a2 == (-9223372036854775808))) else (blazonlaw01_NumBack.j1 kj11 a1 a2 t142 true)) else (some false)) = some r := H
                  have A27 := Aside0.mk A270
                  clear A270
                  by_cases c28 : t141 = 2
                  · rw [if_pos c28] at H
                    have c28b0 : (t141 == 2) = true := beq_iff_eq.mpr c28
                    have c28b1 : (t141 != 2) = false := bne_eq_false_iff_eq.mpr c28
                    clear c28
                    have HC29 := Aside0.mk H
                    clear H
                    have q30 : ((ji23) : Int) ≤ ((t120.length : Int) : Int) := of_decide_eq_true (by first | (with_reducible assumption) | assumption)
                    obtain ⟨i030, hi030, _, hsz30, _⟩ := info_parts info5
                    have hroom30 : t120.length ≤ co17 := (Kd.R_reads' HO_9.out).2.1
                    have hC30 : Kd.C (Kd.int .u8) _ Ao17 t120.length t120 := (Kd.R_reads' HO_9.out).2.2
                    have hcut30 := cut_to (P := Try.prog) 23 5 .i64 Try.underlying23 hi030 Ao17 t120.length co17 (ji23) (of_decide_eq_true (by first | (with_reducible assumption) | assumption)) q30 hroom30
                    have hr30 := Kd.C_take (m := ((ji23) : Int).toNat) hC30 (by omega)
                    have hy30 : y135.length = ((ji23) : Int).toNat := (by rw [Ny135.out, List.length_take]; omega)
                    rw [← Ny135.out] at hr30
                    rw [← hy30] at hcut30
                    have HR138 := Aside0.mk hr30
                    have HC138 := Aside0.mk (show y135.length ≤ co17 from by omega)
                    clear hr30 hC30 hroom30 hi030 hsz30
                    have KY30 := Aside0.mk hy30
                    clear hy30
                    have KL30 := Aside0.mk (show ((ji23) : Int).toNat ≤ t120.length from by omega)
                    replace q30 := eq_true q30
                    go_upto_region 11 with (first | ((with_reducible refine gate_callee (f := 24) rfl ?_); refine goesL_ (some 56) rfl rfl Try.func24 (by kernel_rfl) rfl #[.slice Ao17 y135.length co17] rfl (by (try simp only [List.map_toArray, List.map_cons, List.map_nil]); first | done | rfl | (simp only [List.length_drop, List.length_take]; rfl)) ?_; (with_reducible refine (num_Get.calls kj11 _ _ y135 t139 t140 t141 _ ?side1 ?side2 A26.out).mono ?_); (case side1 => repeat (first | exact (by repeat (first | (with_reducible exact HR138.out) | (with_reducible refine Kd.C_alloc ?_ _) | (with_reducible refine Kd.C_drewN ?_ _) | (with_reducible refine Kd.C_drew ?_) | exact HR138.out)) | (with_reducible refine Kd.C_alloc ?_ _) | (with_reducible refine Kd.C_drewN ?_ _) | (with_reducible refine Kd.C_drew ?_))); (case side2 => exact HC138.out); rintro e w' ⟨rfl, ⟨nd, rfl⟩⟩; refine ⟨_, rfl, ?_⟩) | ((with_reducible refine gate_callee (f := 28) rfl ?_); refine goesL_ (some 63) rfl rfl Try.func28 (by kernel_rfl) rfl #[.int .i64 a1, .int .i64 a2] rfl (by (try simp only [List.map_toArray, List.map_cons, List.map_nil]); first | done | rfl | (simp only [List.length_drop, List.length_take]; rfl)) ?_; (with_reducible refine (num_Add.calls a1 a2 t142 t143 _ A27.out).mono ?_); rintro e w' ⟨rfl, ⟨nd, rfl⟩⟩; refine ⟨_, rfl, ?_⟩))
                    (try simp only [Act.put, List.setIfInBounds_toArray, List.set_cons_zero, List.set_cons_succ])
                    go_cut [73] (fun v73 wc => ∃ (kq : Nat) (x73_28 : Bool), v73 = .bool x73_28 ∧ Aside0 (blazonlaw01_NumBack.j1 kq a1 a2 t142 x73_28 = some r) ∧ Aside0 (kq ≤ kj11) ∧ Aside0 (Kd.C (Kd.int .u8) wc Ao17 y135.length y135) ∧ Aside0 (Below w.heap.size w wc))
                    case first =>
                      have H := HC29.out
                      clear HC29
                      by_cases c31 : t143 = 0
                      · rw [if_pos c31] at H
                        have c31b0 : (t143 == 0) = true := beq_iff_eq.mpr c31
                        have c31b1 : (t143 != 0) = false := bne_eq_false_iff_eq.mpr c31
                        clear c31
                        (first | rw [c31b0] | (simp only [i64_w, i32_w]; rw [c31b0]) | skip)
                        have H' := Aside0.mk H
                        clear H
                        go_wp2
                        go_meet
                        case rel => exact ⟨_, ((a2 == (-9223372036854775808))), (by first | rfl | (simp; done) | (simp [*]; done)), H', ⟨by have := HJ11.out; first | omega | exact Nat.le_refl _⟩, ⟨by repeat (first | (with_reducible exact HR138.out) | (with_reducible refine Kd.C_alloc ?_ _) | (with_reducible refine Kd.C_drewN ?_ _) | (with_reducible refine Kd.C_drew ?_) | exact HR138.out)⟩, ⟨by repeat (first | (with_reducible first | exact HB.out | apply below_alloc | apply pw_below_drewN | apply below_drew1) | exact HB.out)⟩⟩
                      · rw [if_neg c31] at H
                        have c31b0 : (t143 == 0) = false := beq_eq_false_iff_ne.mpr c31
                        have c31b1 : (t143 != 0) = true := bne_iff_ne.mpr c31
                        (first | rw [c31b0] | (simp only [i64_w, i32_w]; rw [c31b0]) | skip)
                        have H' := Aside0.mk H
                        clear H
                        go_wp2
                        go_meet
                        case rel => exact ⟨_, (true), (by first | rfl | (simp; done) | (simp [*]; done)), H', ⟨by have := HJ11.out; first | omega | exact Nat.le_refl _⟩, ⟨by repeat (first | (with_reducible exact HR138.out) | (with_reducible refine Kd.C_alloc ?_ _) | (with_reducible refine Kd.C_drewN ?_ _) | (with_reducible refine Kd.C_drew ?_) | exact HR138.out)⟩, ⟨by repeat (first | (with_reducible first | exact HB.out | apply below_alloc | apply pw_below_drewN | apply below_drew1) | exact HB.out)⟩⟩
                    case rest =>
                      clear HC29
                      try clear c1
                      try clear c2
                      try clear p2
                      try clear c3
                      try clear q3
                      try clear c5
                      try clear c5b0
                      try clear c5b1
                      try clear c6
                      try clear p6
                      try clear c9
                      try clear c10
                      try clear c16
                      try clear c18
                      try clear c20
                      try clear c20b0
                      try clear c20b1
                      try clear c21
                      try clear c21b0
                      try clear c21b1
                      try clear c22
                      try clear c24
                      try clear c24b0
                      try clear c24b1
                      try clear c25
                      try clear c25b0
                      try clear c25b1
                      try clear c28
                      try clear c28b0
                      try clear c28b1
                      try clear q30
                      try clear c31
                      try clear c31b0
                      try clear c31b1
                      try clear p2
                      try clear q30
                      obtain ⟨kq, x73_28, rfl, HA, HJ28, HR138, HB⟩ := hcut
                      cases kq with
                      | zero => exact absurd HA.out (by simp [blazonlaw01_NumBack.j1])
                      | succ kj28 =>
                        have H := HA.out
                        clear HA
                        simp only [blazonlaw01_NumBack.j1] at H
                        by_cases c32 : x73_28 = true
                        · subst c32
                          have H1 : ((blazonlaw01_awake.f kj28).bind fun t144 => (some t144)) = some r := by rw [if_pos rfl] at H; exact H
                          clear H
                          have H := H1
                          clear H1
                          replace H := Option.bind_eq_some_iff.mp H
                          obtain ⟨t144, A330, H⟩ := H
                          replace H : (some t144) = some r := H
                          have A33 := Aside0.mk A330
                          clear A330
                          obtain rfl := Option.some.inj H
                          go_wp2_with (first | ((with_reducible refine gate_callee (f := 18) rfl ?_); refine goesL_ (some 74) rfl rfl Try.func18 (by kernel_rfl) rfl #[] rfl (by (try simp only [List.map_toArray, List.map_cons, List.map_nil]); first | done | rfl | (simp only [List.length_drop, List.length_take]; rfl)) ?_; (with_reducible refine (blazonlaw01_awake.calls kj28  t144 _ A33.out).mono ?_); rintro e w34 ⟨rfl, hb⟩; refine ⟨_, rfl, ?_⟩; have n0_ := Aside0.mk (Kd.C_below (by repeat (first | (with_reducible exact HR138.out) | (with_reducible refine Kd.C_alloc ?_ _) | (with_reducible refine Kd.C_drewN ?_ _) | (with_reducible refine Kd.C_drew ?_) | exact HR138.out)) hb); have n1_ := Aside0.mk (below_step (by repeat (first | (with_reducible first | exact HB.out | apply below_alloc | apply pw_below_drewN | apply below_drew1) | exact HB.out)) hb); clear HR138; clear HB; have HR138 := n0_; have HB := n1_; clear n0_ n1_; (try clear hb); (try clear hb2); (try clear hk); (try clear hi)))
                          go_ret
                          exact ⟨by first | rfl | (simp [errW_none, errW_some] <;> rfl) | (simp only [← hji23]; first | rfl | (simp [errW_none, errW_some] <;> rfl)) | (simp [*, errW_none, errW_some] <;> rfl), by repeat (first | (with_reducible first | exact HB.out | apply below_alloc | apply pw_below_drewN | apply below_drew1) | exact HB.out)⟩
                        · replace c32 := Bool.eq_false_iff.mpr c32
                          subst c32
                          have H1 : ((num_Add.f t142 (wrap64 (-a2))).bind fun bt145 => (if bt145.1 = a1 then (if bt145.2 = 0 then ((blazonlaw01_awake.f kj28).bind fun t147 => (some t147)) else (some false)) else (some false))) = some r := by rw [if_neg (show ¬ (false = true) by decide)] at H; exact H
                          clear H
                          have H := H1
                          clear H1
                          replace H := Option.bind_eq_some_iff.mp H
                          obtain ⟨⟨t145, t146⟩, A350, H⟩ := H
                          replace H : (if t145 = a1 then (if t146 = 0 then ((blazonlaw01_awake.f kj28).bind fun t147 => (some t147)) else (some false)) else (some false)) = some r := H
                          have A35 := Aside0.mk A350
                          clear A350
                          by_cases c36 : t145 = a1
                          · rw [if_pos c36] at H
                            have c36b0 : (t145 == a1) = true := beq_iff_eq.mpr c36
                            have c36b1 : (t145 != a1) = false := bne_eq_false_iff_eq.mpr c36
                            clear c36
                            by_cases c37 : t146 = 0
                            · rw [if_pos c37] at H
                              have c37b0 : (t146 == 0) = true := beq_iff_eq.mpr c37
                              have c37b1 : (t146 != 0) = false := bne_eq_false_iff_eq.mpr c37
                              clear c37
                              replace H := Option.bind_eq_some_iff.mp H
                              obtain ⟨t147, A380, H⟩ := H
                              replace H : (some t147) = some r := H
                              have A38 := Aside0.mk A380
                              clear A380
                              obtain rfl := Option.some.inj H
                              go_wp2_with (first | ((with_reducible refine gate_callee (f := 28) rfl ?_); refine goesL_ (some 79) rfl rfl Try.func28 (by kernel_rfl) rfl #[.int .i64 t142, .int .i64 (wrap64 (-a2))] rfl (by (try simp only [List.map_toArray, List.map_cons, List.map_nil]); first | done | rfl | (simp only [List.length_drop, List.length_take]; rfl)) ?_; (with_reducible refine (num_Add.calls t142 (wrap64 (-a2)) t145 t146 _ A35.out).mono ?_); rintro e w' ⟨rfl, ⟨nd, rfl⟩⟩; refine ⟨_, rfl, ?_⟩) | (go_at_call 18; (with_reducible refine (blazonlaw01_awake.calls kj28  t147 _ A38.out).mono ?_); rintro e w39 ⟨rfl, hb⟩; have n0_ := Aside0.mk (Kd.C_below (by repeat (first | (with_reducible exact HR138.out) | (with_reducible refine Kd.C_alloc ?_ _) | (with_reducible refine Kd.C_drewN ?_ _) | (with_reducible refine Kd.C_drew ?_) | exact HR138.out)) hb); have n1_ := Aside0.mk (below_step (by repeat (first | (with_reducible first | exact HB.out | apply below_alloc | apply pw_below_drewN | apply below_drew1) | exact HB.out)) hb); clear HR138; clear HB; have HR138 := n0_; have HB := n1_; clear n0_ n1_; (try clear hb); (try clear hb2); (try clear hk); (try clear hi)))
                              go_ret
                              exact ⟨by first | rfl | (simp [errW_none, errW_some] <;> rfl) | (simp only [← hji23]; first | rfl | (simp [errW_none, errW_some] <;> rfl)) | (simp [*, errW_none, errW_some] <;> rfl), by repeat (first | (with_reducible first | exact HB.out | apply below_alloc | apply pw_below_drewN | apply below_drew1) | exact HB.out)⟩
                            · rw [if_neg c37] at H
                              have c37b0 : (t146 == 0) = false := beq_eq_false_iff_ne.mpr c37
                              have c37b1 : (t146 != 0) = true := bne_iff_ne.mpr c37
                              obtain rfl := Option.some.inj H
                              go_wp2_with (first | ((with_reducible refine gate_callee (f := 28) rfl ?_); refine goesL_ (some 79) rfl rfl Try.func28 (by kernel_rfl) rfl #[.int .i64 t142, .int .i64 (wrap64 (-a2))] rfl (by (try simp only [List.map_toArray, List.map_cons, List.map_nil]); first | done | rfl | (simp only [List.length_drop, List.length_take]; rfl)) ?_; (with_reducible refine (num_Add.calls t142 (wrap64 (-a2)) t145 t146 _ A35.out).mono ?_); rintro e w' ⟨rfl, ⟨nd, rfl⟩⟩; refine ⟨_, rfl, ?_⟩))
                              go_ret
                              exact ⟨by first | rfl | (simp [errW_none, errW_some] <;> rfl) | (simp only [← hji23]; first | rfl | (simp [errW_none, errW_some] <;> rfl)) | (simp [*, errW_none, errW_some] <;> rfl), by repeat (first | (with_reducible first | exact HB.out | apply below_alloc | apply pw_below_drewN | apply below_drew1) | exact HB.out)⟩
                          · rw [if_neg c36] at H
                            have c36b0 : (t145 == a1) = false := beq_eq_false_iff_ne.mpr c36
                            have c36b1 : (t145 != a1) = true := bne_iff_ne.mpr c36
                            obtain rfl := Option.some.inj H
                            go_wp2_with (first | ((with_reducible refine gate_callee (f := 28) rfl ?_); refine goesL_ (some 79) rfl rfl Try.func28 (by kernel_rfl) rfl #[.int .i64 t142, .int .i64 (wrap64 (-a2))] rfl (by (try simp only [List.map_toArray, List.map_cons, List.map_nil]); first | done | rfl | (simp only [List.length_drop, List.length_take]; rfl)) ?_; (with_reducible refine (num_Add.calls t142 (wrap64 (-a2)) t145 t146 _ A35.out).mono ?_); rintro e w' ⟨rfl, ⟨nd, rfl⟩⟩; refine ⟨_, rfl, ?_⟩))
                            go_ret
                            exact ⟨by first | rfl | (simp [errW_none, errW_some] <;> rfl) | (simp only [← hji23]; first | rfl | (simp [errW_none, errW_some] <;> rfl)) | (simp [*, errW_none, errW_some] <;> rfl), by repeat (first | (with_reducible first | exact HB.out | apply below_alloc | apply pw_below_drewN | apply below_drew1) | exact HB.out)⟩
                  · rw [if_neg c28] at H
                    have c28b0 : (t141 == 2) = false := beq_eq_false_iff_ne.mpr c28
                    have c28b1 : (t141 != 2) = true := bne_iff_ne.mpr c28
                    obtain rfl := Option.some.inj H
                    have q40 : ((ji23) : Int) ≤ ((t120.length : Int) : Int) := of_decide_eq_true (by first | (with_reducible assumption) | assumption)
                    obtain ⟨i040, hi040, _, hsz40, _⟩ := info_parts info5
                    have hroom40 : t120.length ≤ co17 := (Kd.R_reads' HO_9.out).2.1
                    have hC40 : Kd.C (Kd.int .u8) _ Ao17 t120.length t120 := (Kd.R_reads' HO_9.out).2.2
                    have hcut40 := cut_to (P := Try.prog) 23 5 .i64 Try.underlying23 hi040 Ao17 t120.length co17 (ji23) (of_decide_eq_true (by first | (with_reducible assumption) | assumption)) q40 hroom40
                    have hr40 := Kd.C_take (m := ((ji23) : Int).toNat) hC40 (by omega)
                    have hy40 : y135.length = ((ji23) : Int).toNat := (by rw [Ny135.out, List.length_take]; omega)
                    rw [← Ny135.out] at hr40
                    rw [← hy40] at hcut40
                    have HR138 := Aside0.mk hr40
                    have HC138 := Aside0.mk (show y135.length ≤ co17 from by omega)
                    clear hr40 hC40 hroom40 hi040 hsz40
                    have KY40 := Aside0.mk hy40
                    clear hy40
                    have KL40 := Aside0.mk (show ((ji23) : Int).toNat ≤ t120.length from by omega)
                    replace q40 := eq_true q40
                    go_wp2_with (first | ((with_reducible refine gate_callee (f := 24) rfl ?_); refine goesL_ (some 56) rfl rfl Try.func24 (by kernel_rfl) rfl #[.slice Ao17 y135.length co17] rfl (by (try simp only [List.map_toArray, List.map_cons, List.map_nil]); first | done | rfl | (simp only [List.length_drop, List.length_take]; rfl)) ?_; (with_reducible refine (num_Get.calls kj11 _ _ y135 t139 t140 t141 _ ?side1 ?side2 A26.out).mono ?_); (case side1 => repeat (first | exact (by repeat (first | (with_reducible exact HR138.out) | (with_reducible refine Kd.C_alloc ?_ _) | (with_reducible refine Kd.C_drewN ?_ _) | (with_reducible refine Kd.C_drew ?_) | exact HR138.out)) | (with_reducible refine Kd.C_alloc ?_ _) | (with_reducible refine Kd.C_drewN ?_ _) | (with_reducible refine Kd.C_drew ?_))); (case side2 => exact HC138.out); rintro e w' ⟨rfl, ⟨nd, rfl⟩⟩; refine ⟨_, rfl, ?_⟩) | ((with_reducible refine gate_callee (f := 28) rfl ?_); refine goesL_ (some 63) rfl rfl Try.func28 (by kernel_rfl) rfl #[.int .i64 a1, .int .i64 a2] rfl (by (try simp only [List.map_toArray, List.map_cons, List.map_nil]); first | done | rfl | (simp only [List.length_drop, List.length_take]; rfl)) ?_; (with_reducible refine (num_Add.calls a1 a2 t142 t143 _ A27.out).mono ?_); rintro e w' ⟨rfl, ⟨nd, rfl⟩⟩; refine ⟨_, rfl, ?_⟩))
                    go_ret
                    exact ⟨by first | rfl | (simp [errW_none, errW_some] <;> rfl) | (simp only [← hji23]; first | rfl | (simp [errW_none, errW_some] <;> rfl)) | (simp [*, errW_none, errW_some] <;> rfl), by repeat (first | (with_reducible first | exact HB.out | apply below_alloc | apply pw_below_drewN | apply below_drew1) | exact HB.out)⟩
                · rw [if_neg c25] at H
                  exact absurd H (by simp)
              · rw [if_neg c24] at H
                exact absurd H (by simp)
      · rw [if_neg c10] at H
        exact absurd H (by simp)
    · rw [if_neg c9] at H
      exact absurd H (by simp)

/-- THE ONE PURE STATEMENT of blazonlaw01_NumBack: yours. -/
def blazonlaw01_NumBack.Pure : Prop := ∀ (a0 : Int) (a1 : Int) (a2 : Int) (l3 : List Int), (Lit.int .u64 a0).wf = true → (Lit.int .i64 a1).wf = true → (Lit.int .i64 a2).wf = true → l3.length ≤ maxLen → l3.length * 1 ≤ 140737488351232 → (∀ x ∈ l3, (Lit.int .u8 x).wf = true) → ∃ k, blazonlaw01_NumBack.f k a0 a1 a2 l3 = some true
theorem blazonlaw01_NumBack.walk (P : blazonlaw01_NumBack.Pure) (a0 : Int) (a1 : Int) (a2 : Int) (a3 : Option Addr) (len3 cap3 : Nat) (z3 : List Int) (w : World) (w0 : (Lit.int .u64 a0).wf = true) (w1 : (Lit.int .i64 a1).wf = true) (w2 : (Lit.int .i64 a2).wf = true) (w3 : (a3 = none ∧ len3 = 0 ∧ cap3 = 0 ∧ z3 = []) ∨ ∃ x, a3 = some x ∧ len3 ≤ cap3 ∧ cap3 ≤ maxLen ∧ z3.length = cap3 ∧ (∀ i, i < z3.length → w.cell? (x.add i) = some (.int .u8 (z3.getD i 0))) ∧ ∀ n ∈ z3, (Lit.int .u8 n).wf = true) (y3 : len3 * 1 ≤ 140737488351232) :
    Calls Try.prog 6 #[.int .u64 a0, .int .i64 a1, .int .i64 a2, .slice a3 len3 cap3] w fun e w' => e = .returned (.bool true) ∧ Below w.heap.size w w' := by
  obtain ⟨l3, rfl, hr3, hm3, hw3, hc3⟩ := ReadsInt.ofRowC w3
  obtain ⟨k, h⟩ := P a0 a1 a2 l3 w0 w1 w2 hm3 y3 hw3
  refine (blazonlaw01_NumBack.calls k a0 a1 a2 _ _ l3 true w (Kd.C_of_reads (d := (0 : Int)) (h1 := fun _ => rfl) hr3) hc3 h).mono ?_
  rintro e w' ⟨rfl, hd⟩
  exact ⟨rfl, hd⟩

end Go.Proofs.Ytbpagdgbehefkaa.PNumBack
