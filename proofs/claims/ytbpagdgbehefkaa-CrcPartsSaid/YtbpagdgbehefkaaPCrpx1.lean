-- By cprint.py, a program of this work. Lean checks it.
import Derived.Test.YtbpagdgbehefkaaPCrpx0
namespace Go.Proofs.Ytbpagdgbehefkaa.PCrp
open Go.RowKit Go.Proofs.YtbpagdgbehefkaaW.PrintWords Go.Proofs.YtbpagdgbehefkaaW.PrintLast Go.Proofs.YtbpagdgbehefkaaW.PrintMore
set_option linter.unusedVariables false
set_option linter.unusedSimpArgs false

/-! ### crc_New: function 34 -/
def crc_New.f : Option (Option Int) := some (some 0)
theorem crc_New.calls (r : Option Int) (c : Nat → Nat) (w : World) (hc : ∀ k, c k < 10) (H : crc_New.f = some r) :
    Calls Try.prog 34 #[] w fun e w' => ∃ (c' : Nat → Nat) (v_r : Value), e = .returned v_r ∧ Step c w c' w' [] ∧ Ft c' [5] w' (fun w_ => Crc.SumO w_ v_r r) := by
  obtain rfl := Option.some.inj H
  refine (Crc.new_calls w).mono ?_
  rintro e w' ⟨he, hs, hbel, hsize, cs, hb⟩
  exact ⟨ext c w.heap.size 5, _, he, Step.ofBelow c hbel 5, Crc.SumO.ft hb (Crc.inv_of hb hs) (ext_ge c (Nat.le_refl _))⟩

/-! ### crc_Summer_Of: function 36 -/
def crc_Summer_Of.f (x0 : Option Int) (l1 : List Int) : Option (Int × Option Int) := match x0 with
  | none => some (0, none)
  | some n => if l1.length ≤ 1000000 ∧ 0 ≤ n ∧ n ≤ 1000000 then some (Crc.flip (Crc.stepsF 4294967295 l1), some (n + 1)) else none
theorem crc_Summer_Of.calls (v0 : Value) (x0 : Option Int) (A1 : Option Addr) (c1 : Nat) (l1 : List Int) (r1 : Int) (r2 : Option Int) (c : Nat → Nat) (w : World) (hc : ∀ k, c k < 10) (HP0 : Ft c [1] w (fun w_ => Crc.SumO w_ v0 x0)) (HP1 : Ft c [0] w (fun w_ => (Kd.int .u8).C w_ A1 l1.length l1)) (HCP1 : l1.length ≤ c1) (H : crc_Summer_Of.f x0 l1 = some (r1, r2)) :
    Calls Try.prog 36 #[v0, .slice A1 l1.length c1] w fun e w' => ∃ (c' : Nat → Nat), e = .returned (.int .u32 r1) ∧ Step c w c' w' [1] ∧ Ft c' [1] w' (fun w_ => Crc.SumO w_ v0 r2) := by
  unfold crc_Summer_Of.f at H
  cases x0 with
  | none =>
    simp only [Option.some.injEq, Prod.mk.injEq] at H
    obtain ⟨rfl, rfl⟩ := H
    obtain rfl : v0 = .pointer none := HP0.now
    refine (Crc.nil_of _ w).mono ?_
    rintro e w' ⟨he, rfl⟩
    exact ⟨c, he, Step.refl _ _ _, Crc.SumO.nil _ _ _⟩
  | some n =>
    dsimp only at H
    by_cases e1 : l1.length ≤ 1000000 ∧ 0 ≤ n ∧ n ≤ 1000000
    · rw [if_pos e1] at H
      simp only [Option.some.injEq, Prod.mk.injEq] at H
      obtain ⟨rfl, rfl⟩ := H
      obtain ⟨g, cs, rfl, hb, hv, hC⟩ := Crc.SumO.open HP0
      replace hC : c g = 1 := by simpa using hC
      refine (Crc.of_calls g n A1 c1 l1 w (Crc.sum_of hb hv) e1.2 e1.1 (fun w' ho => Crc.read_only hC (by decide) HP1 w' ho)).mono ?_
      rintro e w' ⟨he, hs, ho⟩
      obtain ⟨cs', hb'⟩ := ho.kept cs hb
      exact ⟨c, he, Crc.Step.only ho hC, Crc.SumO.ft hb' (Crc.inv_of hb' hs) hC⟩
    · rw [if_neg e1] at H
      cases H

/-! ### crc_Summer_Calls: function 40 -/
def crc_Summer_Calls.f (x0 : Option Int) : Option Int := some (x0.getD 0)
theorem crc_Summer_Calls.calls (v0 : Value) (x0 : Option Int) (r : Int) (c : Nat → Nat) (w : World) (hc : ∀ k, c k < 10) (HP0 : Ft c [0] w (fun w_ => Crc.SumO w_ v0 x0)) (H : crc_Summer_Calls.f x0 = some r) :
    Calls Try.prog 40 #[v0] w fun e w' => ∃ (c' : Nat → Nat), e = .returned (.int .i64 r) ∧ Step c w c' w' [] := by
  obtain rfl := Option.some.inj H
  cases x0 with
  | none =>
    obtain rfl : v0 = .pointer none := HP0.now
    refine (Crc.nil_calls w).mono ?_
    rintro e w' ⟨he, rfl⟩
    exact ⟨c, he, Step.refl _ _ _⟩
  | some n =>
    obtain ⟨g, cs, rfl, hb, hv⟩ := HP0.now
    refine (Crc.calls_calls g n w (Crc.sum_of hb hv)).mono ?_
    rintro e w' ⟨he, rfl⟩
    exact ⟨c, he, Step.refl _ _ _⟩

/-! ### blazonlaw02_awake: function 33 -/
def blazonlaw02_awake.f  : Option (Bool) := (crc_New.f).bind fun t47 => ((some ([49, 50, 51, 52, 53, 54, 55, 56, 57] : List Int)).bind fun y56 => ((crc_Summer_Of.f t47 y56).bind fun bt65 => (if bt65.1 = 3421780262 then ((crc_Summer_Of.f bt65.2 ([] : List Int)).bind fun bt74 => (if bt74.1 = 0 then ((crc_Summer_Calls.f bt74.2).bind fun t83 => (some (decide (t83 = 2)))) else (some false))) else (some false))))
set_option maxHeartbeats 2000000 in
set_option maxRecDepth 100000 in
theorem blazonlaw02_awake.calls  (r : Bool) (c : Nat → Nat) (w : World) (hc : ∀ k, c k < 10)  (H : blazonlaw02_awake.f = some r) :
    Calls Try.prog 33 #[] w fun e w' => ∃ (c' : Nat → Nat) , e = .returned (.bool r) ∧ Step c w c' w' [] := by
  unfold blazonlaw02_awake.f at H
  have HS := Step.refl c w []
  go_enter Try.func33, Try.ntmps33
  refine wp_seq_k fun K45 hK45 => ?_
  refine wl_region ?_
  refine st (.bool false) rfl rfl (xr_assign (.bool false) rfl rfl) ?_
  simp only [List.set_cons_zero, List.set_cons_succ]
  refine wl_end ?_
  (try simp only [Act.put, List.setIfInBounds_toArray, List.set_cons_zero, List.set_cons_succ])
  refine hK45 _ _ ?_
  (try clear hK45 K45)
  refine wp_seq_k fun K46 hK46 => ?_
  refine wl_region ?_
  obtain ⟨t47, A48, H⟩ := Option.bind_eq_some_iff.mp H
  (try dsimp only at H)
  refine st_call #[] rfl rfl Try.func34 (by kernel_rfl) rfl rfl (by simp only [List.map_toArray, List.map_cons, List.map_nil]; first | done | rfl) ?_
  refine (crc_New.calls t47  (fun z_ => pal [(0, 0)] (c z_)) w (fun _ => pal_lt rfl _) A48).mono ?_
  rintro _ w50 ⟨C51, v53, rfl, hs52, HB54⟩
  refine ⟨_, rfl, ?_⟩
  replace HB54 := Ft.res (U := [(0, 0), (5, 11)]) HB54 hs52 [11] rfl rfl rfl
  replace hs52 := Step.lift (U := [(0, 0), (5, 11)]) hs52 [] rfl rfl
  generalize up c C51 w.heap.size [(0, 0), (5, 11)] = C51_ at HB54 hs52
  replace HS := HS.trans hs52 hc rfl
  (try simp only [Act.put, List.setIfInBounds_toArray, List.set_cons_zero, List.set_cons_succ])
  refine st (v53) rfl rfl (xr_assign (v53) rfl rfl) ?_
  simp only [List.set_cons_zero, List.set_cons_succ]
  refine wl_end ?_
  (try simp only [Act.put, List.setIfInBounds_toArray, List.set_cons_zero, List.set_cons_succ])
  refine hK46 _ _ ?_
  (try clear hK46 K46)
  refine wp_seq_k fun K55 hK55 => ?_
  refine wl_region ?_
  refine st (v53) rfl rfl (xr_move (v53) rfl rfl) ?_
  simp only [List.set_cons_zero, List.set_cons_succ]
  obtain ⟨y56, A57, H⟩ := Option.bind_eq_some_iff.mp H
  (try dsimp only at H)
  refine own_litconv (C := C51_) 5 rfl rfl (xs := [49, 50, 51, 52, 53, 54, 55, 56, 57]) (inner := [.int .u8 49, .int .u8 50, .int .u8 51, .int .u8 52, .int .u8 53, .int .u8 54, .int .u8 55, .int .u8 56, .int .u8 57]) (by first | (go_simp; done) | (go_simp; rfl)) rfl 23 rfl _ rfl rfl Try.underlying23 Try.underlying5 (by simp only [List.length_cons, List.length_nil]; omega) 12 (Option.some.inj A57) ?_
  intro A58 cp59 w60 C61 HO62 HC63 hs64
  replace HB54 := HB54.thru hs64 rfl
  replace HS := HS.trans hs64 hc rfl
  (try simp only [Act.put, List.setIfInBounds_toArray, List.set_cons_zero, List.set_cons_succ])
  obtain ⟨⟨t65, t66⟩, A67, H⟩ := Option.bind_eq_some_iff.mp H
  (try dsimp only at H)
  refine st_call #[v53, .slice A58 y56.length cp59] rfl rfl Try.func36 (by kernel_rfl) rfl rfl (by simp only [List.map_toArray, List.map_cons, List.map_nil]; first | done | rfl) ?_
  refine (crc_Summer_Of.calls v53 t47 A58 cp59 y56 t65 t66  (fun z_ => pal [(0, 0), (11, 1), (12, 0)] (C61 z_)) w60 (fun _ => pal_lt rfl _) (Ft.arg HB54 rfl) (Ft.arg HO62 rfl) HC63 A67).mono ?_
  rintro _ w69 ⟨C70, rfl, hs71, HM72⟩
  refine ⟨_, rfl, ?_⟩
  replace HM72 := Ft.res (U := [(0, 0), (1, 11)]) HM72 hs71 [11] rfl rfl rfl
  replace hs71 := Step.lift (U := [(0, 0), (1, 11)]) hs71 [11] rfl rfl
  generalize up C61 C70 w60.heap.size [(0, 0), (1, 11)] = C70_ at HM72 hs71
  replace HS := HS.trans hs71 hc rfl
  (try simp only [Act.put, List.setIfInBounds_toArray, List.set_cons_zero, List.set_cons_succ])
  refine st (.bool (decide (t65 = 3421780262))) rfl rfl (xr_bin (.int .u32 t65) (.int .u32 3421780262) (.bool (decide (t65 = 3421780262))) rfl rfl rfl (B.eql_u32 t65 3421780262)) ?_
  simp only [List.set_cons_zero, List.set_cons_succ]
  refine st (.bool (decide (t65 = 3421780262))) rfl rfl (xr_move (.bool (decide (t65 = 3421780262))) rfl rfl) ?_
  simp only [List.set_cons_zero, List.set_cons_succ]
  by_cases c73 : t65 = 3421780262
  · rw [if_pos c73] at H
    (try rw [(decide_eq_true c73)])
    (try simp only [Bool.not_true, Bool.not_false])
    refine on_guard (guard_on 5 true 8 rfl rfl rfl) ?_
    refine st (v53) rfl rfl (xr_move (v53) rfl rfl) ?_
    simp only [List.set_cons_zero, List.set_cons_succ]
    refine on_guard (guard_on 5 true 8 rfl rfl rfl) ?_
    obtain ⟨⟨t74, t75⟩, A76, H⟩ := Option.bind_eq_some_iff.mp H
    (try dsimp only at H)
    refine st_call #[v53, .slice none 0 0] rfl rfl Try.func36 (by kernel_rfl) rfl rfl (by simp only [List.map_toArray, List.map_cons, List.map_nil]; first | done | rfl) ?_
    refine (crc_Summer_Of.calls v53 t66 none 0 ([] : List Int) t74 t75  (fun z_ => pal [(0, 0), (11, 1)] (C70_ z_)) w69 (fun _ => pal_lt rfl _) (Ft.arg HM72 rfl) (Ft.arg (show Ft C70_ [0] w69 (fun w => (Kd.int .u8).C w none 0 []) from Kd.F_nil _ _ _) rfl) (Nat.le_refl 0) A76).mono ?_
    rintro _ w78 ⟨C79, rfl, hs80, HM81⟩
    refine ⟨_, rfl, ?_⟩
    replace HM81 := Ft.res (U := [(0, 0), (1, 11)]) HM81 hs80 [11] rfl rfl rfl
    replace hs80 := Step.lift (U := [(0, 0), (1, 11)]) hs80 [11] rfl rfl
    generalize up C70_ C79 w69.heap.size [(0, 0), (1, 11)] = C79_ at HM81 hs80
    replace HS := HS.trans hs80 hc rfl
    (try simp only [Act.put, List.setIfInBounds_toArray, List.set_cons_zero, List.set_cons_succ])
    refine on_guard (guard_on 5 true 8 rfl rfl rfl) ?_
    refine st (.bool (decide (t74 = 0))) rfl rfl (xr_bin (.int .u32 t74) (.int .u32 0) (.bool (decide (t74 = 0))) rfl rfl rfl (B.eql_u32 t74 0)) ?_
    simp only [List.set_cons_zero, List.set_cons_succ]
    refine st (.bool (decide (t74 = 0))) rfl rfl (xr_pick true (.bool (decide (t74 = 0))) rfl rfl rfl) ?_
    simp only [List.set_cons_zero, List.set_cons_succ]
    refine st (.bool (decide (t74 = 0))) rfl rfl (xr_move (.bool (decide (t74 = 0))) rfl rfl) ?_
    simp only [List.set_cons_zero, List.set_cons_succ]
    by_cases c82 : t74 = 0
    · rw [if_pos c82] at H
      (try rw [(decide_eq_true c82)])
      (try simp only [Bool.not_true, Bool.not_false])
      refine on_guard (guard_on 10 true 13 rfl rfl rfl) ?_
      refine st (v53) rfl rfl (xr_move (v53) rfl rfl) ?_
      simp only [List.set_cons_zero, List.set_cons_succ]
      refine on_guard (guard_on 10 true 13 rfl rfl rfl) ?_
      obtain ⟨t83, A84, H⟩ := Option.bind_eq_some_iff.mp H
      (try dsimp only at H)
      refine st_call #[v53] rfl rfl Try.func40 (by kernel_rfl) rfl rfl (by simp only [List.map_toArray, List.map_cons, List.map_nil]; first | done | rfl) ?_
      refine (crc_Summer_Calls.calls v53 t75 t83  (fun z_ => pal [(0, 0), (11, 0)] (C79_ z_)) w78 (fun _ => pal_lt rfl _) (Ft.arg HM81 rfl) A84).mono ?_
      rintro _ w86 ⟨C87, rfl, hs88⟩
      refine ⟨_, rfl, ?_⟩
      replace hs88 := Step.lift (U := [(0, 0)]) hs88 [] rfl rfl
      generalize up C79_ C87 w78.heap.size [(0, 0)] = C87_ at hs88
      replace HS := HS.trans hs88 hc rfl
      (try simp only [Act.put, List.setIfInBounds_toArray, List.set_cons_zero, List.set_cons_succ])
      refine on_guard (guard_on 10 true 13 rfl rfl rfl) ?_
      refine st (.bool (decide (t83 = 2))) rfl rfl (xr_bin (.int .i64 t83) (.int .i64 2) (.bool (decide (t83 = 2))) rfl rfl rfl (B.eql_i64 t83 2)) ?_
      simp only [List.set_cons_zero, List.set_cons_succ]
      refine st (.bool (decide (t83 = 2))) rfl rfl (xr_pick true (.bool (decide (t83 = 2))) rfl rfl rfl) ?_
      simp only [List.set_cons_zero, List.set_cons_succ]
      refine st (.bool (decide (t83 = 2))) rfl rfl (xr_assign (.bool (decide (t83 = 2))) rfl rfl) ?_
      simp only [List.set_cons_zero, List.set_cons_succ]
      refine wl_end ?_
      (try simp only [Act.put, List.setIfInBounds_toArray, List.set_cons_zero, List.set_cons_succ])
      refine hK55 _ _ ?_
      (try clear hK55 K55)
      refine wp_ret ?_
      (try simp only [Exit.inBlock, Exit.then])
      (try simp only [Act.put, List.setIfInBounds_toArray, List.set_cons_zero, List.set_cons_succ])
      obtain rfl := Option.some.inj H
      refine bodyPost_ret (results_tmp rfl _ _ _) rfl ?_
      exact ⟨_, rfl, HS⟩
    · rw [if_neg c82] at H
      (try rw [(decide_eq_false c82)])
      (try simp only [Bool.not_true, Bool.not_false])
      refine sk_guard (guard_off 10 true 13 rfl rfl false (by decide) rfl) rfl ?_
      simp only [List.set_cons_zero, List.set_cons_succ]
      refine sk_guard (guard_off 10 true 13 rfl rfl false (by decide) rfl) rfl ?_
      simp only [List.set_cons_zero, List.set_cons_succ]
      refine sk_guard (guard_off 10 true 13 rfl rfl false (by decide) rfl) rfl ?_
      simp only [List.set_cons_zero, List.set_cons_succ]
      refine st (.bool false) rfl rfl (xr_pick false (.bool false) rfl rfl rfl) ?_
      simp only [List.set_cons_zero, List.set_cons_succ]
      refine st (.bool false) rfl rfl (xr_assign (.bool false) rfl rfl) ?_
      simp only [List.set_cons_zero, List.set_cons_succ]
      refine wl_end ?_
      (try simp only [Act.put, List.setIfInBounds_toArray, List.set_cons_zero, List.set_cons_succ])
      refine hK55 _ _ ?_
      (try clear hK55 K55)
      refine wp_ret ?_
      (try simp only [Exit.inBlock, Exit.then])
      (try simp only [Act.put, List.setIfInBounds_toArray, List.set_cons_zero, List.set_cons_succ])
      obtain rfl := Option.some.inj H
      refine bodyPost_ret (results_tmp rfl _ _ _) rfl ?_
      exact ⟨_, rfl, HS⟩
  · rw [if_neg c73] at H
    (try rw [(decide_eq_false c73)])
    (try simp only [Bool.not_true, Bool.not_false])
    refine sk_guard (guard_off 5 true 8 rfl rfl false (by decide) rfl) rfl ?_
    simp only [List.set_cons_zero, List.set_cons_succ]
    refine sk_guard (guard_off 5 true 8 rfl rfl false (by decide) rfl) rfl ?_
    simp only [List.set_cons_zero, List.set_cons_succ]
    refine sk_guard (guard_off 5 true 8 rfl rfl false (by decide) rfl) rfl ?_
    simp only [List.set_cons_zero, List.set_cons_succ]
    refine st (.bool false) rfl rfl (xr_pick false (.bool false) rfl rfl rfl) ?_
    simp only [List.set_cons_zero, List.set_cons_succ]
    refine st (.bool false) rfl rfl (xr_move (.bool false) rfl rfl) ?_
    simp only [List.set_cons_zero, List.set_cons_succ]
    refine sk_guard (guard_off 10 true 13 rfl rfl false (by decide) rfl) rfl ?_
    simp only [List.set_cons_zero, List.set_cons_succ]
    refine sk_guard (guard_off 10 true 13 rfl rfl false (by decide) rfl) rfl ?_
    simp only [List.set_cons_zero, List.set_cons_succ]
    refine sk_guard (guard_off 10 true 13 rfl rfl false (by decide) rfl) rfl ?_
    simp only [List.set_cons_zero, List.set_cons_succ]
    refine st (.bool false) rfl rfl (xr_pick false (.bool false) rfl rfl rfl) ?_
    simp only [List.set_cons_zero, List.set_cons_succ]
    refine st (.bool false) rfl rfl (xr_assign (.bool false) rfl rfl) ?_
    simp only [List.set_cons_zero, List.set_cons_succ]
    refine wl_end ?_
    (try simp only [Act.put, List.setIfInBounds_toArray, List.set_cons_zero, List.set_cons_succ])
    refine hK55 _ _ ?_
    (try clear hK55 K55)
    refine wp_ret ?_
    (try simp only [Exit.inBlock, Exit.then])
    (try simp only [Act.put, List.setIfInBounds_toArray, List.set_cons_zero, List.set_cons_succ])
    obtain rfl := Option.some.inj H
    refine bodyPost_ret (results_tmp rfl _ _ _) rfl ?_
    exact ⟨_, rfl, HS⟩

/-! ### blazonref01_Pick: function 35 -/
def blazonref01_Pick.f (a0 : Int) (a1 : Int) : Option (Int) := if a1 < 1 then (some 0) else (if a1 = 0 then (none) else (if (Int.tmod a0 a1) < 0 then (some (wrap64 ((Int.tmod a0 a1) + a1))) else (some (Int.tmod a0 a1))))
set_option maxHeartbeats 2000000 in
set_option maxRecDepth 100000 in
theorem blazonref01_Pick.calls (a0 : Int) (a1 : Int) (r : Int) (c : Nat → Nat) (w : World) (hc : ∀ k, c k < 10)  (H : blazonref01_Pick.f a0 a1 = some r) :
    Calls Try.prog 35 #[.int .i64 a0, .int .i64 a1] w fun e w' => ∃ (c' : Nat → Nat) , e = .returned (.int .i64 r) ∧ Step c w c' w' [] := by
  unfold blazonref01_Pick.f at H
  have HS := Step.refl c w []
  go_enter Try.func35, Try.ntmps35
  refine wp_seq_k fun K101 hK101 => ?_
  refine wl_region ?_
  refine st (.int .i64 0) rfl rfl (xr_assign (.int .i64 0) rfl rfl) ?_
  simp only [List.set_cons_zero, List.set_cons_succ]
  refine wl_end ?_
  (try simp only [Act.put, List.setIfInBounds_toArray, List.set_cons_zero, List.set_cons_succ])
  refine hK101 _ _ ?_
  (try clear hK101 K101)
  refine wp_seq_k fun K102 hK102 => ?_
  refine wp_seq_k fun K103 hK103 => ?_
  refine wl_region ?_
  refine st (.int .i64 a1) rfl rfl (xr_move (.int .i64 a1) rfl rfl) ?_
  simp only [List.set_cons_zero, List.set_cons_succ]
  refine st (.bool (decide (a1 < 1))) rfl rfl (xr_bin (.int .i64 a1) (.int .i64 1) (.bool (decide (a1 < 1))) rfl rfl rfl (B.lss_i64 a1 1)) ?_
  simp only [List.set_cons_zero, List.set_cons_succ]
  refine wl_end ?_
  (try simp only [Act.put, List.setIfInBounds_toArray, List.set_cons_zero, List.set_cons_succ])
  refine hK103 _ _ ?_
  (try clear hK103 K103)
  by_cases c104 : a1 < 1
  · rw [if_pos c104] at H
    (try rw [(decide_eq_true c104)])
    (try simp only [Bool.not_true, Bool.not_false])
    refine wp_cond_true rfl ?_
    refine wp_seq_k fun K105 hK105 => ?_
    refine wl_region ?_
    refine st (.int .i64 0) rfl rfl (xr_assign (.int .i64 0) rfl rfl) ?_
    simp only [List.set_cons_zero, List.set_cons_succ]
    refine wl_end ?_
    (try simp only [Act.put, List.setIfInBounds_toArray, List.set_cons_zero, List.set_cons_succ])
    refine hK105 _ _ ?_
    (try clear hK105 K105)
    refine wp_ret ?_
    (try simp only [Exit.inBlock, Exit.then])
    (try simp only [Act.put, List.setIfInBounds_toArray, List.set_cons_zero, List.set_cons_succ])
    obtain rfl := Option.some.inj H
    refine bodyPost_ret (results_tmp rfl _ _ _) rfl ?_
    exact ⟨_, rfl, HS⟩
  · rw [if_neg c104] at H
    (try rw [(decide_eq_false c104)])
    (try simp only [Bool.not_true, Bool.not_false])
    refine wp_cond_false rfl ?_
    refine wp_skip ?_
    (try simp only [Act.put, List.setIfInBounds_toArray, List.set_cons_zero, List.set_cons_succ])
    refine hK102 _ _ ?_
    (try clear hK102 K102)
    refine wp_seq_k fun K106 hK106 => ?_
    refine wl_region ?_
    refine st (.int .i64 a0) rfl rfl (xr_move (.int .i64 a0) rfl rfl) ?_
    simp only [List.set_cons_zero, List.set_cons_succ]
    refine st (.int .i64 a1) rfl rfl (xr_move (.int .i64 a1) rfl rfl) ?_
    simp only [List.set_cons_zero, List.set_cons_succ]
    by_cases c107 : a1 = 0
    · rw [if_pos c107] at H
      exact absurd H (by simp)
    · rw [if_neg c107] at H
      refine st (.int .i64 (Int.tmod a0 a1)) rfl rfl (xr_bin (.int .i64 a0) (.int .i64 a1) (.int .i64 (Int.tmod a0 a1)) rfl rfl rfl (B.rem_i64 a0 a1 (by assumption))) ?_
      simp only [List.set_cons_zero, List.set_cons_succ]
      refine st (.int .i64 (Int.tmod a0 a1)) rfl rfl (xr_assign (.int .i64 (Int.tmod a0 a1)) rfl rfl) ?_
      simp only [List.set_cons_zero, List.set_cons_succ]
      refine wl_end ?_
      (try simp only [Act.put, List.setIfInBounds_toArray, List.set_cons_zero, List.set_cons_succ])
      refine hK106 _ _ ?_
      (try clear hK106 K106)
      refine wp_seq_k fun K108 hK108 => ?_
      refine wp_seq_k fun K109 hK109 => ?_
      refine wl_region ?_
      refine st (.int .i64 (Int.tmod a0 a1)) rfl rfl (xr_move (.int .i64 (Int.tmod a0 a1)) rfl rfl) ?_
      simp only [List.set_cons_zero, List.set_cons_succ]
      refine st (.bool (decide ((Int.tmod a0 a1) < 0))) rfl rfl (xr_bin (.int .i64 (Int.tmod a0 a1)) (.int .i64 0) (.bool (decide ((Int.tmod a0 a1) < 0))) rfl rfl rfl (B.lss_i64 (Int.tmod a0 a1) 0)) ?_
      simp only [List.set_cons_zero, List.set_cons_succ]
      refine wl_end ?_
      (try simp only [Act.put, List.setIfInBounds_toArray, List.set_cons_zero, List.set_cons_succ])
      refine hK109 _ _ ?_
      (try clear hK109 K109)
      by_cases c110 : (Int.tmod a0 a1) < 0
      · rw [if_pos c110] at H
        (try rw [(decide_eq_true c110)])
        (try simp only [Bool.not_true, Bool.not_false])
        refine wp_cond_true rfl ?_
        refine wl_region ?_
        refine st (.int .i64 (Int.tmod a0 a1)) rfl rfl (xr_move (.int .i64 (Int.tmod a0 a1)) rfl rfl) ?_
        simp only [List.set_cons_zero, List.set_cons_succ]
        refine st (.int .i64 a1) rfl rfl (xr_move (.int .i64 a1) rfl rfl) ?_
        simp only [List.set_cons_zero, List.set_cons_succ]
        refine st (.int .i64 (wrap64 ((Int.tmod a0 a1) + a1))) rfl rfl (xr_bin (.int .i64 (Int.tmod a0 a1)) (.int .i64 a1) (.int .i64 (wrap64 ((Int.tmod a0 a1) + a1))) rfl rfl rfl (B.add_i64 (Int.tmod a0 a1) a1)) ?_
        simp only [List.set_cons_zero, List.set_cons_succ]
        refine st (.int .i64 (wrap64 ((Int.tmod a0 a1) + a1))) rfl rfl (xr_assign (.int .i64 (wrap64 ((Int.tmod a0 a1) + a1))) rfl rfl) ?_
        simp only [List.set_cons_zero, List.set_cons_succ]
        refine wl_end ?_
        (try simp only [Act.put, List.setIfInBounds_toArray, List.set_cons_zero, List.set_cons_succ])
        refine hK108 _ _ ?_
        (try clear hK108 K108)
        refine wp_seq_k fun K111 hK111 => ?_
        refine wl_region ?_
        refine st (.int .i64 (wrap64 ((Int.tmod a0 a1) + a1))) rfl rfl (xr_move (.int .i64 (wrap64 ((Int.tmod a0 a1) + a1))) rfl rfl) ?_
        simp only [List.set_cons_zero, List.set_cons_succ]
        refine st (.int .i64 (wrap64 ((Int.tmod a0 a1) + a1))) rfl rfl (xr_assign (.int .i64 (wrap64 ((Int.tmod a0 a1) + a1))) rfl rfl) ?_
        simp only [List.set_cons_zero, List.set_cons_succ]
        refine wl_end ?_
        (try simp only [Act.put, List.setIfInBounds_toArray, List.set_cons_zero, List.set_cons_succ])
        refine hK111 _ _ ?_
        (try clear hK111 K111)
        refine wp_ret ?_
        (try simp only [Exit.inBlock, Exit.then])
        (try simp only [Act.put, List.setIfInBounds_toArray, List.set_cons_zero, List.set_cons_succ])
        obtain rfl := Option.some.inj H
        refine bodyPost_ret (results_tmp rfl _ _ _) rfl ?_
        exact ⟨_, rfl, HS⟩
      · rw [if_neg c110] at H
        (try rw [(decide_eq_false c110)])
        (try simp only [Bool.not_true, Bool.not_false])
        refine wp_cond_false rfl ?_
        refine wp_skip ?_
        (try simp only [Act.put, List.setIfInBounds_toArray, List.set_cons_zero, List.set_cons_succ])
        refine hK108 _ _ ?_
        (try clear hK108 K108)
        refine wp_seq_k fun K112 hK112 => ?_
        refine wl_region ?_
        refine st (.int .i64 (Int.tmod a0 a1)) rfl rfl (xr_move (.int .i64 (Int.tmod a0 a1)) rfl rfl) ?_
        simp only [List.set_cons_zero, List.set_cons_succ]
        refine st (.int .i64 (Int.tmod a0 a1)) rfl rfl (xr_assign (.int .i64 (Int.tmod a0 a1)) rfl rfl) ?_
        simp only [List.set_cons_zero, List.set_cons_succ]
        refine wl_end ?_
        (try simp only [Act.put, List.setIfInBounds_toArray, List.set_cons_zero, List.set_cons_succ])
        refine hK112 _ _ ?_
        (try clear hK112 K112)
        refine wp_ret ?_
        (try simp only [Exit.inBlock, Exit.then])
        (try simp only [Act.put, List.setIfInBounds_toArray, List.set_cons_zero, List.set_cons_succ])
        obtain rfl := Option.some.inj H
        refine bodyPost_ret (results_tmp rfl _ _ _) rfl ?_
        exact ⟨_, rfl, HS⟩

/-! ### crc_Summer_More: function 38 -/
def crc_Summer_More.f (x0 : Option Int) (a1 : Int) (l2 : List Int) : Option (Int × Option Int) := match x0 with
  | none => some (0, none)
  | some n => if l2.length ≤ 1000000 ∧ 0 ≤ n ∧ n ≤ 1000000 then some (Crc.flip (Crc.stepsF (Crc.flip a1) l2), some (n + 1)) else none
theorem crc_Summer_More.calls (v0 : Value) (x0 : Option Int) (a1 : Int) (A2 : Option Addr) (c2 : Nat) (l2 : List Int) (r1 : Int) (r2 : Option Int) (c : Nat → Nat) (w : World) (hc : ∀ k, c k < 10) (HP0 : Ft c [1] w (fun w_ => Crc.SumO w_ v0 x0)) (HP2 : Ft c [0] w (fun w_ => (Kd.int .u8).C w_ A2 l2.length l2)) (HCP2 : l2.length ≤ c2) (H : crc_Summer_More.f x0 a1 l2 = some (r1, r2)) :
    Calls Try.prog 38 #[v0, .int .u32 a1, .slice A2 l2.length c2] w fun e w' => ∃ (c' : Nat → Nat), e = .returned (.int .u32 r1) ∧ Step c w c' w' [1] ∧ Ft c' [1] w' (fun w_ => Crc.SumO w_ v0 r2) := by
  unfold crc_Summer_More.f at H
  cases x0 with
  | none =>
    simp only [Option.some.injEq, Prod.mk.injEq] at H
    obtain ⟨rfl, rfl⟩ := H
    obtain rfl : v0 = .pointer none := HP0.now
    refine (Crc.nil_more _ _ w).mono ?_
    rintro e w' ⟨he, rfl⟩
    exact ⟨c, he, Step.refl _ _ _, Crc.SumO.nil _ _ _⟩
  | some n =>
    dsimp only at H
    by_cases e1 : l2.length ≤ 1000000 ∧ 0 ≤ n ∧ n ≤ 1000000
    · rw [if_pos e1] at H
      simp only [Option.some.injEq, Prod.mk.injEq] at H
      obtain ⟨rfl, rfl⟩ := H
      obtain ⟨g, cs, rfl, hb, hv, hC⟩ := Crc.SumO.open HP0
      replace hC : c g = 1 := by simpa using hC
      refine (Crc.more_calls g n a1 A2 c2 l2 w (Crc.sum_of hb hv) e1.2 e1.1 (fun w' ho => Crc.read_only hC (by decide) HP2 w' ho)).mono ?_
      rintro e w' ⟨he, hs, ho⟩
      obtain ⟨cs', hb'⟩ := ho.kept cs hb
      exact ⟨c, he, Crc.Step.only ho hC, Crc.SumO.ft hb' (Crc.inv_of hb' hs) hC⟩
    · rw [if_neg e1] at H
      cases H

/-! ### blazonlaw02_CrcParts: function 10 -/
def blazonlaw02_CrcParts.f (l0 : List Int) (a1 : Int) : Option (Bool) := if (l0.length : Int) > 1000 then ((blazonlaw02_awake.f).bind fun t220 => (some t220)) else ((crc_New.f).bind fun t227 => ((blazonref01_Pick.f a1 (wrap64 ((l0.length : Int) + 1))).bind fun t236 => (if 0 ≤ t236 then (if t236 ≤ (l0.length : Int) then ((some (l0.take (t236 : Int).toNat : List Int)).bind fun y247 => ((some (l0.drop (t236 : Int).toNat : List Int)).bind fun y255 => ((crc_Summer_Of.f t227 y247).bind fun bt263 => ((crc_Summer_More.f bt263.2 bt263.1 y255).bind fun bt271 => ((crc_Summer_Of.f bt271.2 l0).bind fun bt279 => (if bt271.1 = bt279.1 then ((crc_Summer_Of.f (none : Option Int) l0).bind fun bt288 => (if bt288.1 = 0 then ((crc_Summer_More.f (none : Option Int) 1 l0).bind fun bt296 => (if bt296.1 = 0 then ((crc_Summer_Calls.f (none : Option Int)).bind fun t304 => (if t304 = 0 then ((blazonlaw02_awake.f).bind fun t311 => (some t311)) else (some false))) else (some false))) else (some false))) else (some false))))))) else (none)) else (none))))
set_option maxHeartbeats 2000000 in
set_option maxRecDepth 100000 in
theorem blazonlaw02_CrcParts.calls (A0 : Option Addr) (c0 : Nat) (l0 : List Int) (a1 : Int) (r : Bool) (c : Nat → Nat) (w : World) (hc : ∀ k, c k < 10) (HP0 : Ft c [0] w (fun w_ => (Kd.int .u8).C w_ A0 l0.length l0)) (HCP0 : l0.length ≤ c0) (H : blazonlaw02_CrcParts.f l0 a1 = some r) :
    Calls Try.prog 10 #[.slice A0 l0.length c0, .int .i64 a1] w fun e w' => ∃ (c' : Nat → Nat) , e = .returned (.bool r) ∧ Step c w c' w' [] := by
  unfold blazonlaw02_CrcParts.f at H
  have HS := Step.refl c w []
  go_enter Try.func10, Try.ntmps10
  refine wp_seq_k fun K215 hK215 => ?_
  refine wl_region ?_
  refine st (.bool false) rfl rfl (xr_assign (.bool false) rfl rfl) ?_
  simp only [List.set_cons_zero, List.set_cons_succ]
  refine wl_end ?_
  (try simp only [Act.put, List.setIfInBounds_toArray, List.set_cons_zero, List.set_cons_succ])
  refine hK215 _ _ ?_
  (try clear hK215 K215)
  refine wp_seq_k fun K216 hK216 => ?_
  refine wp_seq_k fun K217 hK217 => ?_
  refine wl_region ?_
  refine st (.slice A0 l0.length c0) rfl rfl (xr_move (.slice A0 l0.length c0) rfl rfl) ?_
  simp only [List.set_cons_zero, List.set_cons_succ]
  refine st (.int .i64 (l0.length : Int)) rfl rfl (xr_builtin #[.slice A0 l0.length c0] (.int .i64 (l0.length : Int)) rfl (by simp only [List.map_toArray, List.map_cons, List.map_nil]; first | done | rfl) (by first | rfl | (go_simp; done) | (go_simp; rfl) | (go_simp; exact i64_w _) | (go_simp; exact i32_w _))) ?_
  simp only [List.set_cons_zero, List.set_cons_succ]
  refine st (.bool (decide ((l0.length : Int) > 1000))) rfl rfl (xr_bin (.int .i64 (l0.length : Int)) (.int .i64 1000) (.bool (decide ((l0.length : Int) > 1000))) rfl rfl rfl (B.gtr_i64 (l0.length : Int) 1000)) ?_
  simp only [List.set_cons_zero, List.set_cons_succ]
  refine wl_end ?_
  (try simp only [Act.put, List.setIfInBounds_toArray, List.set_cons_zero, List.set_cons_succ])
  refine hK217 _ _ ?_
  (try clear hK217 K217)
  by_cases c218 : (l0.length : Int) > 1000
  · rw [if_pos c218] at H
    (try rw [(decide_eq_true c218)])
    (try simp only [Bool.not_true, Bool.not_false])
    refine wp_cond_true rfl ?_
    refine wp_seq_k fun K219 hK219 => ?_
    refine wl_region ?_
    obtain ⟨t220, A221, H⟩ := Option.bind_eq_some_iff.mp H
    (try dsimp only at H)
    refine st_call #[] rfl rfl Try.func33 (by kernel_rfl) rfl rfl (by simp only [List.map_toArray, List.map_cons, List.map_nil]; first | done | rfl) ?_
    refine (blazonlaw02_awake.calls t220  (fun z_ => pal [(0, 0)] (c z_)) w (fun _ => pal_lt rfl _) A221).mono ?_
    rintro _ w223 ⟨C224, rfl, hs225⟩
    refine ⟨_, rfl, ?_⟩
    replace hs225 := Step.lift (U := [(0, 0)]) hs225 [] rfl rfl
    generalize up c C224 w.heap.size [(0, 0)] = C224_ at hs225
    replace HS := HS.trans hs225 hc rfl
    (try simp only [Act.put, List.setIfInBounds_toArray, List.set_cons_zero, List.set_cons_succ])
    refine st (.bool t220) rfl rfl (xr_assign (.bool t220) rfl rfl) ?_
    simp only [List.set_cons_zero, List.set_cons_succ]
    refine wl_end ?_
    (try simp only [Act.put, List.setIfInBounds_toArray, List.set_cons_zero, List.set_cons_succ])
    refine hK219 _ _ ?_
    (try clear hK219 K219)
    refine wp_ret ?_
    (try simp only [Exit.inBlock, Exit.then])
    (try simp only [Act.put, List.setIfInBounds_toArray, List.set_cons_zero, List.set_cons_succ])
    obtain rfl := Option.some.inj H
    refine bodyPost_ret (results_tmp rfl _ _ _) rfl ?_
    exact ⟨_, rfl, HS⟩
  · rw [if_neg c218] at H
    (try rw [(decide_eq_false c218)])
    (try simp only [Bool.not_true, Bool.not_false])
    refine wp_cond_false rfl ?_
    refine wp_skip ?_
    (try simp only [Act.put, List.setIfInBounds_toArray, List.set_cons_zero, List.set_cons_succ])
    refine hK216 _ _ ?_
    (try clear hK216 K216)
    refine wp_seq_k fun K226 hK226 => ?_
    refine wl_region ?_
    obtain ⟨t227, A228, H⟩ := Option.bind_eq_some_iff.mp H
    (try dsimp only at H)
    refine st_call #[] rfl rfl Try.func34 (by kernel_rfl) rfl rfl (by simp only [List.map_toArray, List.map_cons, List.map_nil]; first | done | rfl) ?_
    refine (crc_New.calls t227  (fun z_ => pal [(0, 0)] (c z_)) w (fun _ => pal_lt rfl _) A228).mono ?_
    rintro _ w230 ⟨C231, v233, rfl, hs232, HB234⟩
    refine ⟨_, rfl, ?_⟩
    replace HB234 := Ft.res (U := [(0, 0), (5, 11)]) HB234 hs232 [11] rfl rfl rfl
    replace hs232 := Step.lift (U := [(0, 0), (5, 11)]) hs232 [] rfl rfl
    generalize up c C231 w.heap.size [(0, 0), (5, 11)] = C231_ at HB234 hs232
    replace HP0 := HP0.thru hs232 rfl
    replace HS := HS.trans hs232 hc rfl
    (try simp only [Act.put, List.setIfInBounds_toArray, List.set_cons_zero, List.set_cons_succ])
    refine st (v233) rfl rfl (xr_assign (v233) rfl rfl) ?_
    simp only [List.set_cons_zero, List.set_cons_succ]
    refine wl_end ?_
    (try simp only [Act.put, List.setIfInBounds_toArray, List.set_cons_zero, List.set_cons_succ])
    refine hK226 _ _ ?_
    (try clear hK226 K226)
    refine wp_seq_k fun K235 hK235 => ?_
    refine wl_region ?_
    refine st (.int .i64 a1) rfl rfl (xr_move (.int .i64 a1) rfl rfl) ?_
    simp only [List.set_cons_zero, List.set_cons_succ]
    refine st (.slice A0 l0.length c0) rfl rfl (xr_move (.slice A0 l0.length c0) rfl rfl) ?_
    simp only [List.set_cons_zero, List.set_cons_succ]
    refine st (.int .i64 (l0.length : Int)) rfl rfl (xr_builtin #[.slice A0 l0.length c0] (.int .i64 (l0.length : Int)) rfl (by simp only [List.map_toArray, List.map_cons, List.map_nil]; first | done | rfl) (by first | rfl | (go_simp; done) | (go_simp; rfl) | (go_simp; exact i64_w _) | (go_simp; exact i32_w _))) ?_
    simp only [List.set_cons_zero, List.set_cons_succ]
    refine st (.int .i64 (wrap64 ((l0.length : Int) + 1))) rfl rfl (xr_bin (.int .i64 (l0.length : Int)) (.int .i64 1) (.int .i64 (wrap64 ((l0.length : Int) + 1))) rfl rfl rfl (B.add_i64 (l0.length : Int) 1)) ?_
    simp only [List.set_cons_zero, List.set_cons_succ]
    obtain ⟨t236, A237, H⟩ := Option.bind_eq_some_iff.mp H
    (try dsimp only at H)
    refine st_call #[.int .i64 a1, .int .i64 (wrap64 ((l0.length : Int) + 1))] rfl rfl Try.func35 (by kernel_rfl) rfl rfl (by simp only [List.map_toArray, List.map_cons, List.map_nil]; first | done | rfl) ?_
    refine (blazonref01_Pick.calls a1 (wrap64 ((l0.length : Int) + 1)) t236  (fun z_ => pal [(0, 0)] (C231_ z_)) w230 (fun _ => pal_lt rfl _) A237).mono ?_
    rintro _ w239 ⟨C240, rfl, hs241⟩
    refine ⟨_, rfl, ?_⟩
    replace hs241 := Step.lift (U := [(0, 0)]) hs241 [] rfl rfl
    generalize up C231_ C240 w230.heap.size [(0, 0)] = C240_ at hs241
    replace HP0 := HP0.thru hs241 rfl
    replace HB234 := HB234.thru hs241 rfl
    replace HS := HS.trans hs241 hc rfl
    (try simp only [Act.put, List.setIfInBounds_toArray, List.set_cons_zero, List.set_cons_succ])
    refine st (.int .i64 t236) rfl rfl (xr_assign (.int .i64 t236) rfl rfl) ?_
    simp only [List.set_cons_zero, List.set_cons_succ]
    refine wl_end ?_
    (try simp only [Act.put, List.setIfInBounds_toArray, List.set_cons_zero, List.set_cons_succ])
    refine hK235 _ _ ?_
    (try clear hK235 K235)
    refine wp_seq_k fun K242 hK242 => ?_
    refine wl_region ?_
    refine st (.pointer none) rfl rfl (xr_assign (.pointer none) rfl rfl) ?_
    simp only [List.set_cons_zero, List.set_cons_succ]
    refine wl_end ?_
    (try simp only [Act.put, List.setIfInBounds_toArray, List.set_cons_zero, List.set_cons_succ])
    refine hK242 _ _ ?_
    (try clear hK242 K242)
    refine wp_seq_k fun K243 hK243 => ?_
    (try simp only [Act.put, List.setIfInBounds_toArray, List.set_cons_zero, List.set_cons_succ])
    refine al_start #[false, false, false, false, false, false, false, false, false, false, false, false, false, false, false, false, false, false, false, false, false, false, false, false, false, false, false, false, false, false, false, false, false, false, false] rfl rfl rfl (fun w_ => True) trivial ?_
    replace HP0 := HP0.drew
    replace HB234 := HB234.drew
    replace HS := Step.ofDrew HS
    generalize w239.drew = w244 at *
    refine al_pure 0 18 (v233) #[true, false, false, false, false, false, false, false, false, false, false, false, false, false, false, false, false, false, false, false, false, false, false, false, false, false, false, false, false, false, false, false, false, false, false] rfl rfl (by kernel_rfl) (fun _ _ _ h_ => h_) rfl (fun w_ => xr_move (v233) rfl rfl) ?_
    simp only [List.set_cons_zero, List.set_cons_succ]
    refine al_pure 1 19 (v233) #[true, true, false, false, false, false, false, false, false, false, false, false, false, false, false, false, false, false, false, false, false, false, false, false, false, false, false, false, false, false, false, false, false, false, false] rfl rfl (by kernel_rfl) (fun _ _ _ h_ => h_) rfl (fun w_ => xr_move (v233) rfl rfl) ?_
    simp only [List.set_cons_zero, List.set_cons_succ]
    refine al_pure 2 20 (.slice A0 l0.length c0) #[true, true, true, false, false, false, false, false, false, false, false, false, false, false, false, false, false, false, false, false, false, false, false, false, false, false, false, false, false, false, false, false, false, false, false] rfl rfl (by kernel_rfl) (fun _ _ _ h_ => h_) rfl (fun w_ => xr_move (.slice A0 l0.length c0) rfl rfl) ?_
    simp only [List.set_cons_zero, List.set_cons_succ]
    refine al_pure 3 21 (.int .i64 t236) #[true, true, true, true, false, false, false, false, false, false, false, false, false, false, false, false, false, false, false, false, false, false, false, false, false, false, false, false, false, false, false, false, false, false, false] rfl rfl (by kernel_rfl) (fun _ _ _ h_ => h_) rfl (fun w_ => xr_move (.int .i64 t236) rfl rfl) ?_
    simp only [List.set_cons_zero, List.set_cons_succ]
    by_cases c245 : 0 ≤ t236
    · rw [if_pos c245] at H
      by_cases c246 : t236 ≤ (l0.length : Int)
      · rw [if_pos c246] at H
        obtain ⟨y247, A248, H⟩ := Option.bind_eq_some_iff.mp H
        (try dsimp only at H)
        obtain ⟨iz254, hiz254, _, hzz254, _⟩ := info_parts info5
        obtain ⟨hr253, HR251, HC252⟩ := cutTo (t := 23) (Kd.int .u8) 5 .i64 Try.underlying23 hiz254 HP0 HCP0 (by first | assumption | omega | decide) (by first | assumption | omega | decide) (Option.some.inj A248)
        refine al_pure 4 22 (.slice A0 y247.length c0) #[true, true, true, true, true, false, false, false, false, false, false, false, false, false, false, false, false, false, false, false, false, false, false, false, false, false, false, false, false, false, false, false, false, false, false] rfl rfl (by kernel_rfl) (fun _ _ _ h_ => h_) rfl (fun w_ => xr_slice (.slice A0 l0.length c0) none (some (.int .i64 t236)) none (.slice A0 y247.length c0) rfl rfl rfl rfl rfl (hr253 _)) ?_
        simp only [List.set_cons_zero, List.set_cons_succ]
        clear hr253 hiz254 hzz254
        refine al_pure 6 24 (.slice A0 l0.length c0) #[true, true, true, true, true, false, true, false, false, false, false, false, false, false, false, false, false, false, false, false, false, false, false, false, false, false, false, false, false, false, false, false, false, false, false] rfl rfl (by kernel_rfl) (fun _ _ _ h_ => h_) rfl (fun w_ => xr_move (.slice A0 l0.length c0) rfl rfl) ?_
        simp only [List.set_cons_zero, List.set_cons_succ]
        refine al_pure 7 25 (.int .i64 t236) #[true, true, true, true, true, false, true, true, false, false, false, false, false, false, false, false, false, false, false, false, false, false, false, false, false, false, false, false, false, false, false, false, false, false, false] rfl rfl (by kernel_rfl) (fun _ _ _ h_ => h_) rfl (fun w_ => xr_move (.int .i64 t236) rfl rfl) ?_
        simp only [List.set_cons_zero, List.set_cons_succ]
        obtain ⟨y255, A256, H⟩ := Option.bind_eq_some_iff.mp H
        (try dsimp only at H)
        obtain ⟨iz262, hiz262, _, hzz262, _⟩ := info_parts info5
        obtain ⟨A257, cp258, hr261, HR259, HC260⟩ := cutFrom (t := 23) (Kd.int .u8) 5 .i64 Try.underlying23 hiz262 hzz262 HP0 HCP0 (by first | assumption | omega | decide) (by first | assumption | omega | decide) (Option.some.inj A256)
        refine al_pure 8 26 (.slice A257 y255.length cp258) #[true, true, true, true, true, false, true, true, true, false, false, false, false, false, false, false, false, false, false, false, false, false, false, false, false, false, false, false, false, false, false, false, false, false, false] rfl rfl (by kernel_rfl) (fun _ _ _ h_ => h_) rfl (fun w_ => xr_slice (.slice A0 l0.length c0) (some (.int .i64 t236)) none none (.slice A257 y255.length cp258) rfl rfl rfl rfl rfl (hr261 _)) ?_
        simp only [List.set_cons_zero, List.set_cons_succ]
        clear hr261 hiz262 hzz262
        refine al_pure 10 28 (v233) #[true, true, true, true, true, false, true, true, true, false, true, false, false, false, false, false, false, false, false, false, false, false, false, false, false, false, false, false, false, false, false, false, false, false, false] rfl rfl (by kernel_rfl) (fun _ _ _ h_ => h_) rfl (fun w_ => xr_move (v233) rfl rfl) ?_
        simp only [List.set_cons_zero, List.set_cons_succ]
        refine al_pure 11 29 (.slice A0 l0.length c0) #[true, true, true, true, true, false, true, true, true, false, true, true, false, false, false, false, false, false, false, false, false, false, false, false, false, false, false, false, false, false, false, false, false, false, false] rfl rfl (by kernel_rfl) (fun _ _ _ h_ => h_) rfl (fun w_ => xr_move (.slice A0 l0.length c0) rfl rfl) ?_
        simp only [List.set_cons_zero, List.set_cons_succ]
        obtain ⟨⟨t263, t264⟩, A265, H⟩ := Option.bind_eq_some_iff.mp H
        (try dsimp only at H)
        refine al_one 5 #[true, true, true, true, true, true, true, true, true, false, true, true, false, false, false, false, false, false, false, false, false, false, false, false, false, false, false, false, false, false, false, false, false, false, false] rfl rfl (by kernel_rfl) (fun K_ hK_ => ?_)
        refine goes_ Try.func36 (by kernel_rfl) rfl #[v233, .slice A0 y247.length c0] rfl rfl rfl (by rw [map_ev]; simp only [List.map_toArray, List.map_cons, List.map_nil]; first | done | rfl) ?_
        refine (crc_Summer_Of.calls v233 t227 A0 c0 y247 t263 t264  (fun z_ => pal [(0, 0), (11, 1)] (C240_ z_)) w244 (fun _ => pal_lt rfl _) (Ft.arg HB234 rfl) (Ft.arg HR251 rfl) HC252 A265).mono ?_
        rintro _ w267 ⟨C268, rfl, hs269, HM270⟩
        refine ⟨_, rfl, ?_⟩
        replace HM270 := Ft.res (U := [(0, 0), (1, 11)]) HM270 hs269 [11] rfl rfl rfl
        replace hs269 := Step.lift (U := [(0, 0), (1, 11)]) hs269 [11] rfl rfl
        generalize up C240_ C268 w244.heap.size [(0, 0), (1, 11)] = C268_ at HM270 hs269
        replace HP0 := HP0.thru hs269 rfl
        replace HR259 := HR259.thru hs269 rfl
        replace HS := HS.trans hs269 hc rfl
        refine hK_ _ _ trivial ?_
        clear hK_ K_
        (try simp only [Act.put, List.setIfInBounds_toArray, List.set_cons_zero, List.set_cons_succ])
        obtain ⟨⟨t271, t272⟩, A273, H⟩ := Option.bind_eq_some_iff.mp H
        (try dsimp only at H)
        refine al_one 9 #[true, true, true, true, true, true, true, true, true, true, true, true, false, false, false, false, false, false, false, false, false, false, false, false, false, false, false, false, false, false, false, false, false, false, false] rfl rfl (by kernel_rfl) (fun K_ hK_ => ?_)
        refine goes_ Try.func38 (by kernel_rfl) rfl #[v233, .int .u32 t263, .slice A257 y255.length cp258] rfl rfl rfl (by rw [map_ev]; simp only [List.map_toArray, List.map_cons, List.map_nil]; first | done | rfl) ?_
        refine (crc_Summer_More.calls v233 t264 t263 A257 cp258 y255 t271 t272  (fun z_ => pal [(0, 0), (11, 1)] (C268_ z_)) w267 (fun _ => pal_lt rfl _) (Ft.arg HM270 rfl) (Ft.arg HR259 rfl) HC260 A273).mono ?_
        rintro _ w275 ⟨C276, rfl, hs277, HM278⟩
        refine ⟨_, rfl, ?_⟩
        replace HM278 := Ft.res (U := [(0, 0), (1, 11)]) HM278 hs277 [11] rfl rfl rfl
        replace hs277 := Step.lift (U := [(0, 0), (1, 11)]) hs277 [11] rfl rfl
        generalize up C268_ C276 w267.heap.size [(0, 0), (1, 11)] = C276_ at HM278 hs277
        replace HP0 := HP0.thru hs277 rfl
        replace HS := HS.trans hs277 hc rfl
        refine hK_ _ _ trivial ?_
        clear hK_ K_
        (try simp only [Act.put, List.setIfInBounds_toArray, List.set_cons_zero, List.set_cons_succ])
        obtain ⟨⟨t279, t280⟩, A281, H⟩ := Option.bind_eq_some_iff.mp H
        (try dsimp only at H)
        refine al_one 12 #[true, true, true, true, true, true, true, true, true, true, true, true, true, false, false, false, false, false, false, false, false, false, false, false, false, false, false, false, false, false, false, false, false, false, false] rfl rfl (by kernel_rfl) (fun K_ hK_ => ?_)
        refine goes_ Try.func36 (by kernel_rfl) rfl #[v233, .slice A0 l0.length c0] rfl rfl rfl (by rw [map_ev]; simp only [List.map_toArray, List.map_cons, List.map_nil]; first | done | rfl) ?_
        refine (crc_Summer_Of.calls v233 t272 A0 c0 l0 t279 t280  (fun z_ => pal [(0, 0), (11, 1)] (C276_ z_)) w275 (fun _ => pal_lt rfl _) (Ft.arg HM278 rfl) (Ft.arg HP0 rfl) HCP0 A281).mono ?_
        rintro _ w283 ⟨C284, rfl, hs285, HM286⟩
        refine ⟨_, rfl, ?_⟩
        replace HM286 := Ft.res (U := [(0, 0), (1, 11)]) HM286 hs285 [11] rfl rfl rfl
        replace hs285 := Step.lift (U := [(0, 0), (1, 11)]) hs285 [11] rfl rfl
        generalize up C276_ C284 w275.heap.size [(0, 0), (1, 11)] = C284_ at HM286 hs285
        replace HP0 := HP0.thru hs285 rfl
        replace HS := HS.trans hs285 hc rfl
        refine hK_ _ _ trivial ?_
        clear hK_ K_
        (try simp only [Act.put, List.setIfInBounds_toArray, List.set_cons_zero, List.set_cons_succ])
        refine al_pure 13 31 (.bool (decide (t271 = t279))) #[true, true, true, true, true, true, true, true, true, true, true, true, true, true, false, false, false, false, false, false, false, false, false, false, false, false, false, false, false, false, false, false, false, false, false] rfl rfl (by kernel_rfl) (fun _ _ _ h_ => h_) rfl (fun w_ => xr_bin (.int .u32 t271) (.int .u32 t279) (.bool (decide (t271 = t279))) rfl rfl rfl (B.eql_u32 t271 t279)) ?_
        simp only [List.set_cons_zero, List.set_cons_succ]
        refine al_pure 14 32 (.bool (decide (t271 = t279))) #[true, true, true, true, true, true, true, true, true, true, true, true, true, true, true, false, false, false, false, false, false, false, false, false, false, false, false, false, false, false, false, false, false, false, false] rfl rfl (by kernel_rfl) (fun _ _ _ h_ => h_) rfl (fun w_ => xr_move (.bool (decide (t271 = t279))) rfl rfl) ?_
        simp only [List.set_cons_zero, List.set_cons_succ]
        by_cases c287 : t271 = t279
        · rw [if_pos c287] at H
          (try rw [(decide_eq_true c287)])
          (try simp only [Bool.not_true, Bool.not_false])
          refine al_pure 15 33 (.pointer none) #[true, true, true, true, true, true, true, true, true, true, true, true, true, true, true, true, false, false, false, false, false, false, false, false, false, false, false, false, false, false, false, false, false, false, false] rfl rfl (by kernel_rfl) (fun _ _ _ h_ => h_) (guard_on 14 true 32 rfl rfl rfl) (fun w_ => xr_move (.pointer none) rfl rfl) ?_
          simp only [List.set_cons_zero, List.set_cons_succ]
          refine al_pure 16 34 (.slice A0 l0.length c0) #[true, true, true, true, true, true, true, true, true, true, true, true, true, true, true, true, true, false, false, false, false, false, false, false, false, false, false, false, false, false, false, false, false, false, false] rfl rfl (by kernel_rfl) (fun _ _ _ h_ => h_) (guard_on 14 true 32 rfl rfl rfl) (fun w_ => xr_move (.slice A0 l0.length c0) rfl rfl) ?_
          simp only [List.set_cons_zero, List.set_cons_succ]
          obtain ⟨⟨t288, t289⟩, A290, H⟩ := Option.bind_eq_some_iff.mp H
          (try dsimp only at H)
          refine al_one 17 #[true, true, true, true, true, true, true, true, true, true, true, true, true, true, true, true, true, true, false, false, false, false, false, false, false, false, false, false, false, false, false, false, false, false, false] rfl rfl (by kernel_rfl) (fun K_ hK_ => ?_)
          refine goes_ Try.func36 (by kernel_rfl) rfl #[.pointer none, .slice A0 l0.length c0] (guard_on 14 true 32 rfl rfl rfl) rfl rfl (by rw [map_ev]; simp only [List.map_toArray, List.map_cons, List.map_nil]; first | done | rfl) ?_
          refine (crc_Summer_Of.calls (.pointer none) (none : Option Int) A0 c0 l0 t288 t289  (fun z_ => pal [(0, 0)] (C284_ z_)) w283 (fun _ => pal_lt rfl _) (Crc.SumO.nil _ _ _) (Ft.arg HP0 rfl) HCP0 A290).mono ?_
          rintro _ w292 ⟨C293, rfl, hs294, _⟩
          refine ⟨_, rfl, ?_⟩
          replace hs294 := Step.lift (U := [(0, 0)]) hs294 [] rfl rfl
          generalize up C284_ C293 w283.heap.size [(0, 0)] = C293_ at hs294
          replace HP0 := HP0.thru hs294 rfl
          replace HS := HS.trans hs294 hc rfl
          refine hK_ _ _ trivial ?_
          clear hK_ K_
          (try simp only [Act.put, List.setIfInBounds_toArray, List.set_cons_zero, List.set_cons_succ])
          refine al_pure 18 36 (.bool (decide (t288 = 0))) #[true, true, true, true, true, true, true, true, true, true, true, true, true, true, true, true, true, true, true, false, false, false, false, false, false, false, false, false, false, false, false, false, false, false, false] rfl rfl (by kernel_rfl) (fun _ _ _ h_ => h_) (guard_on 14 true 32 rfl rfl rfl) (fun w_ => xr_bin (.int .u32 t288) (.int .u32 0) (.bool (decide (t288 = 0))) rfl rfl rfl (B.eql_u32 t288 0)) ?_
          simp only [List.set_cons_zero, List.set_cons_succ]
          refine al_pure 19 37 (.bool (decide (t288 = 0))) #[true, true, true, true, true, true, true, true, true, true, true, true, true, true, true, true, true, true, true, true, false, false, false, false, false, false, false, false, false, false, false, false, false, false, false] rfl rfl (by kernel_rfl) (fun _ _ _ h_ => h_) rfl (fun w_ => xr_pick true (.bool (decide (t288 = 0))) rfl rfl rfl) ?_
          simp only [List.set_cons_zero, List.set_cons_succ]
          refine al_pure 20 38 (.bool (decide (t288 = 0))) #[true, true, true, true, true, true, true, true, true, true, true, true, true, true, true, true, true, true, true, true, true, false, false, false, false, false, false, false, false, false, false, false, false, false, false] rfl rfl (by kernel_rfl) (fun _ _ _ h_ => h_) rfl (fun w_ => xr_move (.bool (decide (t288 = 0))) rfl rfl) ?_
          simp only [List.set_cons_zero, List.set_cons_succ]
          by_cases c295 : t288 = 0
          · rw [if_pos c295] at H
            (try rw [(decide_eq_true c295)])
            (try simp only [Bool.not_true, Bool.not_false])
            refine al_pure 21 39 (.pointer none) #[true, true, true, true, true, true, true, true, true, true, true, true, true, true, true, true, true, true, true, true, true, true, false, false, false, false, false, false, false, false, false, false, false, false, false] rfl rfl (by kernel_rfl) (fun _ _ _ h_ => h_) (guard_on 20 true 38 rfl rfl rfl) (fun w_ => xr_move (.pointer none) rfl rfl) ?_
            simp only [List.set_cons_zero, List.set_cons_succ]
            refine al_pure 22 40 (.slice A0 l0.length c0) #[true, true, true, true, true, true, true, true, true, true, true, true, true, true, true, true, true, true, true, true, true, true, true, false, false, false, false, false, false, false, false, false, false, false, false] rfl rfl (by kernel_rfl) (fun _ _ _ h_ => h_) (guard_on 20 true 38 rfl rfl rfl) (fun w_ => xr_move (.slice A0 l0.length c0) rfl rfl) ?_
            simp only [List.set_cons_zero, List.set_cons_succ]
            obtain ⟨⟨t296, t297⟩, A298, H⟩ := Option.bind_eq_some_iff.mp H
            (try dsimp only at H)
            refine al_one 23 #[true, true, true, true, true, true, true, true, true, true, true, true, true, true, true, true, true, true, true, true, true, true, true, true, false, false, false, false, false, false, false, false, false, false, false] rfl rfl (by kernel_rfl) (fun K_ hK_ => ?_)
            refine goes_ Try.func38 (by kernel_rfl) rfl #[.pointer none, .int .u32 1, .slice A0 l0.length c0] (guard_on 20 true 38 rfl rfl rfl) rfl rfl (by rw [map_ev]; simp only [List.map_toArray, List.map_cons, List.map_nil]; first | done | rfl) ?_
            refine (crc_Summer_More.calls (.pointer none) (none : Option Int) 1 A0 c0 l0 t296 t297  (fun z_ => pal [(0, 0)] (C293_ z_)) w292 (fun _ => pal_lt rfl _) (Crc.SumO.nil _ _ _) (Ft.arg HP0 rfl) HCP0 A298).mono ?_
            rintro _ w300 ⟨C301, rfl, hs302, _⟩
            refine ⟨_, rfl, ?_⟩
            replace hs302 := Step.lift (U := [(0, 0)]) hs302 [] rfl rfl
            generalize up C293_ C301 w292.heap.size [(0, 0)] = C301_ at hs302
            replace HS := HS.trans hs302 hc rfl
            refine hK_ _ _ trivial ?_
            clear hK_ K_
            (try simp only [Act.put, List.setIfInBounds_toArray, List.set_cons_zero, List.set_cons_succ])
            refine al_pure 24 42 (.bool (decide (t296 = 0))) #[true, true, true, true, true, true, true, true, true, true, true, true, true, true, true, true, true, true, true, true, true, true, true, true, true, false, false, false, false, false, false, false, false, false, false] rfl rfl (by kernel_rfl) (fun _ _ _ h_ => h_) (guard_on 20 true 38 rfl rfl rfl) (fun w_ => xr_bin (.int .u32 t296) (.int .u32 0) (.bool (decide (t296 = 0))) rfl rfl rfl (B.eql_u32 t296 0)) ?_
            simp only [List.set_cons_zero, List.set_cons_succ]
            refine al_pure 25 43 (.bool (decide (t296 = 0))) #[true, true, true, true, true, true, true, true, true, true, true, true, true, true, true, true, true, true, true, true, true, true, true, true, true, true, false, false, false, false, false, false, false, false, false] rfl rfl (by kernel_rfl) (fun _ _ _ h_ => h_) rfl (fun w_ => xr_pick true (.bool (decide (t296 = 0))) rfl rfl rfl) ?_
            simp only [List.set_cons_zero, List.set_cons_succ]
            refine al_pure 26 44 (.bool (decide (t296 = 0))) #[true, true, true, true, true, true, true, true, true, true, true, true, true, true, true, true, true, true, true, true, true, true, true, true, true, true, true, false, false, false, false, false, false, false, false] rfl rfl (by kernel_rfl) (fun _ _ _ h_ => h_) rfl (fun w_ => xr_move (.bool (decide (t296 = 0))) rfl rfl) ?_
            simp only [List.set_cons_zero, List.set_cons_succ]
            by_cases c303 : t296 = 0
            · rw [if_pos c303] at H
              (try rw [(decide_eq_true c303)])
              (try simp only [Bool.not_true, Bool.not_false])
              refine al_pure 27 45 (.pointer none) #[true, true, true, true, true, true, true, true, true, true, true, true, true, true, true, true, true, true, true, true, true, true, true, true, true, true, true, true, false, false, false, false, false, false, false] rfl rfl (by kernel_rfl) (fun _ _ _ h_ => h_) (guard_on 26 true 44 rfl rfl rfl) (fun w_ => xr_move (.pointer none) rfl rfl) ?_
              simp only [List.set_cons_zero, List.set_cons_succ]
              obtain ⟨t304, A305, H⟩ := Option.bind_eq_some_iff.mp H
              (try dsimp only at H)
              refine al_one 28 #[true, true, true, true, true, true, true, true, true, true, true, true, true, true, true, true, true, true, true, true, true, true, true, true, true, true, true, true, true, false, false, false, false, false, false] rfl rfl (by kernel_rfl) (fun K_ hK_ => ?_)
              refine goes_ Try.func40 (by kernel_rfl) rfl #[.pointer none] (guard_on 26 true 44 rfl rfl rfl) rfl rfl (by rw [map_ev]; simp only [List.map_toArray, List.map_cons, List.map_nil]; first | done | rfl) ?_
              refine (crc_Summer_Calls.calls (.pointer none) (none : Option Int) t304  (fun z_ => pal [(0, 0)] (C301_ z_)) w300 (fun _ => pal_lt rfl _) (Crc.SumO.nil _ _ _) A305).mono ?_
              rintro _ w307 ⟨C308, rfl, hs309⟩
              refine ⟨_, rfl, ?_⟩
              replace hs309 := Step.lift (U := [(0, 0)]) hs309 [] rfl rfl
              generalize up C301_ C308 w300.heap.size [(0, 0)] = C308_ at hs309
              replace HS := HS.trans hs309 hc rfl
              refine hK_ _ _ trivial ?_
              clear hK_ K_
              (try simp only [Act.put, List.setIfInBounds_toArray, List.set_cons_zero, List.set_cons_succ])
              refine al_pure 29 47 (.bool (decide (t304 = 0))) #[true, true, true, true, true, true, true, true, true, true, true, true, true, true, true, true, true, true, true, true, true, true, true, true, true, true, true, true, true, true, false, false, false, false, false] rfl rfl (by kernel_rfl) (fun _ _ _ h_ => h_) (guard_on 26 true 44 rfl rfl rfl) (fun w_ => xr_bin (.int .i64 t304) (.int .i64 0) (.bool (decide (t304 = 0))) rfl rfl rfl (B.eql_i64 t304 0)) ?_
              simp only [List.set_cons_zero, List.set_cons_succ]
              refine al_pure 30 48 (.bool (decide (t304 = 0))) #[true, true, true, true, true, true, true, true, true, true, true, true, true, true, true, true, true, true, true, true, true, true, true, true, true, true, true, true, true, true, true, false, false, false, false] rfl rfl (by kernel_rfl) (fun _ _ _ h_ => h_) rfl (fun w_ => xr_pick true (.bool (decide (t304 = 0))) rfl rfl rfl) ?_
              simp only [List.set_cons_zero, List.set_cons_succ]
              refine al_pure 31 49 (.bool (decide (t304 = 0))) #[true, true, true, true, true, true, true, true, true, true, true, true, true, true, true, true, true, true, true, true, true, true, true, true, true, true, true, true, true, true, true, true, false, false, false] rfl rfl (by kernel_rfl) (fun _ _ _ h_ => h_) rfl (fun w_ => xr_move (.bool (decide (t304 = 0))) rfl rfl) ?_
              simp only [List.set_cons_zero, List.set_cons_succ]
              by_cases c310 : t304 = 0
              · rw [if_pos c310] at H
                (try rw [(decide_eq_true c310)])
                (try simp only [Bool.not_true, Bool.not_false])
                obtain ⟨t311, A312, H⟩ := Option.bind_eq_some_iff.mp H
                (try dsimp only at H)
                refine al_one 32 #[true, true, true, true, true, true, true, true, true, true, true, true, true, true, true, true, true, true, true, true, true, true, true, true, true, true, true, true, true, true, true, true, true, false, false] rfl rfl (by kernel_rfl) (fun K_ hK_ => ?_)
                refine goes_ Try.func33 (by kernel_rfl) rfl #[] (guard_on 31 true 49 rfl rfl rfl) rfl rfl (by rw [map_ev]; simp only [List.map_toArray, List.map_cons, List.map_nil]; first | done | rfl) ?_
                refine (blazonlaw02_awake.calls t311  (fun z_ => pal [(0, 0)] (C308_ z_)) w307 (fun _ => pal_lt rfl _) A312).mono ?_
                rintro _ w314 ⟨C315, rfl, hs316⟩
                refine ⟨_, rfl, ?_⟩
                replace hs316 := Step.lift (U := [(0, 0)]) hs316 [] rfl rfl
                generalize up C308_ C315 w307.heap.size [(0, 0)] = C315_ at hs316
                replace HS := HS.trans hs316 hc rfl
                refine hK_ _ _ trivial ?_
                clear hK_ K_
                (try simp only [Act.put, List.setIfInBounds_toArray, List.set_cons_zero, List.set_cons_succ])
                refine al_pure 33 51 (.bool t311) #[true, true, true, true, true, true, true, true, true, true, true, true, true, true, true, true, true, true, true, true, true, true, true, true, true, true, true, true, true, true, true, true, true, true, false] rfl rfl (by kernel_rfl) (fun _ _ _ h_ => h_) rfl (fun w_ => xr_pick true (.bool t311) rfl rfl rfl) ?_
                simp only [List.set_cons_zero, List.set_cons_succ]
                refine al_pure 34 4 (.bool t311) #[true, true, true, true, true, true, true, true, true, true, true, true, true, true, true, true, true, true, true, true, true, true, true, true, true, true, true, true, true, true, true, true, true, true, true] rfl rfl (by kernel_rfl) (fun _ _ _ h_ => h_) rfl (fun w_ => xr_assign (.bool t311) rfl rfl) ?_
                simp only [List.set_cons_zero, List.set_cons_succ]
                refine al_end (by kernel_rfl) ?_
                (try simp only [Act.put, List.setIfInBounds_toArray, List.set_cons_zero, List.set_cons_succ])
                refine hK243 _ _ ?_
                (try clear hK243 K243)
                refine wp_ret ?_
                (try simp only [Exit.inBlock, Exit.then])
                (try simp only [Act.put, List.setIfInBounds_toArray, List.set_cons_zero, List.set_cons_succ])
                obtain rfl := Option.some.inj H
                refine bodyPost_ret (results_tmp rfl _ _ _) rfl ?_
                exact ⟨_, rfl, HS⟩
              · rw [if_neg c310] at H
                (try rw [(decide_eq_false c310)])
                (try simp only [Bool.not_true, Bool.not_false])
                refine al_off 32 50 #[true, true, true, true, true, true, true, true, true, true, true, true, true, true, true, true, true, true, true, true, true, true, true, true, true, true, true, true, true, true, true, true, true, false, false] rfl rfl (by kernel_rfl) (fun _ _ _ h_ => h_) (guard_off 31 true 49 rfl rfl false (by decide) rfl) ?_
                simp only [List.set_cons_zero, List.set_cons_succ]
                refine al_pure 33 51 (.bool false) #[true, true, true, true, true, true, true, true, true, true, true, true, true, true, true, true, true, true, true, true, true, true, true, true, true, true, true, true, true, true, true, true, true, true, false] rfl rfl (by kernel_rfl) (fun _ _ _ h_ => h_) rfl (fun w_ => xr_pick false (.bool false) rfl rfl rfl) ?_
                simp only [List.set_cons_zero, List.set_cons_succ]
                refine al_pure 34 4 (.bool false) #[true, true, true, true, true, true, true, true, true, true, true, true, true, true, true, true, true, true, true, true, true, true, true, true, true, true, true, true, true, true, true, true, true, true, true] rfl rfl (by kernel_rfl) (fun _ _ _ h_ => h_) rfl (fun w_ => xr_assign (.bool false) rfl rfl) ?_
                simp only [List.set_cons_zero, List.set_cons_succ]
                refine al_end (by kernel_rfl) ?_
                (try simp only [Act.put, List.setIfInBounds_toArray, List.set_cons_zero, List.set_cons_succ])
                refine hK243 _ _ ?_
                (try clear hK243 K243)
                refine wp_ret ?_
                (try simp only [Exit.inBlock, Exit.then])
                (try simp only [Act.put, List.setIfInBounds_toArray, List.set_cons_zero, List.set_cons_succ])
                obtain rfl := Option.some.inj H
                refine bodyPost_ret (results_tmp rfl _ _ _) rfl ?_
                exact ⟨_, rfl, HS⟩
            · rw [if_neg c303] at H
              (try rw [(decide_eq_false c303)])
              (try simp only [Bool.not_true, Bool.not_false])
              refine al_off 27 45 #[true, true, true, true, true, true, true, true, true, true, true, true, true, true, true, true, true, true, true, true, true, true, true, true, true, true, true, true, false, false, false, false, false, false, false] rfl rfl (by kernel_rfl) (fun _ _ _ h_ => h_) (guard_off 26 true 44 rfl rfl false (by decide) rfl) ?_
              simp only [List.set_cons_zero, List.set_cons_succ]
              refine al_off 28 46 #[true, true, true, true, true, true, true, true, true, true, true, true, true, true, true, true, true, true, true, true, true, true, true, true, true, true, true, true, true, false, false, false, false, false, false] rfl rfl (by kernel_rfl) (fun _ _ _ h_ => h_) (guard_off 26 true 44 rfl rfl false (by decide) rfl) ?_
              simp only [List.set_cons_zero, List.set_cons_succ]
              refine al_off 29 47 #[true, true, true, true, true, true, true, true, true, true, true, true, true, true, true, true, true, true, true, true, true, true, true, true, true, true, true, true, true, true, false, false, false, false, false] rfl rfl (by kernel_rfl) (fun _ _ _ h_ => h_) (guard_off 26 true 44 rfl rfl false (by decide) rfl) ?_
              simp only [List.set_cons_zero, List.set_cons_succ]
              refine al_pure 30 48 (.bool false) #[true, true, true, true, true, true, true, true, true, true, true, true, true, true, true, true, true, true, true, true, true, true, true, true, true, true, true, true, true, true, true, false, false, false, false] rfl rfl (by kernel_rfl) (fun _ _ _ h_ => h_) rfl (fun w_ => xr_pick false (.bool false) rfl rfl rfl) ?_
              simp only [List.set_cons_zero, List.set_cons_succ]
              refine al_pure 31 49 (.bool false) #[true, true, true, true, true, true, true, true, true, true, true, true, true, true, true, true, true, true, true, true, true, true, true, true, true, true, true, true, true, true, true, true, false, false, false] rfl rfl (by kernel_rfl) (fun _ _ _ h_ => h_) rfl (fun w_ => xr_move (.bool false) rfl rfl) ?_
              simp only [List.set_cons_zero, List.set_cons_succ]
              refine al_off 32 50 #[true, true, true, true, true, true, true, true, true, true, true, true, true, true, true, true, true, true, true, true, true, true, true, true, true, true, true, true, true, true, true, true, true, false, false] rfl rfl (by kernel_rfl) (fun _ _ _ h_ => h_) (guard_off 31 true 49 rfl rfl false (by decide) rfl) ?_
              simp only [List.set_cons_zero, List.set_cons_succ]
              refine al_pure 33 51 (.bool false) #[true, true, true, true, true, true, true, true, true, true, true, true, true, true, true, true, true, true, true, true, true, true, true, true, true, true, true, true, true, true, true, true, true, true, false] rfl rfl (by kernel_rfl) (fun _ _ _ h_ => h_) rfl (fun w_ => xr_pick false (.bool false) rfl rfl rfl) ?_
              simp only [List.set_cons_zero, List.set_cons_succ]
              refine al_pure 34 4 (.bool false) #[true, true, true, true, true, true, true, true, true, true, true, true, true, true, true, true, true, true, true, true, true, true, true, true, true, true, true, true, true, true, true, true, true, true, true] rfl rfl (by kernel_rfl) (fun _ _ _ h_ => h_) rfl (fun w_ => xr_assign (.bool false) rfl rfl) ?_
              simp only [List.set_cons_zero, List.set_cons_succ]
              refine al_end (by kernel_rfl) ?_
              (try simp only [Act.put, List.setIfInBounds_toArray, List.set_cons_zero, List.set_cons_succ])
              refine hK243 _ _ ?_
              (try clear hK243 K243)
              refine wp_ret ?_
              (try simp only [Exit.inBlock, Exit.then])
              (try simp only [Act.put, List.setIfInBounds_toArray, List.set_cons_zero, List.set_cons_succ])
              obtain rfl := Option.some.inj H
              refine bodyPost_ret (results_tmp rfl _ _ _) rfl ?_
              exact ⟨_, rfl, HS⟩
          · rw [if_neg c295] at H
            (try rw [(decide_eq_false c295)])
            (try simp only [Bool.not_true, Bool.not_false])
            refine al_off 21 39 #[true, true, true, true, true, true, true, true, true, true, true, true, true, true, true, true, true, true, true, true, true, true, false, false, false, false, false, false, false, false, false, false, false, false, false] rfl rfl (by kernel_rfl) (fun _ _ _ h_ => h_) (guard_off 20 true 38 rfl rfl false (by decide) rfl) ?_
            simp only [List.set_cons_zero, List.set_cons_succ]
            refine al_off 22 40 #[true, true, true, true, true, true, true, true, true, true, true, true, true, true, true, true, true, true, true, true, true, true, true, false, false, false, false, false, false, false, false, false, false, false, false] rfl rfl (by kernel_rfl) (fun _ _ _ h_ => h_) (guard_off 20 true 38 rfl rfl false (by decide) rfl) ?_
            simp only [List.set_cons_zero, List.set_cons_succ]
            refine al_off 23 41 #[true, true, true, true, true, true, true, true, true, true, true, true, true, true, true, true, true, true, true, true, true, true, true, true, false, false, false, false, false, false, false, false, false, false, false] rfl rfl (by kernel_rfl) (fun _ _ _ h_ => h_) (guard_off 20 true 38 rfl rfl false (by decide) rfl) ?_
            simp only [List.set_cons_zero, List.set_cons_succ]
            refine al_off 24 42 #[true, true, true, true, true, true, true, true, true, true, true, true, true, true, true, true, true, true, true, true, true, true, true, true, true, false, false, false, false, false, false, false, false, false, false] rfl rfl (by kernel_rfl) (fun _ _ _ h_ => h_) (guard_off 20 true 38 rfl rfl false (by decide) rfl) ?_
            simp only [List.set_cons_zero, List.set_cons_succ]
            refine al_pure 25 43 (.bool false) #[true, true, true, true, true, true, true, true, true, true, true, true, true, true, true, true, true, true, true, true, true, true, true, true, true, true, false, false, false, false, false, false, false, false, false] rfl rfl (by kernel_rfl) (fun _ _ _ h_ => h_) rfl (fun w_ => xr_pick false (.bool false) rfl rfl rfl) ?_
            simp only [List.set_cons_zero, List.set_cons_succ]
            refine al_pure 26 44 (.bool false) #[true, true, true, true, true, true, true, true, true, true, true, true, true, true, true, true, true, true, true, true, true, true, true, true, true, true, true, false, false, false, false, false, false, false, false] rfl rfl (by kernel_rfl) (fun _ _ _ h_ => h_) rfl (fun w_ => xr_move (.bool false) rfl rfl) ?_
            simp only [List.set_cons_zero, List.set_cons_succ]
            refine al_off 27 45 #[true, true, true, true, true, true, true, true, true, true, true, true, true, true, true, true, true, true, true, true, true, true, true, true, true, true, true, true, false, false, false, false, false, false, false] rfl rfl (by kernel_rfl) (fun _ _ _ h_ => h_) (guard_off 26 true 44 rfl rfl false (by decide) rfl) ?_
            simp only [List.set_cons_zero, List.set_cons_succ]
            refine al_off 28 46 #[true, true, true, true, true, true, true, true, true, true, true, true, true, true, true, true, true, true, true, true, true, true, true, true, true, true, true, true, true, false, false, false, false, false, false] rfl rfl (by kernel_rfl) (fun _ _ _ h_ => h_) (guard_off 26 true 44 rfl rfl false (by decide) rfl) ?_
            simp only [List.set_cons_zero, List.set_cons_succ]
            refine al_off 29 47 #[true, true, true, true, true, true, true, true, true, true, true, true, true, true, true, true, true, true, true, true, true, true, true, true, true, true, true, true, true, true, false, false, false, false, false] rfl rfl (by kernel_rfl) (fun _ _ _ h_ => h_) (guard_off 26 true 44 rfl rfl false (by decide) rfl) ?_
            simp only [List.set_cons_zero, List.set_cons_succ]
            refine al_pure 30 48 (.bool false) #[true, true, true, true, true, true, true, true, true, true, true, true, true, true, true, true, true, true, true, true, true, true, true, true, true, true, true, true, true, true, true, false, false, false, false] rfl rfl (by kernel_rfl) (fun _ _ _ h_ => h_) rfl (fun w_ => xr_pick false (.bool false) rfl rfl rfl) ?_
            simp only [List.set_cons_zero, List.set_cons_succ]
            refine al_pure 31 49 (.bool false) #[true, true, true, true, true, true, true, true, true, true, true, true, true, true, true, true, true, true, true, true, true, true, true, true, true, true, true, true, true, true, true, true, false, false, false] rfl rfl (by kernel_rfl) (fun _ _ _ h_ => h_) rfl (fun w_ => xr_move (.bool false) rfl rfl) ?_
            simp only [List.set_cons_zero, List.set_cons_succ]
            refine al_off 32 50 #[true, true, true, true, true, true, true, true, true, true, true, true, true, true, true, true, true, true, true, true, true, true, true, true, true, true, true, true, true, true, true, true, true, false, false] rfl rfl (by kernel_rfl) (fun _ _ _ h_ => h_) (guard_off 31 true 49 rfl rfl false (by decide) rfl) ?_
            simp only [List.set_cons_zero, List.set_cons_succ]
            refine al_pure 33 51 (.bool false) #[true, true, true, true, true, true, true, true, true, true, true, true, true, true, true, true, true, true, true, true, true, true, true, true, true, true, true, true, true, true, true, true, true, true, false] rfl rfl (by kernel_rfl) (fun _ _ _ h_ => h_) rfl (fun w_ => xr_pick false (.bool false) rfl rfl rfl) ?_
            simp only [List.set_cons_zero, List.set_cons_succ]
            refine al_pure 34 4 (.bool false) #[true, true, true, true, true, true, true, true, true, true, true, true, true, true, true, true, true, true, true, true, true, true, true, true, true, true, true, true, true, true, true, true, true, true, true] rfl rfl (by kernel_rfl) (fun _ _ _ h_ => h_) rfl (fun w_ => xr_assign (.bool false) rfl rfl) ?_
            simp only [List.set_cons_zero, List.set_cons_succ]
            refine al_end (by kernel_rfl) ?_
            (try simp only [Act.put, List.setIfInBounds_toArray, List.set_cons_zero, List.set_cons_succ])
            refine hK243 _ _ ?_
            (try clear hK243 K243)
            refine wp_ret ?_
            (try simp only [Exit.inBlock, Exit.then])
            (try simp only [Act.put, List.setIfInBounds_toArray, List.set_cons_zero, List.set_cons_succ])
            obtain rfl := Option.some.inj H
            refine bodyPost_ret (results_tmp rfl _ _ _) rfl ?_
            exact ⟨_, rfl, HS⟩
        · rw [if_neg c287] at H
          (try rw [(decide_eq_false c287)])
          (try simp only [Bool.not_true, Bool.not_false])
          refine al_off 15 33 #[true, true, true, true, true, true, true, true, true, true, true, true, true, true, true, true, false, false, false, false, false, false, false, false, false, false, false, false, false, false, false, false, false, false, false] rfl rfl (by kernel_rfl) (fun _ _ _ h_ => h_) (guard_off 14 true 32 rfl rfl false (by decide) rfl) ?_
          simp only [List.set_cons_zero, List.set_cons_succ]
          refine al_off 16 34 #[true, true, true, true, true, true, true, true, true, true, true, true, true, true, true, true, true, false, false, false, false, false, false, false, false, false, false, false, false, false, false, false, false, false, false] rfl rfl (by kernel_rfl) (fun _ _ _ h_ => h_) (guard_off 14 true 32 rfl rfl false (by decide) rfl) ?_
          simp only [List.set_cons_zero, List.set_cons_succ]
          refine al_off 17 35 #[true, true, true, true, true, true, true, true, true, true, true, true, true, true, true, true, true, true, false, false, false, false, false, false, false, false, false, false, false, false, false, false, false, false, false] rfl rfl (by kernel_rfl) (fun _ _ _ h_ => h_) (guard_off 14 true 32 rfl rfl false (by decide) rfl) ?_
          simp only [List.set_cons_zero, List.set_cons_succ]
          refine al_off 18 36 #[true, true, true, true, true, true, true, true, true, true, true, true, true, true, true, true, true, true, true, false, false, false, false, false, false, false, false, false, false, false, false, false, false, false, false] rfl rfl (by kernel_rfl) (fun _ _ _ h_ => h_) (guard_off 14 true 32 rfl rfl false (by decide) rfl) ?_
          simp only [List.set_cons_zero, List.set_cons_succ]
          refine al_pure 19 37 (.bool false) #[true, true, true, true, true, true, true, true, true, true, true, true, true, true, true, true, true, true, true, true, false, false, false, false, false, false, false, false, false, false, false, false, false, false, false] rfl rfl (by kernel_rfl) (fun _ _ _ h_ => h_) rfl (fun w_ => xr_pick false (.bool false) rfl rfl rfl) ?_
          simp only [List.set_cons_zero, List.set_cons_succ]
          refine al_pure 20 38 (.bool false) #[true, true, true, true, true, true, true, true, true, true, true, true, true, true, true, true, true, true, true, true, true, false, false, false, false, false, false, false, false, false, false, false, false, false, false] rfl rfl (by kernel_rfl) (fun _ _ _ h_ => h_) rfl (fun w_ => xr_move (.bool false) rfl rfl) ?_
          simp only [List.set_cons_zero, List.set_cons_succ]
          refine al_off 21 39 #[true, true, true, true, true, true, true, true, true, true, true, true, true, true, true, true, true, true, true, true, true, true, false, false, false, false, false, false, false, false, false, false, false, false, false] rfl rfl (by kernel_rfl) (fun _ _ _ h_ => h_) (guard_off 20 true 38 rfl rfl false (by decide) rfl) ?_
          simp only [List.set_cons_zero, List.set_cons_succ]
          refine al_off 22 40 #[true, true, true, true, true, true, true, true, true, true, true, true, true, true, true, true, true, true, true, true, true, true, true, false, false, false, false, false, false, false, false, false, false, false, false] rfl rfl (by kernel_rfl) (fun _ _ _ h_ => h_) (guard_off 20 true 38 rfl rfl false (by decide) rfl) ?_
          simp only [List.set_cons_zero, List.set_cons_succ]
          refine al_off 23 41 #[true, true, true, true, true, true, true, true, true, true, true, true, true, true, true, true, true, true, true, true, true, true, true, true, false, false, false, false, false, false, false, false, false, false, false] rfl rfl (by kernel_rfl) (fun _ _ _ h_ => h_) (guard_off 20 true 38 rfl rfl false (by decide) rfl) ?_
          simp only [List.set_cons_zero, List.set_cons_succ]
          refine al_off 24 42 #[true, true, true, true, true, true, true, true, true, true, true, true, true, true, true, true, true, true, true, true, true, true, true, true, true, false, false, false, false, false, false, false, false, false, false] rfl rfl (by kernel_rfl) (fun _ _ _ h_ => h_) (guard_off 20 true 38 rfl rfl false (by decide) rfl) ?_
          simp only [List.set_cons_zero, List.set_cons_succ]
          refine al_pure 25 43 (.bool false) #[true, true, true, true, true, true, true, true, true, true, true, true, true, true, true, true, true, true, true, true, true, true, true, true, true, true, false, false, false, false, false, false, false, false, false] rfl rfl (by kernel_rfl) (fun _ _ _ h_ => h_) rfl (fun w_ => xr_pick false (.bool false) rfl rfl rfl) ?_
          simp only [List.set_cons_zero, List.set_cons_succ]
          refine al_pure 26 44 (.bool false) #[true, true, true, true, true, true, true, true, true, true, true, true, true, true, true, true, true, true, true, true, true, true, true, true, true, true, true, false, false, false, false, false, false, false, false] rfl rfl (by kernel_rfl) (fun _ _ _ h_ => h_) rfl (fun w_ => xr_move (.bool false) rfl rfl) ?_
          simp only [List.set_cons_zero, List.set_cons_succ]
          refine al_off 27 45 #[true, true, true, true, true, true, true, true, true, true, true, true, true, true, true, true, true, true, true, true, true, true, true, true, true, true, true, true, false, false, false, false, false, false, false] rfl rfl (by kernel_rfl) (fun _ _ _ h_ => h_) (guard_off 26 true 44 rfl rfl false (by decide) rfl) ?_
          simp only [List.set_cons_zero, List.set_cons_succ]
          refine al_off 28 46 #[true, true, true, true, true, true, true, true, true, true, true, true, true, true, true, true, true, true, true, true, true, true, true, true, true, true, true, true, true, false, false, false, false, false, false] rfl rfl (by kernel_rfl) (fun _ _ _ h_ => h_) (guard_off 26 true 44 rfl rfl false (by decide) rfl) ?_
          simp only [List.set_cons_zero, List.set_cons_succ]
          refine al_off 29 47 #[true, true, true, true, true, true, true, true, true, true, true, true, true, true, true, true, true, true, true, true, true, true, true, true, true, true, true, true, true, true, false, false, false, false, false] rfl rfl (by kernel_rfl) (fun _ _ _ h_ => h_) (guard_off 26 true 44 rfl rfl false (by decide) rfl) ?_
          simp only [List.set_cons_zero, List.set_cons_succ]
          refine al_pure 30 48 (.bool false) #[true, true, true, true, true, true, true, true, true, true, true, true, true, true, true, true, true, true, true, true, true, true, true, true, true, true, true, true, true, true, true, false, false, false, false] rfl rfl (by kernel_rfl) (fun _ _ _ h_ => h_) rfl (fun w_ => xr_pick false (.bool false) rfl rfl rfl) ?_
          simp only [List.set_cons_zero, List.set_cons_succ]
          refine al_pure 31 49 (.bool false) #[true, true, true, true, true, true, true, true, true, true, true, true, true, true, true, true, true, true, true, true, true, true, true, true, true, true, true, true, true, true, true, true, false, false, false] rfl rfl (by kernel_rfl) (fun _ _ _ h_ => h_) rfl (fun w_ => xr_move (.bool false) rfl rfl) ?_
          simp only [List.set_cons_zero, List.set_cons_succ]
          refine al_off 32 50 #[true, true, true, true, true, true, true, true, true, true, true, true, true, true, true, true, true, true, true, true, true, true, true, true, true, true, true, true, true, true, true, true, true, false, false] rfl rfl (by kernel_rfl) (fun _ _ _ h_ => h_) (guard_off 31 true 49 rfl rfl false (by decide) rfl) ?_
          simp only [List.set_cons_zero, List.set_cons_succ]
          refine al_pure 33 51 (.bool false) #[true, true, true, true, true, true, true, true, true, true, true, true, true, true, true, true, true, true, true, true, true, true, true, true, true, true, true, true, true, true, true, true, true, true, false] rfl rfl (by kernel_rfl) (fun _ _ _ h_ => h_) rfl (fun w_ => xr_pick false (.bool false) rfl rfl rfl) ?_
          simp only [List.set_cons_zero, List.set_cons_succ]
          refine al_pure 34 4 (.bool false) #[true, true, true, true, true, true, true, true, true, true, true, true, true, true, true, true, true, true, true, true, true, true, true, true, true, true, true, true, true, true, true, true, true, true, true] rfl rfl (by kernel_rfl) (fun _ _ _ h_ => h_) rfl (fun w_ => xr_assign (.bool false) rfl rfl) ?_
          simp only [List.set_cons_zero, List.set_cons_succ]
          refine al_end (by kernel_rfl) ?_
          (try simp only [Act.put, List.setIfInBounds_toArray, List.set_cons_zero, List.set_cons_succ])
          refine hK243 _ _ ?_
          (try clear hK243 K243)
          refine wp_ret ?_
          (try simp only [Exit.inBlock, Exit.then])
          (try simp only [Act.put, List.setIfInBounds_toArray, List.set_cons_zero, List.set_cons_succ])
          obtain rfl := Option.some.inj H
          refine bodyPost_ret (results_tmp rfl _ _ _) rfl ?_
          exact ⟨_, rfl, HS⟩
      · rw [if_neg c246] at H
        exact absurd H (by simp)
    · rw [if_neg c245] at H
      exact absurd H (by simp)
/-- THE ONE PURE STATEMENT of blazonlaw02_CrcParts. -/
def blazonlaw02_CrcParts.Pure : Prop := ∀ (l0 : List Int) (a1 : Int), l0.length ≤ maxLen → l0.length * 1 ≤ 140737488351232 → (∀ x ∈ l0, (Lit.int .u8 x).wf = true) → (Lit.int .i64 a1).wf = true → blazonlaw02_CrcParts.f l0 a1 = some true
theorem blazonlaw02_CrcParts.walk (P : blazonlaw02_CrcParts.Pure) (a0 : Option Addr) (len0 cap0 : Nat) (z0 : List Int) (a1 : Int) (w : World) (w0 : (a0 = none ∧ len0 = 0 ∧ cap0 = 0 ∧ z0 = []) ∨ ∃ x, a0 = some x ∧ len0 ≤ cap0 ∧ cap0 ≤ maxLen ∧ z0.length = cap0 ∧ (∀ i, i < z0.length → w.cell? (x.add i) = some (.int .u8 (z0.getD i 0))) ∧ ∀ n ∈ z0, (Lit.int .u8 n).wf = true) (y0 : len0 * 1 ≤ 140737488351232) (w1 : (Lit.int .i64 a1).wf = true) :
    Calls Try.prog 10 #[.slice a0 len0 cap0, .int .i64 a1] w fun e w' => e = .returned (.bool true) ∧ Below w.heap.size w w' := by
  obtain ⟨l0, rfl, hr0, hm0, hw0, hc0⟩ := ReadsInt.ofRowC w0
  have h := P l0 a1 hm0 y0 hw0 w1
  refine (blazonlaw02_CrcParts.calls _ _ l0 a1 true (fun _ => 0) w (fun _ => (by decide : (0 : Nat) < 10)) (Ft.of_C (Kd.heap_int .u8) (Kd.C_of_reads (d := (0 : Int)) (h1 := fun _ => rfl) hr0)) hc0 h).mono ?_
  rintro e w' ⟨c', rfl, hs⟩
  exact ⟨rfl, hs.below (fun _ => by simp)⟩

end Go.Proofs.Ytbpagdgbehefkaa.PCrp
