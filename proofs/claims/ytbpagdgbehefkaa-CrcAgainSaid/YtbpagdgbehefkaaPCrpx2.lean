-- By cprint.py, a program of this work. Lean checks it.
import Derived.Test.YtbpagdgbehefkaaPCrpx0
import Derived.Test.YtbpagdgbehefkaaPCrpx1
namespace Go.Proofs.Ytbpagdgbehefkaa.PCrp
open Go.RowKit Go.Proofs.YtbpagdgbehefkaaW.PrintWords Go.Proofs.YtbpagdgbehefkaaW.PrintLast Go.Proofs.YtbpagdgbehefkaaW.PrintMore
set_option linter.unusedVariables false
set_option linter.unusedSimpArgs false

/-! ### blazonlaw02_CrcAgain: function 11 -/
def blazonlaw02_CrcAgain.j0 (a2 : Int) (l0 : List Int) (l1 : List Int) (x487 : Bool) : Option (Bool) := if x487 = true then ((blazonlaw02_awake.f).bind fun t493 => (some t493)) else ((crc_New.f).bind fun t500 => ((crc_New.f).bind fun t508 => ((crc_Summer_Of.f t500 l0).bind fun bt517 => ((crc_Summer_Of.f bt517.2 l1).bind fun bt526 => ((crc_Summer_More.f bt526.2 a2 l1).bind fun bt535 => ((crc_Summer_More.f t508 a2 l0).bind fun bt544 => ((crc_Summer_Of.f bt535.2 l0).bind fun bt553 => (if bt553.1 = bt517.1 then ((crc_Summer_Of.f bt544.2 l0).bind fun bt562 => (if bt562.1 = bt517.1 then ((crc_Summer_More.f bt553.2 a2 l0).bind fun bt571 => ((crc_Summer_More.f bt562.2 a2 l0).bind fun bt579 => (if bt571.1 = bt579.1 then ((blazonlaw02_awake.f).bind fun t588 => (some t588)) else (some false)))) else (some false))) else (some false)))))))))
def blazonlaw02_CrcAgain.f (l0 : List Int) (l1 : List Int) (a2 : Int) : Option (Bool) := if (l0.length : Int) > 500 then (blazonlaw02_CrcAgain.j0 a2 l0 l1 true) else (blazonlaw02_CrcAgain.j0 a2 l0 l1 (decide ((l1.length : Int) > 500)))
set_option maxHeartbeats 2000000 in
set_option maxRecDepth 100000 in
theorem blazonlaw02_CrcAgain.calls (A0 : Option Addr) (c0 : Nat) (l0 : List Int) (A1 : Option Addr) (c1 : Nat) (l1 : List Int) (a2 : Int) (r : Bool) (c : Nat → Nat) (w : World) (hc : ∀ k, c k < 10) (HP0 : Ft c [0] w (fun w_ => (Kd.int .u8).C w_ A0 l0.length l0)) (HCP0 : l0.length ≤ c0) (HP1 : Ft c [0] w (fun w_ => (Kd.int .u8).C w_ A1 l1.length l1)) (HCP1 : l1.length ≤ c1) (H : blazonlaw02_CrcAgain.f l0 l1 a2 = some r) :
    Calls Try.prog 11 #[.slice A0 l0.length c0, .slice A1 l1.length c1, .int .u32 a2] w fun e w' => ∃ (c' : Nat → Nat) , e = .returned (.bool r) ∧ Step c w c' w' [] := by
  unfold blazonlaw02_CrcAgain.f at H
  have HS := Step.refl c w []
  go_enter Try.func11, Try.ntmps11
  refine wp_seq_k fun K456 hK456 => ?_
  refine wl_region ?_
  refine st (.bool false) rfl rfl (xr_assign (.bool false) rfl rfl) ?_
  simp only [List.set_cons_zero, List.set_cons_succ]
  refine wl_end ?_
  (try simp only [Act.put, List.setIfInBounds_toArray, List.set_cons_zero, List.set_cons_succ])
  refine hK456 _ _ ?_
  (try clear hK456 K456)
  refine wp_seq_k fun K457 hK457 => ?_
  refine wp_seq_k fun K479 hK479 => ?_
  have hj481 : ∀ (C482 : Nat → Nat) (w483 : World) (x487 : Bool) (g488 : Nat → Value), Step c w C482 w483 [] → (Ft C482 [0] w483 (fun w_ => (Kd.int .u8).C w_ A0 l0.length l0)) → (Ft C482 [0] w483 (fun w_ => (Kd.int .u8).C w_ A1 l1.length l1)) → blazonlaw02_CrcAgain.j0 a2 l0 l1 x487 = some r → K479 ⟨#[.slice A0 l0.length c0, .slice A1 l1.length c1, .int .u32 a2, (g488 3), (g488 4), (g488 5), (g488 6), (g488 7), (g488 8), (g488 9), (g488 10), (g488 11), (g488 12), (g488 13), (g488 14), (g488 15), (g488 16), .bool x487, (g488 18), (g488 19), (g488 20), (g488 21), (g488 22), (g488 23), (g488 24), (g488 25), (g488 26), (g488 27), (g488 28), (g488 29), (g488 30), (g488 31), (g488 32), (g488 33), (g488 34), (g488 35), (g488 36), (g488 37), (g488 38), (g488 39), (g488 40), (g488 41), (g488 42), (g488 43), (g488 44), (g488 45), (g488 46), (g488 47), (g488 48), (g488 49), (g488 50), (g488 51), (g488 52), (g488 53), (g488 54), (g488 55), (g488 56), (g488 57), (g488 58), (g488 59), (g488 60)], []⟩ w483 := by
    intro C482 w483 x487 g488 HS484 HJ485 HJ486 H
    unfold blazonlaw02_CrcAgain.j0 at H
    refine hK479 _ _ ?_
    (try clear hK479)
    by_cases c491 : x487 = true
    · rw [if_pos c491] at H
      (try rw [c491])
      (try simp only [Bool.not_true, Bool.not_false])
      refine wp_cond_true rfl ?_
      refine wp_seq_k fun K492 hK492 => ?_
      refine wl_region ?_
      obtain ⟨t493, A494, H⟩ := Option.bind_eq_some_iff.mp H
      (try dsimp only at H)
      refine st_call #[] rfl rfl Try.func33 (by kernel_rfl) rfl rfl (by simp only [List.map_toArray, List.map_cons, List.map_nil]; first | done | rfl) ?_
      refine (blazonlaw02_awake.calls t493  (fun z_ => pal [(0, 0)] (C482 z_)) w483 (fun _ => pal_lt rfl _) A494).mono ?_
      rintro _ w496 ⟨C497, rfl, hs498⟩
      refine ⟨_, rfl, ?_⟩
      replace hs498 := Step.lift (U := [(0, 0)]) hs498 [] rfl rfl
      generalize up C482 C497 w483.heap.size [(0, 0)] = C497_ at hs498
      replace HS484 := HS484.trans hs498 hc rfl
      (try simp only [Act.put, List.setIfInBounds_toArray, List.set_cons_zero, List.set_cons_succ])
      refine st (.bool t493) rfl rfl (xr_assign (.bool t493) rfl rfl) ?_
      simp only [List.set_cons_zero, List.set_cons_succ]
      refine wl_end ?_
      (try simp only [Act.put, List.setIfInBounds_toArray, List.set_cons_zero, List.set_cons_succ])
      refine hK492 _ _ ?_
      (try clear hK492 K492)
      refine wp_ret ?_
      (try simp only [Exit.inBlock, Exit.then])
      (try simp only [Act.put, List.setIfInBounds_toArray, List.set_cons_zero, List.set_cons_succ])
      obtain rfl := Option.some.inj H
      refine bodyPost_ret (results_tmp rfl _ _ _) rfl ?_
      exact ⟨_, rfl, HS484⟩
    · rw [if_neg c491] at H
      (try rw [(Bool.eq_false_iff.mpr c491)])
      (try simp only [Bool.not_true, Bool.not_false])
      refine wp_cond_false rfl ?_
      refine wp_skip ?_
      (try simp only [Act.put, List.setIfInBounds_toArray, List.set_cons_zero, List.set_cons_succ])
      refine hK457 _ _ ?_
      (try clear hK457 K457)
      refine wp_seq_k fun K499 hK499 => ?_
      refine wl_region ?_
      obtain ⟨t500, A501, H⟩ := Option.bind_eq_some_iff.mp H
      (try dsimp only at H)
      refine st_call #[] rfl rfl Try.func34 (by kernel_rfl) rfl rfl (by simp only [List.map_toArray, List.map_cons, List.map_nil]; first | done | rfl) ?_
      refine (crc_New.calls t500  (fun z_ => pal [(0, 0)] (C482 z_)) w483 (fun _ => pal_lt rfl _) A501).mono ?_
      rintro _ w503 ⟨C504, v506, rfl, hs505, HB507⟩
      refine ⟨_, rfl, ?_⟩
      replace HB507 := Ft.res (U := [(0, 0), (5, 11)]) HB507 hs505 [11] rfl rfl rfl
      replace hs505 := Step.lift (U := [(0, 0), (5, 11)]) hs505 [] rfl rfl
      generalize up C482 C504 w483.heap.size [(0, 0), (5, 11)] = C504_ at HB507 hs505
      replace HJ485 := HJ485.thru hs505 rfl
      replace HJ486 := HJ486.thru hs505 rfl
      replace HS484 := HS484.trans hs505 hc rfl
      (try simp only [Act.put, List.setIfInBounds_toArray, List.set_cons_zero, List.set_cons_succ])
      obtain ⟨t508, A509, H⟩ := Option.bind_eq_some_iff.mp H
      (try dsimp only at H)
      refine st_call #[] rfl rfl Try.func34 (by kernel_rfl) rfl rfl (by simp only [List.map_toArray, List.map_cons, List.map_nil]; first | done | rfl) ?_
      refine (crc_New.calls t508  (fun z_ => pal [(0, 0)] (C504_ z_)) w503 (fun _ => pal_lt rfl _) A509).mono ?_
      rintro _ w511 ⟨C512, v514, rfl, hs513, HB515⟩
      refine ⟨_, rfl, ?_⟩
      replace HB515 := Ft.res (U := [(0, 0), (5, 12)]) HB515 hs513 [12] rfl rfl rfl
      replace hs513 := Step.lift (U := [(0, 0), (5, 12)]) hs513 [] rfl rfl
      generalize up C504_ C512 w503.heap.size [(0, 0), (5, 12)] = C512_ at HB515 hs513
      replace HJ485 := HJ485.thru hs513 rfl
      replace HJ486 := HJ486.thru hs513 rfl
      replace HB507 := HB507.thru hs513 rfl
      replace HS484 := HS484.trans hs513 hc rfl
      (try simp only [Act.put, List.setIfInBounds_toArray, List.set_cons_zero, List.set_cons_succ])
      refine st (v506) rfl rfl (xr_assign (v506) rfl rfl) ?_
      simp only [List.set_cons_zero, List.set_cons_succ]
      refine st (v514) rfl rfl (xr_assign (v514) rfl rfl) ?_
      simp only [List.set_cons_zero, List.set_cons_succ]
      refine wl_end ?_
      (try simp only [Act.put, List.setIfInBounds_toArray, List.set_cons_zero, List.set_cons_succ])
      refine hK499 _ _ ?_
      (try clear hK499 K499)
      refine wp_seq_k fun K516 hK516 => ?_
      refine wl_region ?_
      refine st (v506) rfl rfl (xr_move (v506) rfl rfl) ?_
      simp only [List.set_cons_zero, List.set_cons_succ]
      refine st (.slice A0 l0.length c0) rfl rfl (xr_move (.slice A0 l0.length c0) rfl rfl) ?_
      simp only [List.set_cons_zero, List.set_cons_succ]
      obtain ⟨⟨t517, t518⟩, A519, H⟩ := Option.bind_eq_some_iff.mp H
      (try dsimp only at H)
      refine st_call #[v506, .slice A0 l0.length c0] rfl rfl Try.func36 (by kernel_rfl) rfl rfl (by simp only [List.map_toArray, List.map_cons, List.map_nil]; first | done | rfl) ?_
      refine (crc_Summer_Of.calls v506 t500 A0 c0 l0 t517 t518  (fun z_ => pal [(0, 0), (11, 1)] (C512_ z_)) w511 (fun _ => pal_lt rfl _) (Ft.arg HB507 rfl) (Ft.arg HJ485 rfl) HCP0 A519).mono ?_
      rintro _ w521 ⟨C522, rfl, hs523, HM524⟩
      refine ⟨_, rfl, ?_⟩
      replace HM524 := Ft.res (U := [(0, 0), (1, 11)]) HM524 hs523 [11] rfl rfl rfl
      replace hs523 := Step.lift (U := [(0, 0), (1, 11)]) hs523 [11] rfl rfl
      generalize up C512_ C522 w511.heap.size [(0, 0), (1, 11)] = C522_ at HM524 hs523
      replace HJ485 := HJ485.thru hs523 rfl
      replace HJ486 := HJ486.thru hs523 rfl
      replace HB515 := HB515.thru hs523 rfl
      replace HS484 := HS484.trans hs523 hc rfl
      (try simp only [Act.put, List.setIfInBounds_toArray, List.set_cons_zero, List.set_cons_succ])
      refine st (.int .u32 t517) rfl rfl (xr_assign (.int .u32 t517) rfl rfl) ?_
      simp only [List.set_cons_zero, List.set_cons_succ]
      refine wl_end ?_
      (try simp only [Act.put, List.setIfInBounds_toArray, List.set_cons_zero, List.set_cons_succ])
      refine hK516 _ _ ?_
      (try clear hK516 K516)
      refine wp_seq_k fun K525 hK525 => ?_
      refine wl_region ?_
      refine st (v506) rfl rfl (xr_move (v506) rfl rfl) ?_
      simp only [List.set_cons_zero, List.set_cons_succ]
      refine st (.slice A1 l1.length c1) rfl rfl (xr_move (.slice A1 l1.length c1) rfl rfl) ?_
      simp only [List.set_cons_zero, List.set_cons_succ]
      obtain ⟨⟨t526, t527⟩, A528, H⟩ := Option.bind_eq_some_iff.mp H
      (try dsimp only at H)
      refine st_call #[v506, .slice A1 l1.length c1] rfl rfl Try.func36 (by kernel_rfl) rfl rfl (by simp only [List.map_toArray, List.map_cons, List.map_nil]; first | done | rfl) ?_
      refine (crc_Summer_Of.calls v506 t518 A1 c1 l1 t526 t527  (fun z_ => pal [(0, 0), (11, 1)] (C522_ z_)) w521 (fun _ => pal_lt rfl _) (Ft.arg HM524 rfl) (Ft.arg HJ486 rfl) HCP1 A528).mono ?_
      rintro _ w530 ⟨C531, rfl, hs532, HM533⟩
      refine ⟨_, rfl, ?_⟩
      replace HM533 := Ft.res (U := [(0, 0), (1, 11)]) HM533 hs532 [11] rfl rfl rfl
      replace hs532 := Step.lift (U := [(0, 0), (1, 11)]) hs532 [11] rfl rfl
      generalize up C522_ C531 w521.heap.size [(0, 0), (1, 11)] = C531_ at HM533 hs532
      replace HJ485 := HJ485.thru hs532 rfl
      replace HJ486 := HJ486.thru hs532 rfl
      replace HB515 := HB515.thru hs532 rfl
      replace HS484 := HS484.trans hs532 hc rfl
      (try simp only [Act.put, List.setIfInBounds_toArray, List.set_cons_zero, List.set_cons_succ])
      refine wl_end ?_
      (try simp only [Act.put, List.setIfInBounds_toArray, List.set_cons_zero, List.set_cons_succ])
      refine hK525 _ _ ?_
      (try clear hK525 K525)
      refine wp_seq_k fun K534 hK534 => ?_
      refine wl_region ?_
      refine st (v506) rfl rfl (xr_move (v506) rfl rfl) ?_
      simp only [List.set_cons_zero, List.set_cons_succ]
      refine st (.int .u32 a2) rfl rfl (xr_move (.int .u32 a2) rfl rfl) ?_
      simp only [List.set_cons_zero, List.set_cons_succ]
      refine st (.slice A1 l1.length c1) rfl rfl (xr_move (.slice A1 l1.length c1) rfl rfl) ?_
      simp only [List.set_cons_zero, List.set_cons_succ]
      obtain ⟨⟨t535, t536⟩, A537, H⟩ := Option.bind_eq_some_iff.mp H
      (try dsimp only at H)
      refine st_call #[v506, .int .u32 a2, .slice A1 l1.length c1] rfl rfl Try.func38 (by kernel_rfl) rfl rfl (by simp only [List.map_toArray, List.map_cons, List.map_nil]; first | done | rfl) ?_
      refine (crc_Summer_More.calls v506 t527 a2 A1 c1 l1 t535 t536  (fun z_ => pal [(0, 0), (11, 1)] (C531_ z_)) w530 (fun _ => pal_lt rfl _) (Ft.arg HM533 rfl) (Ft.arg HJ486 rfl) HCP1 A537).mono ?_
      rintro _ w539 ⟨C540, rfl, hs541, HM542⟩
      refine ⟨_, rfl, ?_⟩
      replace HM542 := Ft.res (U := [(0, 0), (1, 11)]) HM542 hs541 [11] rfl rfl rfl
      replace hs541 := Step.lift (U := [(0, 0), (1, 11)]) hs541 [11] rfl rfl
      generalize up C531_ C540 w530.heap.size [(0, 0), (1, 11)] = C540_ at HM542 hs541
      replace HJ485 := HJ485.thru hs541 rfl
      replace HB515 := HB515.thru hs541 rfl
      replace HS484 := HS484.trans hs541 hc rfl
      (try simp only [Act.put, List.setIfInBounds_toArray, List.set_cons_zero, List.set_cons_succ])
      refine wl_end ?_
      (try simp only [Act.put, List.setIfInBounds_toArray, List.set_cons_zero, List.set_cons_succ])
      refine hK534 _ _ ?_
      (try clear hK534 K534)
      refine wp_seq_k fun K543 hK543 => ?_
      refine wl_region ?_
      refine st (v514) rfl rfl (xr_move (v514) rfl rfl) ?_
      simp only [List.set_cons_zero, List.set_cons_succ]
      refine st (.int .u32 a2) rfl rfl (xr_move (.int .u32 a2) rfl rfl) ?_
      simp only [List.set_cons_zero, List.set_cons_succ]
      refine st (.slice A0 l0.length c0) rfl rfl (xr_move (.slice A0 l0.length c0) rfl rfl) ?_
      simp only [List.set_cons_zero, List.set_cons_succ]
      obtain ⟨⟨t544, t545⟩, A546, H⟩ := Option.bind_eq_some_iff.mp H
      (try dsimp only at H)
      refine st_call #[v514, .int .u32 a2, .slice A0 l0.length c0] rfl rfl Try.func38 (by kernel_rfl) rfl rfl (by simp only [List.map_toArray, List.map_cons, List.map_nil]; first | done | rfl) ?_
      refine (crc_Summer_More.calls v514 t508 a2 A0 c0 l0 t544 t545  (fun z_ => pal [(0, 0), (12, 1)] (C540_ z_)) w539 (fun _ => pal_lt rfl _) (Ft.arg HB515 rfl) (Ft.arg HJ485 rfl) HCP0 A546).mono ?_
      rintro _ w548 ⟨C549, rfl, hs550, HM551⟩
      refine ⟨_, rfl, ?_⟩
      replace HM551 := Ft.res (U := [(0, 0), (1, 12)]) HM551 hs550 [12] rfl rfl rfl
      replace hs550 := Step.lift (U := [(0, 0), (1, 12)]) hs550 [12] rfl rfl
      generalize up C540_ C549 w539.heap.size [(0, 0), (1, 12)] = C549_ at HM551 hs550
      replace HJ485 := HJ485.thru hs550 rfl
      replace HM542 := HM542.thru hs550 rfl
      replace HS484 := HS484.trans hs550 hc rfl
      (try simp only [Act.put, List.setIfInBounds_toArray, List.set_cons_zero, List.set_cons_succ])
      refine wl_end ?_
      (try simp only [Act.put, List.setIfInBounds_toArray, List.set_cons_zero, List.set_cons_succ])
      refine hK543 _ _ ?_
      (try clear hK543 K543)
      refine wp_seq_k fun K552 hK552 => ?_
      refine wl_region ?_
      refine st (v506) rfl rfl (xr_move (v506) rfl rfl) ?_
      simp only [List.set_cons_zero, List.set_cons_succ]
      refine st (.slice A0 l0.length c0) rfl rfl (xr_move (.slice A0 l0.length c0) rfl rfl) ?_
      simp only [List.set_cons_zero, List.set_cons_succ]
      obtain ⟨⟨t553, t554⟩, A555, H⟩ := Option.bind_eq_some_iff.mp H
      (try dsimp only at H)
      refine st_call #[v506, .slice A0 l0.length c0] rfl rfl Try.func36 (by kernel_rfl) rfl rfl (by simp only [List.map_toArray, List.map_cons, List.map_nil]; first | done | rfl) ?_
      refine (crc_Summer_Of.calls v506 t536 A0 c0 l0 t553 t554  (fun z_ => pal [(0, 0), (11, 1)] (C549_ z_)) w548 (fun _ => pal_lt rfl _) (Ft.arg HM542 rfl) (Ft.arg HJ485 rfl) HCP0 A555).mono ?_
      rintro _ w557 ⟨C558, rfl, hs559, HM560⟩
      refine ⟨_, rfl, ?_⟩
      replace HM560 := Ft.res (U := [(0, 0), (1, 11)]) HM560 hs559 [11] rfl rfl rfl
      replace hs559 := Step.lift (U := [(0, 0), (1, 11)]) hs559 [11] rfl rfl
      generalize up C549_ C558 w548.heap.size [(0, 0), (1, 11)] = C558_ at HM560 hs559
      replace HJ485 := HJ485.thru hs559 rfl
      replace HM551 := HM551.thru hs559 rfl
      replace HS484 := HS484.trans hs559 hc rfl
      (try simp only [Act.put, List.setIfInBounds_toArray, List.set_cons_zero, List.set_cons_succ])
      refine st (.int .u32 t517) rfl rfl (xr_move (.int .u32 t517) rfl rfl) ?_
      simp only [List.set_cons_zero, List.set_cons_succ]
      refine st (.bool (decide (t553 = t517))) rfl rfl (xr_bin (.int .u32 t553) (.int .u32 t517) (.bool (decide (t553 = t517))) rfl rfl rfl (B.eql_u32 t553 t517)) ?_
      simp only [List.set_cons_zero, List.set_cons_succ]
      refine st (.bool (decide (t553 = t517))) rfl rfl (xr_move (.bool (decide (t553 = t517))) rfl rfl) ?_
      simp only [List.set_cons_zero, List.set_cons_succ]
      by_cases c561 : t553 = t517
      · rw [if_pos c561] at H
        (try rw [(decide_eq_true c561)])
        (try simp only [Bool.not_true, Bool.not_false])
        refine on_guard (guard_on 5 true 40 rfl rfl rfl) ?_
        refine st (v514) rfl rfl (xr_move (v514) rfl rfl) ?_
        simp only [List.set_cons_zero, List.set_cons_succ]
        refine on_guard (guard_on 5 true 40 rfl rfl rfl) ?_
        refine st (.slice A0 l0.length c0) rfl rfl (xr_move (.slice A0 l0.length c0) rfl rfl) ?_
        simp only [List.set_cons_zero, List.set_cons_succ]
        refine on_guard (guard_on 5 true 40 rfl rfl rfl) ?_
        obtain ⟨⟨t562, t563⟩, A564, H⟩ := Option.bind_eq_some_iff.mp H
        (try dsimp only at H)
        refine st_call #[v514, .slice A0 l0.length c0] rfl rfl Try.func36 (by kernel_rfl) rfl rfl (by simp only [List.map_toArray, List.map_cons, List.map_nil]; first | done | rfl) ?_
        refine (crc_Summer_Of.calls v514 t545 A0 c0 l0 t562 t563  (fun z_ => pal [(0, 0), (12, 1)] (C558_ z_)) w557 (fun _ => pal_lt rfl _) (Ft.arg HM551 rfl) (Ft.arg HJ485 rfl) HCP0 A564).mono ?_
        rintro _ w566 ⟨C567, rfl, hs568, HM569⟩
        refine ⟨_, rfl, ?_⟩
        replace HM569 := Ft.res (U := [(0, 0), (1, 12)]) HM569 hs568 [12] rfl rfl rfl
        replace hs568 := Step.lift (U := [(0, 0), (1, 12)]) hs568 [12] rfl rfl
        generalize up C558_ C567 w557.heap.size [(0, 0), (1, 12)] = C567_ at HM569 hs568
        replace HJ485 := HJ485.thru hs568 rfl
        replace HM560 := HM560.thru hs568 rfl
        replace HS484 := HS484.trans hs568 hc rfl
        (try simp only [Act.put, List.setIfInBounds_toArray, List.set_cons_zero, List.set_cons_succ])
        refine on_guard (guard_on 5 true 40 rfl rfl rfl) ?_
        refine st (.int .u32 t517) rfl rfl (xr_move (.int .u32 t517) rfl rfl) ?_
        simp only [List.set_cons_zero, List.set_cons_succ]
        refine on_guard (guard_on 5 true 40 rfl rfl rfl) ?_
        refine st (.bool (decide (t562 = t517))) rfl rfl (xr_bin (.int .u32 t562) (.int .u32 t517) (.bool (decide (t562 = t517))) rfl rfl rfl (B.eql_u32 t562 t517)) ?_
        simp only [List.set_cons_zero, List.set_cons_succ]
        refine st (.bool (decide (t562 = t517))) rfl rfl (xr_pick true (.bool (decide (t562 = t517))) rfl rfl rfl) ?_
        simp only [List.set_cons_zero, List.set_cons_succ]
        refine st (.bool (decide (t562 = t517))) rfl rfl (xr_move (.bool (decide (t562 = t517))) rfl rfl) ?_
        simp only [List.set_cons_zero, List.set_cons_succ]
        by_cases c570 : t562 = t517
        · rw [if_pos c570] at H
          (try rw [(decide_eq_true c570)])
          (try simp only [Bool.not_true, Bool.not_false])
          refine on_guard (guard_on 12 true 47 rfl rfl rfl) ?_
          refine st (v506) rfl rfl (xr_move (v506) rfl rfl) ?_
          simp only [List.set_cons_zero, List.set_cons_succ]
          refine on_guard (guard_on 12 true 47 rfl rfl rfl) ?_
          refine st (.int .u32 a2) rfl rfl (xr_move (.int .u32 a2) rfl rfl) ?_
          simp only [List.set_cons_zero, List.set_cons_succ]
          refine on_guard (guard_on 12 true 47 rfl rfl rfl) ?_
          refine st (.slice A0 l0.length c0) rfl rfl (xr_move (.slice A0 l0.length c0) rfl rfl) ?_
          simp only [List.set_cons_zero, List.set_cons_succ]
          refine on_guard (guard_on 12 true 47 rfl rfl rfl) ?_
          obtain ⟨⟨t571, t572⟩, A573, H⟩ := Option.bind_eq_some_iff.mp H
          (try dsimp only at H)
          refine st_call #[v506, .int .u32 a2, .slice A0 l0.length c0] rfl rfl Try.func38 (by kernel_rfl) rfl rfl (by simp only [List.map_toArray, List.map_cons, List.map_nil]; first | done | rfl) ?_
          refine (crc_Summer_More.calls v506 t554 a2 A0 c0 l0 t571 t572  (fun z_ => pal [(0, 0), (11, 1)] (C567_ z_)) w566 (fun _ => pal_lt rfl _) (Ft.arg HM560 rfl) (Ft.arg HJ485 rfl) HCP0 A573).mono ?_
          rintro _ w575 ⟨C576, rfl, hs577, HM578⟩
          refine ⟨_, rfl, ?_⟩
          replace HM578 := Ft.res (U := [(0, 0), (1, 11)]) HM578 hs577 [11] rfl rfl rfl
          replace hs577 := Step.lift (U := [(0, 0), (1, 11)]) hs577 [11] rfl rfl
          generalize up C567_ C576 w566.heap.size [(0, 0), (1, 11)] = C576_ at HM578 hs577
          replace HJ485 := HJ485.thru hs577 rfl
          replace HM569 := HM569.thru hs577 rfl
          replace HS484 := HS484.trans hs577 hc rfl
          (try simp only [Act.put, List.setIfInBounds_toArray, List.set_cons_zero, List.set_cons_succ])
          refine on_guard (guard_on 12 true 47 rfl rfl rfl) ?_
          refine st (v514) rfl rfl (xr_move (v514) rfl rfl) ?_
          simp only [List.set_cons_zero, List.set_cons_succ]
          refine on_guard (guard_on 12 true 47 rfl rfl rfl) ?_
          refine st (.int .u32 a2) rfl rfl (xr_move (.int .u32 a2) rfl rfl) ?_
          simp only [List.set_cons_zero, List.set_cons_succ]
          refine on_guard (guard_on 12 true 47 rfl rfl rfl) ?_
          refine st (.slice A0 l0.length c0) rfl rfl (xr_move (.slice A0 l0.length c0) rfl rfl) ?_
          simp only [List.set_cons_zero, List.set_cons_succ]
          refine on_guard (guard_on 12 true 47 rfl rfl rfl) ?_
          obtain ⟨⟨t579, t580⟩, A581, H⟩ := Option.bind_eq_some_iff.mp H
          (try dsimp only at H)
          refine st_call #[v514, .int .u32 a2, .slice A0 l0.length c0] rfl rfl Try.func38 (by kernel_rfl) rfl rfl (by simp only [List.map_toArray, List.map_cons, List.map_nil]; first | done | rfl) ?_
          refine (crc_Summer_More.calls v514 t563 a2 A0 c0 l0 t579 t580  (fun z_ => pal [(0, 0), (12, 1)] (C576_ z_)) w575 (fun _ => pal_lt rfl _) (Ft.arg HM569 rfl) (Ft.arg HJ485 rfl) HCP0 A581).mono ?_
          rintro _ w583 ⟨C584, rfl, hs585, HM586⟩
          refine ⟨_, rfl, ?_⟩
          replace HM586 := Ft.res (U := [(0, 0), (1, 12)]) HM586 hs585 [12] rfl rfl rfl
          replace hs585 := Step.lift (U := [(0, 0), (1, 12)]) hs585 [12] rfl rfl
          generalize up C576_ C584 w575.heap.size [(0, 0), (1, 12)] = C584_ at HM586 hs585
          replace HS484 := HS484.trans hs585 hc rfl
          (try simp only [Act.put, List.setIfInBounds_toArray, List.set_cons_zero, List.set_cons_succ])
          refine on_guard (guard_on 12 true 47 rfl rfl rfl) ?_
          refine st (.bool (decide (t571 = t579))) rfl rfl (xr_bin (.int .u32 t571) (.int .u32 t579) (.bool (decide (t571 = t579))) rfl rfl rfl (B.eql_u32 t571 t579)) ?_
          simp only [List.set_cons_zero, List.set_cons_succ]
          refine st (.bool (decide (t571 = t579))) rfl rfl (xr_pick true (.bool (decide (t571 = t579))) rfl rfl rfl) ?_
          simp only [List.set_cons_zero, List.set_cons_succ]
          refine st (.bool (decide (t571 = t579))) rfl rfl (xr_move (.bool (decide (t571 = t579))) rfl rfl) ?_
          simp only [List.set_cons_zero, List.set_cons_succ]
          by_cases c587 : t571 = t579
          · rw [if_pos c587] at H
            (try rw [(decide_eq_true c587)])
            (try simp only [Bool.not_true, Bool.not_false])
            refine on_guard (guard_on 23 true 58 rfl rfl rfl) ?_
            obtain ⟨t588, A589, H⟩ := Option.bind_eq_some_iff.mp H
            (try dsimp only at H)
            refine st_call #[] rfl rfl Try.func33 (by kernel_rfl) rfl rfl (by simp only [List.map_toArray, List.map_cons, List.map_nil]; first | done | rfl) ?_
            refine (blazonlaw02_awake.calls t588  (fun z_ => pal [(0, 0)] (C584_ z_)) w583 (fun _ => pal_lt rfl _) A589).mono ?_
            rintro _ w591 ⟨C592, rfl, hs593⟩
            refine ⟨_, rfl, ?_⟩
            replace hs593 := Step.lift (U := [(0, 0)]) hs593 [] rfl rfl
            generalize up C584_ C592 w583.heap.size [(0, 0)] = C592_ at hs593
            replace HS484 := HS484.trans hs593 hc rfl
            (try simp only [Act.put, List.setIfInBounds_toArray, List.set_cons_zero, List.set_cons_succ])
            refine st (.bool t588) rfl rfl (xr_pick true (.bool t588) rfl rfl rfl) ?_
            simp only [List.set_cons_zero, List.set_cons_succ]
            refine st (.bool t588) rfl rfl (xr_assign (.bool t588) rfl rfl) ?_
            simp only [List.set_cons_zero, List.set_cons_succ]
            refine wl_end ?_
            (try simp only [Act.put, List.setIfInBounds_toArray, List.set_cons_zero, List.set_cons_succ])
            refine hK552 _ _ ?_
            (try clear hK552 K552)
            refine wp_ret ?_
            (try simp only [Exit.inBlock, Exit.then])
            (try simp only [Act.put, List.setIfInBounds_toArray, List.set_cons_zero, List.set_cons_succ])
            obtain rfl := Option.some.inj H
            refine bodyPost_ret (results_tmp rfl _ _ _) rfl ?_
            exact ⟨_, rfl, HS484⟩
          · rw [if_neg c587] at H
            (try rw [(decide_eq_false c587)])
            (try simp only [Bool.not_true, Bool.not_false])
            refine sk_guard (guard_off 23 true 58 rfl rfl false (by decide) rfl) rfl ?_
            simp only [List.set_cons_zero, List.set_cons_succ]
            refine st (.bool false) rfl rfl (xr_pick false (.bool false) rfl rfl rfl) ?_
            simp only [List.set_cons_zero, List.set_cons_succ]
            refine st (.bool false) rfl rfl (xr_assign (.bool false) rfl rfl) ?_
            simp only [List.set_cons_zero, List.set_cons_succ]
            refine wl_end ?_
            (try simp only [Act.put, List.setIfInBounds_toArray, List.set_cons_zero, List.set_cons_succ])
            refine hK552 _ _ ?_
            (try clear hK552 K552)
            refine wp_ret ?_
            (try simp only [Exit.inBlock, Exit.then])
            (try simp only [Act.put, List.setIfInBounds_toArray, List.set_cons_zero, List.set_cons_succ])
            obtain rfl := Option.some.inj H
            refine bodyPost_ret (results_tmp rfl _ _ _) rfl ?_
            exact ⟨_, rfl, HS484⟩
        · rw [if_neg c570] at H
          (try rw [(decide_eq_false c570)])
          (try simp only [Bool.not_true, Bool.not_false])
          refine sk_guard (guard_off 12 true 47 rfl rfl false (by decide) rfl) rfl ?_
          simp only [List.set_cons_zero, List.set_cons_succ]
          refine sk_guard (guard_off 12 true 47 rfl rfl false (by decide) rfl) rfl ?_
          simp only [List.set_cons_zero, List.set_cons_succ]
          refine sk_guard (guard_off 12 true 47 rfl rfl false (by decide) rfl) rfl ?_
          simp only [List.set_cons_zero, List.set_cons_succ]
          refine sk_guard (guard_off 12 true 47 rfl rfl false (by decide) rfl) rfl ?_
          simp only [List.set_cons_zero, List.set_cons_succ]
          refine sk_guard (guard_off 12 true 47 rfl rfl false (by decide) rfl) rfl ?_
          simp only [List.set_cons_zero, List.set_cons_succ]
          refine sk_guard (guard_off 12 true 47 rfl rfl false (by decide) rfl) rfl ?_
          simp only [List.set_cons_zero, List.set_cons_succ]
          refine sk_guard (guard_off 12 true 47 rfl rfl false (by decide) rfl) rfl ?_
          simp only [List.set_cons_zero, List.set_cons_succ]
          refine sk_guard (guard_off 12 true 47 rfl rfl false (by decide) rfl) rfl ?_
          simp only [List.set_cons_zero, List.set_cons_succ]
          refine sk_guard (guard_off 12 true 47 rfl rfl false (by decide) rfl) rfl ?_
          simp only [List.set_cons_zero, List.set_cons_succ]
          refine st (.bool false) rfl rfl (xr_pick false (.bool false) rfl rfl rfl) ?_
          simp only [List.set_cons_zero, List.set_cons_succ]
          refine st (.bool false) rfl rfl (xr_move (.bool false) rfl rfl) ?_
          simp only [List.set_cons_zero, List.set_cons_succ]
          refine sk_guard (guard_off 23 true 58 rfl rfl false (by decide) rfl) rfl ?_
          simp only [List.set_cons_zero, List.set_cons_succ]
          refine st (.bool false) rfl rfl (xr_pick false (.bool false) rfl rfl rfl) ?_
          simp only [List.set_cons_zero, List.set_cons_succ]
          refine st (.bool false) rfl rfl (xr_assign (.bool false) rfl rfl) ?_
          simp only [List.set_cons_zero, List.set_cons_succ]
          refine wl_end ?_
          (try simp only [Act.put, List.setIfInBounds_toArray, List.set_cons_zero, List.set_cons_succ])
          refine hK552 _ _ ?_
          (try clear hK552 K552)
          refine wp_ret ?_
          (try simp only [Exit.inBlock, Exit.then])
          (try simp only [Act.put, List.setIfInBounds_toArray, List.set_cons_zero, List.set_cons_succ])
          obtain rfl := Option.some.inj H
          refine bodyPost_ret (results_tmp rfl _ _ _) rfl ?_
          exact ⟨_, rfl, HS484⟩
      · rw [if_neg c561] at H
        (try rw [(decide_eq_false c561)])
        (try simp only [Bool.not_true, Bool.not_false])
        refine sk_guard (guard_off 5 true 40 rfl rfl false (by decide) rfl) rfl ?_
        simp only [List.set_cons_zero, List.set_cons_succ]
        refine sk_guard (guard_off 5 true 40 rfl rfl false (by decide) rfl) rfl ?_
        simp only [List.set_cons_zero, List.set_cons_succ]
        refine sk_guard (guard_off 5 true 40 rfl rfl false (by decide) rfl) rfl ?_
        simp only [List.set_cons_zero, List.set_cons_succ]
        refine sk_guard (guard_off 5 true 40 rfl rfl false (by decide) rfl) rfl ?_
        simp only [List.set_cons_zero, List.set_cons_succ]
        refine sk_guard (guard_off 5 true 40 rfl rfl false (by decide) rfl) rfl ?_
        simp only [List.set_cons_zero, List.set_cons_succ]
        refine st (.bool false) rfl rfl (xr_pick false (.bool false) rfl rfl rfl) ?_
        simp only [List.set_cons_zero, List.set_cons_succ]
        refine st (.bool false) rfl rfl (xr_move (.bool false) rfl rfl) ?_
        simp only [List.set_cons_zero, List.set_cons_succ]
        refine sk_guard (guard_off 12 true 47 rfl rfl false (by decide) rfl) rfl ?_
        simp only [List.set_cons_zero, List.set_cons_succ]
        refine sk_guard (guard_off 12 true 47 rfl rfl false (by decide) rfl) rfl ?_
        simp only [List.set_cons_zero, List.set_cons_succ]
        refine sk_guard (guard_off 12 true 47 rfl rfl false (by decide) rfl) rfl ?_
        simp only [List.set_cons_zero, List.set_cons_succ]
        refine sk_guard (guard_off 12 true 47 rfl rfl false (by decide) rfl) rfl ?_
        simp only [List.set_cons_zero, List.set_cons_succ]
        refine sk_guard (guard_off 12 true 47 rfl rfl false (by decide) rfl) rfl ?_
        simp only [List.set_cons_zero, List.set_cons_succ]
        refine sk_guard (guard_off 12 true 47 rfl rfl false (by decide) rfl) rfl ?_
        simp only [List.set_cons_zero, List.set_cons_succ]
        refine sk_guard (guard_off 12 true 47 rfl rfl false (by decide) rfl) rfl ?_
        simp only [List.set_cons_zero, List.set_cons_succ]
        refine sk_guard (guard_off 12 true 47 rfl rfl false (by decide) rfl) rfl ?_
        simp only [List.set_cons_zero, List.set_cons_succ]
        refine sk_guard (guard_off 12 true 47 rfl rfl false (by decide) rfl) rfl ?_
        simp only [List.set_cons_zero, List.set_cons_succ]
        refine st (.bool false) rfl rfl (xr_pick false (.bool false) rfl rfl rfl) ?_
        simp only [List.set_cons_zero, List.set_cons_succ]
        refine st (.bool false) rfl rfl (xr_move (.bool false) rfl rfl) ?_
        simp only [List.set_cons_zero, List.set_cons_succ]
        refine sk_guard (guard_off 23 true 58 rfl rfl false (by decide) rfl) rfl ?_
        simp only [List.set_cons_zero, List.set_cons_succ]
        refine st (.bool false) rfl rfl (xr_pick false (.bool false) rfl rfl rfl) ?_
        simp only [List.set_cons_zero, List.set_cons_succ]
        refine st (.bool false) rfl rfl (xr_assign (.bool false) rfl rfl) ?_
        simp only [List.set_cons_zero, List.set_cons_succ]
        refine wl_end ?_
        (try simp only [Act.put, List.setIfInBounds_toArray, List.set_cons_zero, List.set_cons_succ])
        refine hK552 _ _ ?_
        (try clear hK552 K552)
        refine wp_ret ?_
        (try simp only [Exit.inBlock, Exit.then])
        (try simp only [Act.put, List.setIfInBounds_toArray, List.set_cons_zero, List.set_cons_succ])
        obtain rfl := Option.some.inj H
        refine bodyPost_ret (results_tmp rfl _ _ _) rfl ?_
        exact ⟨_, rfl, HS484⟩
  refine wl_region ?_
  refine st (.slice A0 l0.length c0) rfl rfl (xr_move (.slice A0 l0.length c0) rfl rfl) ?_
  simp only [List.set_cons_zero, List.set_cons_succ]
  refine st (.int .i64 (l0.length : Int)) rfl rfl (xr_builtin #[.slice A0 l0.length c0] (.int .i64 (l0.length : Int)) rfl (by simp only [List.map_toArray, List.map_cons, List.map_nil]; first | done | rfl) (by first | rfl | (go_simp; done) | (go_simp; rfl) | (go_simp; exact i64_w _) | (go_simp; exact i32_w _))) ?_
  simp only [List.set_cons_zero, List.set_cons_succ]
  refine st (.bool (decide ((l0.length : Int) > 500))) rfl rfl (xr_bin (.int .i64 (l0.length : Int)) (.int .i64 500) (.bool (decide ((l0.length : Int) > 500))) rfl rfl rfl (B.gtr_i64 (l0.length : Int) 500)) ?_
  simp only [List.set_cons_zero, List.set_cons_succ]
  refine st (.bool (decide ((l0.length : Int) > 500))) rfl rfl (xr_move (.bool (decide ((l0.length : Int) > 500))) rfl rfl) ?_
  simp only [List.set_cons_zero, List.set_cons_succ]
  by_cases c594 : (l0.length : Int) > 500
  · rw [if_pos c594] at H
    (try rw [(decide_eq_true c594)])
    (try simp only [Bool.not_true, Bool.not_false])
    refine sk_guard (guard_off 3 false 13 rfl rfl true (by decide) rfl) rfl ?_
    simp only [List.set_cons_zero, List.set_cons_succ]
    refine sk_guard (guard_off 3 false 13 rfl rfl true (by decide) rfl) rfl ?_
    simp only [List.set_cons_zero, List.set_cons_succ]
    refine sk_guard (guard_off 3 false 13 rfl rfl true (by decide) rfl) rfl ?_
    simp only [List.set_cons_zero, List.set_cons_succ]
    refine st (.bool true) rfl rfl (xr_pick true (.bool true) rfl rfl rfl) ?_
    simp only [List.set_cons_zero, List.set_cons_succ]
    refine wl_end ?_
    (try simp only [Act.put, List.setIfInBounds_toArray, List.set_cons_zero, List.set_cons_succ])
    exact hj481 _ _ (true) (fun q_ => List.getD [undef, undef, undef, undef, undef, undef, .bool false, undef, undef, undef, .slice A0 l0.length c0, .int .i64 (l0.length : Int), .bool true, .bool true, undef, undef, undef, undef, undef, undef, undef, undef, undef, undef, undef, undef, undef, undef, undef, undef, undef, undef, undef, undef, undef, undef, undef, undef, undef, undef, undef, undef, undef, undef, undef, undef, undef, undef, undef, undef, undef, undef, undef, undef, undef, undef, undef, undef, undef, undef, undef] q_ undef)  HS HP0 HP1 H
  · rw [if_neg c594] at H
    (try rw [(decide_eq_false c594)])
    (try simp only [Bool.not_true, Bool.not_false])
    refine on_guard (guard_on 3 false 13 rfl rfl rfl) ?_
    refine st (.slice A1 l1.length c1) rfl rfl (xr_move (.slice A1 l1.length c1) rfl rfl) ?_
    simp only [List.set_cons_zero, List.set_cons_succ]
    refine on_guard (guard_on 3 false 13 rfl rfl rfl) ?_
    refine st (.int .i64 (l1.length : Int)) rfl rfl (xr_builtin #[.slice A1 l1.length c1] (.int .i64 (l1.length : Int)) rfl (by simp only [List.map_toArray, List.map_cons, List.map_nil]; first | done | rfl) (by first | rfl | (go_simp; done) | (go_simp; rfl) | (go_simp; exact i64_w _) | (go_simp; exact i32_w _))) ?_
    simp only [List.set_cons_zero, List.set_cons_succ]
    refine on_guard (guard_on 3 false 13 rfl rfl rfl) ?_
    refine st (.bool (decide ((l1.length : Int) > 500))) rfl rfl (xr_bin (.int .i64 (l1.length : Int)) (.int .i64 500) (.bool (decide ((l1.length : Int) > 500))) rfl rfl rfl (B.gtr_i64 (l1.length : Int) 500)) ?_
    simp only [List.set_cons_zero, List.set_cons_succ]
    refine st (.bool (decide ((l1.length : Int) > 500))) rfl rfl (xr_pick false (.bool (decide ((l1.length : Int) > 500))) rfl rfl rfl) ?_
    simp only [List.set_cons_zero, List.set_cons_succ]
    refine wl_end ?_
    (try simp only [Act.put, List.setIfInBounds_toArray, List.set_cons_zero, List.set_cons_succ])
    exact hj481 _ _ (decide ((l1.length : Int) > 500)) (fun q_ => List.getD [undef, undef, undef, undef, undef, undef, .bool false, undef, undef, undef, .slice A0 l0.length c0, .int .i64 (l0.length : Int), .bool false, .bool false, .slice A1 l1.length c1, .int .i64 (l1.length : Int), .bool (decide ((l1.length : Int) > 500)), undef, undef, undef, undef, undef, undef, undef, undef, undef, undef, undef, undef, undef, undef, undef, undef, undef, undef, undef, undef, undef, undef, undef, undef, undef, undef, undef, undef, undef, undef, undef, undef, undef, undef, undef, undef, undef, undef, undef, undef, undef, undef, undef, undef] q_ undef)  HS HP0 HP1 H
/-- THE ONE PURE STATEMENT of blazonlaw02_CrcAgain. -/
def blazonlaw02_CrcAgain.Pure : Prop := ∀ (l0 : List Int) (l1 : List Int) (a2 : Int), l0.length ≤ maxLen → l0.length * 1 ≤ 140737488351232 → (∀ x ∈ l0, (Lit.int .u8 x).wf = true) → l1.length ≤ maxLen → l1.length * 1 ≤ 140737488351232 → (∀ x ∈ l1, (Lit.int .u8 x).wf = true) → (Lit.int .u32 a2).wf = true → blazonlaw02_CrcAgain.f l0 l1 a2 = some true
theorem blazonlaw02_CrcAgain.walk (P : blazonlaw02_CrcAgain.Pure) (a0 : Option Addr) (len0 cap0 : Nat) (z0 : List Int) (a1 : Option Addr) (len1 cap1 : Nat) (z1 : List Int) (a2 : Int) (w : World) (w0 : (a0 = none ∧ len0 = 0 ∧ cap0 = 0 ∧ z0 = []) ∨ ∃ x, a0 = some x ∧ len0 ≤ cap0 ∧ cap0 ≤ maxLen ∧ z0.length = cap0 ∧ (∀ i, i < z0.length → w.cell? (x.add i) = some (.int .u8 (z0.getD i 0))) ∧ ∀ n ∈ z0, (Lit.int .u8 n).wf = true) (y0 : len0 * 1 ≤ 140737488351232) (w1 : (a1 = none ∧ len1 = 0 ∧ cap1 = 0 ∧ z1 = []) ∨ ∃ x, a1 = some x ∧ len1 ≤ cap1 ∧ cap1 ≤ maxLen ∧ z1.length = cap1 ∧ (∀ i, i < z1.length → w.cell? (x.add i) = some (.int .u8 (z1.getD i 0))) ∧ ∀ n ∈ z1, (Lit.int .u8 n).wf = true) (y1 : len1 * 1 ≤ 140737488351232) (w2 : (Lit.int .u32 a2).wf = true) :
    Calls Try.prog 11 #[.slice a0 len0 cap0, .slice a1 len1 cap1, .int .u32 a2] w fun e w' => e = .returned (.bool true) ∧ Below w.heap.size w w' := by
  obtain ⟨l0, rfl, hr0, hm0, hw0, hc0⟩ := ReadsInt.ofRowC w0
  obtain ⟨l1, rfl, hr1, hm1, hw1, hc1⟩ := ReadsInt.ofRowC w1
  have h := P l0 l1 a2 hm0 y0 hw0 hm1 y1 hw1 w2
  refine (blazonlaw02_CrcAgain.calls _ _ l0 _ _ l1 a2 true (fun _ => 0) w (fun _ => (by decide : (0 : Nat) < 10)) (Ft.of_C (Kd.heap_int .u8) (Kd.C_of_reads (d := (0 : Int)) (h1 := fun _ => rfl) hr0)) hc0 (Ft.of_C (Kd.heap_int .u8) (Kd.C_of_reads (d := (0 : Int)) (h1 := fun _ => rfl) hr1)) hc1 h).mono ?_
  rintro e w' ⟨c', rfl, hs⟩
  exact ⟨rfl, hs.below (fun _ => by simp)⟩

end Go.Proofs.Ytbpagdgbehefkaa.PCrp
