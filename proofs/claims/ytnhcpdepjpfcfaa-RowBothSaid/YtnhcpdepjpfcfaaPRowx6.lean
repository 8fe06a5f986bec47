-- By cprint.py, a program of this work. Lean checks it.
import Derived.Test.YtnhcpdepjpfcfaaPRowx0
import Derived.Test.YtnhcpdepjpfcfaaPRowx2
import Derived.Test.YtnhcpdepjpfcfaaPRowx3
import Derived.Test.YtnhcpdepjpfcfaaPRowx5
namespace Go.Proofs.Ytnhcpdepjpfcfaa.PRow
open Go.RowKit Go.Proofs.YtnhcpdepjpfcfaaW.PrintWords Go.Proofs.YtnhcpdepjpfcfaaW.PrintLast Go.Proofs.YtnhcpdepjpfcfaaW.PrintMore
set_option linter.unusedVariables false
set_option linter.unusedSimpArgs false

/-! ### blazonlaw16_RowWithin: function 5 -/
def blazonlaw16_RowWithin.l0 : Nat → Int → Int → Bool → Int → Int → Option (Bool)
  | 0, _, _, _, _, _ => none
  | k + 1, a0, a1, x4369, x4370, x4371 => if x4371 < 64 then ((blazonref15_Has.f k a0 x4371).bind fun t4387 => (if t4387 = true then (if x4369 = true then ((blazonref15_Has.f k a1 x4371).bind fun t4396 => (blazonlaw16_RowWithin.l0 k a0 a1 t4396 (wrap64 (x4370 + 1)) (wrap64 (x4371 + 1)))) else (blazonlaw16_RowWithin.l0 k a0 a1 false (wrap64 (x4370 + 1)) (wrap64 (x4371 + 1)))) else (blazonlaw16_RowWithin.l0 k a0 a1 x4369 x4370 (wrap64 (x4371 + 1))))) else ((row_Within.f a0 a1).bind fun t4403 => (if t4403 = x4369 then ((row_Count.f a0).bind fun t4410 => (if t4410 = x4370 then ((blazonlaw16_awake.f k).bind fun t4417 => (some t4417)) else (some false))) else (some false)))
def blazonlaw16_RowWithin.f (k : Nat) (a0 : Int) (a1 : Int) : Option (Bool) := blazonlaw16_RowWithin.l0 k a0 a1 true 0 0

set_option maxHeartbeats 2000000 in
set_option maxRecDepth 100000 in
theorem blazonlaw16_RowWithin.calls (k : Nat) (a0 : Int) (a1 : Int) (r : Bool) (c : Nat → Nat) (w : World) (hc : ∀ k, c k < 10)  (H : blazonlaw16_RowWithin.f k a0 a1 = some r) :
    Calls Try.prog 5 #[.int .u64 a0, .int .u64 a1] w fun e w' => ∃ (c' : Nat → Nat) , e = .returned (.bool r) ∧ Step c w c' w' [] := by
  unfold blazonlaw16_RowWithin.f at H
  have HS := Step.refl c w []
  go_enter Try.func5, Try.ntmps5
  refine wp_seq_k fun K4244 hK4244 => ?_
  refine wl_region ?_
  refine st (.bool false) rfl rfl (xr_assign (.bool false) rfl rfl) ?_
  simp only [ls0, ls1]
  refine wl_end ?_
  (try simp only [Act.put, List.setIfInBounds_toArray, ls0, ls1])
  refine hK4244 _ _ ?_
  (try clear hK4244 K4244)
  refine wp_seq_k fun K4245 hK4245 => ?_
  refine wl_region ?_
  refine st (.bool true) rfl rfl (xr_assign (.bool true) rfl rfl) ?_
  simp only [ls0, ls1]
  refine wl_end ?_
  (try simp only [Act.put, List.setIfInBounds_toArray, ls0, ls1])
  refine hK4245 _ _ ?_
  (try clear hK4245 K4245)
  refine wp_seq_k fun K4246 hK4246 => ?_
  refine wl_region ?_
  refine st (.int .i64 0) rfl rfl (xr_assign (.int .i64 0) rfl rfl) ?_
  simp only [ls0, ls1]
  refine wl_end ?_
  (try simp only [Act.put, List.setIfInBounds_toArray, ls0, ls1])
  refine hK4246 _ _ ?_
  (try clear hK4246 K4246)
  refine wp_seq_k fun K4247 hK4247 => ?_
  refine wp_seq_k fun K4325 hK4325 => ?_
  refine wl_region ?_
  refine st (.int .i64 0) rfl rfl (xr_assign (.int .i64 0) rfl rfl) ?_
  simp only [ls0, ls1]
  refine wl_end ?_
  (try simp only [Act.put, List.setIfInBounds_toArray, ls0, ls1])
  refine hK4325 _ _ ?_
  (try clear hK4325 K4325)
  refine wp_block ?_
  (try simp only [Act.put, List.setIfInBounds_toArray, ls0, ls1])
  refine wp_looped (looped_ind (fun kq4375 a_ w4374 => ∃ (C4373 : Nat → Nat) (x4369 : Bool) (x4370 : Int) (x4371 : Int) (g4372 : Nat → Value), a_ = ⟨#[.int .u64 a0, .int .u64 a1, (g4372 2), (g4372 3), (g4372 4), .bool x4369, .int .i64 x4370, .int .i64 x4371, (g4372 8), (g4372 9), (g4372 10), (g4372 11), (g4372 12), (g4372 13), (g4372 14), (g4372 15), (g4372 16), (g4372 17), (g4372 18), (g4372 19), (g4372 20), (g4372 21), (g4372 22), (g4372 23), (g4372 24), (g4372 25), (g4372 26), (g4372 27), (g4372 28), (g4372 29), (g4372 30), (g4372 31), (g4372 32), (g4372 33), (g4372 34), (g4372 35), (g4372 36)], []⟩ ∧ Step c w C4373 w4374 [] ∧ kq4375 ≤ k ∧ blazonlaw16_RowWithin.l0 kq4375 a0 a1 x4369 x4370 x4371 = some r) ?step k _ _ ?init)
  case init =>
    exact ⟨_, true, 0, 0, (fun q_ => List.getD [undef, undef, undef, undef, .bool false, undef, undef, undef, undef, undef, undef, undef, undef, undef, undef, undef, undef, undef, undef, undef, undef, undef, undef, undef, undef, undef, undef, undef, undef, undef, undef, undef, undef, undef, undef, undef, undef] q_ undef), rfl, HS, Nat.le_refl _, H⟩
  case step =>
    intro kq4375 ih4378 a4379 w4374 hr4380
    obtain ⟨C4373, x4369, x4370, x4371, g4372, rfl, HS4376, hk4377, H⟩ := hr4380
    refine looped_round ?_
    cases kq4375 with
    | zero => exact absurd H (by simp [blazonlaw16_RowWithin.l0])
    | succ k4381 =>
      simp only [blazonlaw16_RowWithin.l0] at H
      refine wp_seq_k fun K4382 hK4382 => ?_
      refine wp_seq_k fun K4383 hK4383 => ?_
      refine wl_region ?_
      refine st (.int .i64 x4371) rfl rfl (xr_move (.int .i64 x4371) rfl rfl) ?_
      simp only [ls0, ls1]
      refine st (.bool (decide (x4371 < 64))) rfl rfl (xr_bin (.int .i64 x4371) (.int .i64 64) (.bool (decide (x4371 < 64))) rfl rfl rfl (B.lss_i64 x4371 64)) ?_
      simp only [ls0, ls1]
      refine wl_end ?_
      (try simp only [Act.put, List.setIfInBounds_toArray, ls0, ls1])
      refine hK4383 _ _ ?_
      (try clear hK4383 K4383)
      by_cases c4384 : x4371 < 64
      · rw [if_pos c4384] at H
        (try rw [(decide_eq_true c4384)])
        (try simp only [Bool.not_true, Bool.not_false])
        refine wp_cond_true rfl ?_
        refine wp_skip ?_
        (try simp only [Act.put, List.setIfInBounds_toArray, ls0, ls1])
        refine hK4382 _ _ ?_
        (try clear hK4382 K4382)
        refine wp_seq_k fun K4385 hK4385 => ?_
        refine wp_block ?_
        refine wp_seq_k fun K4386 hK4386 => ?_
        refine wl_region ?_
        refine st (.int .u64 a0) rfl rfl (xr_move (.int .u64 a0) rfl rfl) ?_
        simp only [ls0, ls1]
        refine st (.int .i64 x4371) rfl rfl (xr_move (.int .i64 x4371) rfl rfl) ?_
        simp only [ls0, ls1]
        obtain ⟨t4387, A4388, H⟩ := Option.bind_eq_some_iff.mp H
        (try dsimp only at H)
        refine st_call #[.int .u64 a0, .int .i64 x4371] rfl rfl Try.func20 (by kernel_rfl) rfl rfl (by simp only [List.map_toArray, List.map_cons, List.map_nil]; first | done | rfl) ?_
        refine (blazonref15_Has.calls k4381 a0 x4371 t4387  (fun z_ => pal [(0, 0)] (C4373 z_)) w4374 (fun _ => pal_lt rfl _) A4388).mono ?_
        rintro _ w4390 ⟨C4391, rfl, hs4392⟩
        refine ⟨_, rfl, ?_⟩
        replace hs4392 := Step.lift (U := [(0, 0)]) hs4392 [] rfl rfl
        generalize up C4373 C4391 w4374.heap.size [(0, 0)] = C4391_ at hs4392
        replace HS4376 := HS4376.trans hs4392 hc rfl
        (try simp only [Act.put, List.setIfInBounds_toArray, ls0, ls1])
        refine wl_end ?_
        (try simp only [Act.put, List.setIfInBounds_toArray, ls0, ls1])
        refine hK4386 _ _ ?_
        (try clear hK4386 K4386)
        by_cases c4393 : t4387 = true
        · rw [if_pos c4393] at H
          (try rw [c4393])
          (try simp only [Bool.not_true, Bool.not_false])
          refine wp_cond_true rfl ?_
          refine wp_seq_k fun K4394 hK4394 => ?_
          refine wl_region ?_
          refine st (.int .i64 x4370) rfl rfl (xr_move (.int .i64 x4370) rfl rfl) ?_
          simp only [ls0, ls1]
          refine st (.int .i64 (wrap64 (x4370 + 1))) rfl rfl (xr_bin (.int .i64 x4370) (.int .i64 1) (.int .i64 (wrap64 (x4370 + 1))) rfl rfl rfl (B.add_i64 x4370 1)) ?_
          simp only [ls0, ls1]
          refine st (.int .i64 (wrap64 (x4370 + 1))) rfl rfl (xr_assign (.int .i64 (wrap64 (x4370 + 1))) rfl rfl) ?_
          simp only [ls0, ls1]
          refine wl_end ?_
          (try simp only [Act.put, List.setIfInBounds_toArray, ls0, ls1])
          refine hK4394 _ _ ?_
          (try clear hK4394 K4394)
          refine wl_region ?_
          refine st (.bool x4369) rfl rfl (xr_move (.bool x4369) rfl rfl) ?_
          simp only [ls0, ls1]
          refine st (.bool x4369) rfl rfl (xr_move (.bool x4369) rfl rfl) ?_
          simp only [ls0, ls1]
          by_cases c4395 : x4369 = true
          · rw [if_pos c4395] at H
            (try rw [c4395])
            (try simp only [Bool.not_true, Bool.not_false])
            refine on_guard (guard_on 1 true 18 rfl rfl rfl) ?_
            refine st (.int .u64 a1) rfl rfl (xr_move (.int .u64 a1) rfl rfl) ?_
            simp only [ls0, ls1]
            refine on_guard (guard_on 1 true 18 rfl rfl rfl) ?_
            refine st (.int .i64 x4371) rfl rfl (xr_move (.int .i64 x4371) rfl rfl) ?_
            simp only [ls0, ls1]
            refine on_guard (guard_on 1 true 18 rfl rfl rfl) ?_
            obtain ⟨t4396, A4397, H⟩ := Option.bind_eq_some_iff.mp H
            (try dsimp only at H)
            refine st_call #[.int .u64 a1, .int .i64 x4371] rfl rfl Try.func20 (by kernel_rfl) rfl rfl (by simp only [List.map_toArray, List.map_cons, List.map_nil]; first | done | rfl) ?_
            refine (blazonref15_Has.calls k4381 a1 x4371 t4396  (fun z_ => pal [(0, 0)] (C4391_ z_)) w4390 (fun _ => pal_lt rfl _) A4397).mono ?_
            rintro _ w4399 ⟨C4400, rfl, hs4401⟩
            refine ⟨_, rfl, ?_⟩
            replace hs4401 := Step.lift (U := [(0, 0)]) hs4401 [] rfl rfl
            generalize up C4391_ C4400 w4390.heap.size [(0, 0)] = C4400_ at hs4401
            replace HS4376 := HS4376.trans hs4401 hc rfl
            (try simp only [Act.put, List.setIfInBounds_toArray, ls0, ls1])
            refine st (.bool t4396) rfl rfl (xr_pick true (.bool t4396) rfl rfl rfl) ?_
            simp only [ls0, ls1]
            refine st (.bool t4396) rfl rfl (xr_assign (.bool t4396) rfl rfl) ?_
            simp only [ls0, ls1]
            refine wl_end ?_
            (try simp only [Act.put, List.setIfInBounds_toArray, ls0, ls1])
            refine hK4385 _ _ ?_
            (try clear hK4385 K4385)
            refine wl_region ?_
            refine st (.int .i64 x4371) rfl rfl (xr_move (.int .i64 x4371) rfl rfl) ?_
            simp only [ls0, ls1]
            refine st (.int .i64 (wrap64 (x4371 + 1))) rfl rfl (xr_bin (.int .i64 x4371) (.int .i64 1) (.int .i64 (wrap64 (x4371 + 1))) rfl rfl rfl (B.add_i64 x4371 1)) ?_
            simp only [ls0, ls1]
            refine st (.int .i64 (wrap64 (x4371 + 1))) rfl rfl (xr_assign (.int .i64 (wrap64 (x4371 + 1))) rfl rfl) ?_
            simp only [ls0, ls1]
            refine wl_end ?_
            (try simp only [Act.put, List.setIfInBounds_toArray, ls0, ls1])
            exact ih4378 k4381 (by omega) _ _ ⟨_, t4396, wrap64 (x4370 + 1), wrap64 (x4371 + 1), (fun q_ => List.getD [undef, undef, (g4372 2), (g4372 3), (g4372 4), undef, undef, undef, .int .i64 x4371, .bool true, .int .i64 x4371, .int .i64 (wrap64 (x4371 + 1)), .int .u64 a0, .int .i64 x4371, .bool true, .int .i64 x4370, .int .i64 (wrap64 (x4370 + 1)), .bool true, .bool true, .int .u64 a1, .int .i64 x4371, .bool t4396, .bool t4396, (g4372 23), (g4372 24), (g4372 25), (g4372 26), (g4372 27), (g4372 28), (g4372 29), (g4372 30), (g4372 31), (g4372 32), (g4372 33), (g4372 34), (g4372 35), (g4372 36)] q_ undef), rfl, HS4376, (by omega), H⟩
          · rw [if_neg c4395] at H
            (try rw [(Bool.eq_false_iff.mpr c4395)])
            (try simp only [Bool.not_true, Bool.not_false])
            refine sk_guard (guard_off 1 true 18 rfl rfl false (by decide) rfl) rfl ?_
            simp only [ls0, ls1]
            refine sk_guard (guard_off 1 true 18 rfl rfl false (by decide) rfl) rfl ?_
            simp only [ls0, ls1]
            refine sk_guard (guard_off 1 true 18 rfl rfl false (by decide) rfl) rfl ?_
            simp only [ls0, ls1]
            refine st (.bool false) rfl rfl (xr_pick false (.bool false) rfl rfl rfl) ?_
            simp only [ls0, ls1]
            refine st (.bool false) rfl rfl (xr_assign (.bool false) rfl rfl) ?_
            simp only [ls0, ls1]
            refine wl_end ?_
            (try simp only [Act.put, List.setIfInBounds_toArray, ls0, ls1])
            refine hK4385 _ _ ?_
            (try clear hK4385 K4385)
            refine wl_region ?_
            refine st (.int .i64 x4371) rfl rfl (xr_move (.int .i64 x4371) rfl rfl) ?_
            simp only [ls0, ls1]
            refine st (.int .i64 (wrap64 (x4371 + 1))) rfl rfl (xr_bin (.int .i64 x4371) (.int .i64 1) (.int .i64 (wrap64 (x4371 + 1))) rfl rfl rfl (B.add_i64 x4371 1)) ?_
            simp only [ls0, ls1]
            refine st (.int .i64 (wrap64 (x4371 + 1))) rfl rfl (xr_assign (.int .i64 (wrap64 (x4371 + 1))) rfl rfl) ?_
            simp only [ls0, ls1]
            refine wl_end ?_
            (try simp only [Act.put, List.setIfInBounds_toArray, ls0, ls1])
            exact ih4378 k4381 (by omega) _ _ ⟨_, false, wrap64 (x4370 + 1), wrap64 (x4371 + 1), (fun q_ => List.getD [undef, undef, (g4372 2), (g4372 3), (g4372 4), undef, undef, undef, .int .i64 x4371, .bool true, .int .i64 x4371, .int .i64 (wrap64 (x4371 + 1)), .int .u64 a0, .int .i64 x4371, .bool true, .int .i64 x4370, .int .i64 (wrap64 (x4370 + 1)), .bool false, .bool false, undef, undef, undef, .bool false, (g4372 23), (g4372 24), (g4372 25), (g4372 26), (g4372 27), (g4372 28), (g4372 29), (g4372 30), (g4372 31), (g4372 32), (g4372 33), (g4372 34), (g4372 35), (g4372 36)] q_ undef), rfl, HS4376, (by omega), H⟩
        · rw [if_neg c4393] at H
          (try rw [(Bool.eq_false_iff.mpr c4393)])
          (try simp only [Bool.not_true, Bool.not_false])
          refine wp_cond_false rfl ?_
          refine wp_skip ?_
          (try simp only [Act.put, List.setIfInBounds_toArray, ls0, ls1])
          refine hK4385 _ _ ?_
          (try clear hK4385 K4385)
          refine wl_region ?_
          refine st (.int .i64 x4371) rfl rfl (xr_move (.int .i64 x4371) rfl rfl) ?_
          simp only [ls0, ls1]
          refine st (.int .i64 (wrap64 (x4371 + 1))) rfl rfl (xr_bin (.int .i64 x4371) (.int .i64 1) (.int .i64 (wrap64 (x4371 + 1))) rfl rfl rfl (B.add_i64 x4371 1)) ?_
          simp only [ls0, ls1]
          refine st (.int .i64 (wrap64 (x4371 + 1))) rfl rfl (xr_assign (.int .i64 (wrap64 (x4371 + 1))) rfl rfl) ?_
          simp only [ls0, ls1]
          refine wl_end ?_
          (try simp only [Act.put, List.setIfInBounds_toArray, ls0, ls1])
          exact ih4378 k4381 (by omega) _ _ ⟨_, x4369, x4370, wrap64 (x4371 + 1), (fun q_ => List.getD [undef, undef, (g4372 2), (g4372 3), (g4372 4), undef, undef, undef, .int .i64 x4371, .bool true, .int .i64 x4371, .int .i64 (wrap64 (x4371 + 1)), .int .u64 a0, .int .i64 x4371, .bool false, (g4372 15), (g4372 16), (g4372 17), (g4372 18), (g4372 19), (g4372 20), (g4372 21), (g4372 22), (g4372 23), (g4372 24), (g4372 25), (g4372 26), (g4372 27), (g4372 28), (g4372 29), (g4372 30), (g4372 31), (g4372 32), (g4372 33), (g4372 34), (g4372 35), (g4372 36)] q_ undef), rfl, HS4376, (by omega), H⟩
      · rw [if_neg c4384] at H
        (try rw [(decide_eq_false c4384)])
        (try simp only [Bool.not_true, Bool.not_false])
        refine wp_cond_false rfl ?_
        refine wp_exit ?_
        (try simp only [Act.put, List.setIfInBounds_toArray, ls0, ls1])
        refine hK4247 _ _ ?_
        (try clear hK4247 K4247)
        refine wp_seq_k fun K4402 hK4402 => ?_
        refine wl_region ?_
        refine st (.int .u64 a0) rfl rfl (xr_move (.int .u64 a0) rfl rfl) ?_
        simp only [ls0, ls1]
        refine st (.int .u64 a1) rfl rfl (xr_move (.int .u64 a1) rfl rfl) ?_
        simp only [ls0, ls1]
        obtain ⟨t4403, A4404, H⟩ := Option.bind_eq_some_iff.mp H
        (try dsimp only at H)
        refine st_call #[.int .u64 a0, .int .u64 a1] rfl rfl Try.func21 (by kernel_rfl) rfl rfl (by simp only [List.map_toArray, List.map_cons, List.map_nil]; first | done | rfl) ?_
        refine (row_Within.calls a0 a1 t4403  (fun z_ => pal [(0, 0)] (C4373 z_)) w4374 (fun _ => pal_lt rfl _) A4404).mono ?_
        rintro _ w4406 ⟨C4407, rfl, hs4408⟩
        refine ⟨_, rfl, ?_⟩
        replace hs4408 := Step.lift (U := [(0, 0)]) hs4408 [] rfl rfl
        generalize up C4373 C4407 w4374.heap.size [(0, 0)] = C4407_ at hs4408
        replace HS4376 := HS4376.trans hs4408 hc rfl
        (try simp only [Act.put, List.setIfInBounds_toArray, ls0, ls1])
        refine st (.bool x4369) rfl rfl (xr_move (.bool x4369) rfl rfl) ?_
        simp only [ls0, ls1]
        refine st (.bool (decide (t4403 = x4369))) rfl rfl (xr_bin (.bool t4403) (.bool x4369) (.bool (decide (t4403 = x4369))) rfl rfl rfl (B.eql_bool Try.underlying4 t4403 x4369)) ?_
        simp only [ls0, ls1]
        refine st (.bool (decide (t4403 = x4369))) rfl rfl (xr_move (.bool (decide (t4403 = x4369))) rfl rfl) ?_
        simp only [ls0, ls1]
        by_cases c4409 : t4403 = x4369
        · rw [if_pos c4409] at H
          (try rw [(decide_eq_true c4409)])
          (try simp only [Bool.not_true, Bool.not_false])
          refine on_guard (guard_on 5 true 28 rfl rfl rfl) ?_
          refine st (.int .u64 a0) rfl rfl (xr_move (.int .u64 a0) rfl rfl) ?_
          simp only [ls0, ls1]
          refine on_guard (guard_on 5 true 28 rfl rfl rfl) ?_
          obtain ⟨t4410, A4411, H⟩ := Option.bind_eq_some_iff.mp H
          (try dsimp only at H)
          refine st_call #[.int .u64 a0] rfl rfl Try.func19 (by kernel_rfl) rfl rfl (by simp only [List.map_toArray, List.map_cons, List.map_nil]; first | done | rfl) ?_
          refine (row_Count.calls a0 t4410  (fun z_ => pal [(0, 0)] (C4407_ z_)) w4406 (fun _ => pal_lt rfl _) A4411).mono ?_
          rintro _ w4413 ⟨C4414, rfl, hs4415⟩
          refine ⟨_, rfl, ?_⟩
          replace hs4415 := Step.lift (U := [(0, 0)]) hs4415 [] rfl rfl
          generalize up C4407_ C4414 w4406.heap.size [(0, 0)] = C4414_ at hs4415
          replace HS4376 := HS4376.trans hs4415 hc rfl
          (try simp only [Act.put, List.setIfInBounds_toArray, ls0, ls1])
          refine on_guard (guard_on 5 true 28 rfl rfl rfl) ?_
          refine st (.int .i64 x4370) rfl rfl (xr_move (.int .i64 x4370) rfl rfl) ?_
          simp only [ls0, ls1]
          refine on_guard (guard_on 5 true 28 rfl rfl rfl) ?_
          refine st (.bool (decide (t4410 = x4370))) rfl rfl (xr_bin (.int .i64 t4410) (.int .i64 x4370) (.bool (decide (t4410 = x4370))) rfl rfl rfl (B.eql_i64 t4410 x4370)) ?_
          simp only [ls0, ls1]
          refine st (.bool (decide (t4410 = x4370))) rfl rfl (xr_pick true (.bool (decide (t4410 = x4370))) rfl rfl rfl) ?_
          simp only [ls0, ls1]
          refine st (.bool (decide (t4410 = x4370))) rfl rfl (xr_move (.bool (decide (t4410 = x4370))) rfl rfl) ?_
          simp only [ls0, ls1]
          by_cases c4416 : t4410 = x4370
          · rw [if_pos c4416] at H
            (try rw [(decide_eq_true c4416)])
            (try simp only [Bool.not_true, Bool.not_false])
            refine on_guard (guard_on 11 true 34 rfl rfl rfl) ?_
            obtain ⟨t4417, A4418, H⟩ := Option.bind_eq_some_iff.mp H
            (try dsimp only at H)
            refine st_call #[] rfl rfl Try.func13 (by kernel_rfl) rfl rfl (by simp only [List.map_toArray, List.map_cons, List.map_nil]; first | done | rfl) ?_
            refine (blazonlaw16_awake.calls k4381 t4417  (fun z_ => pal [(0, 0)] (C4414_ z_)) w4413 (fun _ => pal_lt rfl _) A4418).mono ?_
            rintro _ w4420 ⟨C4421, rfl, hs4422⟩
            refine ⟨_, rfl, ?_⟩
            replace hs4422 := Step.lift (U := [(0, 0)]) hs4422 [] rfl rfl
            generalize up C4414_ C4421 w4413.heap.size [(0, 0)] = C4421_ at hs4422
            replace HS4376 := HS4376.trans hs4422 hc rfl
            (try simp only [Act.put, List.setIfInBounds_toArray, ls0, ls1])
            refine st (.bool t4417) rfl rfl (xr_pick true (.bool t4417) rfl rfl rfl) ?_
            simp only [ls0, ls1]
            refine st (.bool t4417) rfl rfl (xr_assign (.bool t4417) rfl rfl) ?_
            simp only [ls0, ls1]
            refine wl_end ?_
            (try simp only [Act.put, List.setIfInBounds_toArray, ls0, ls1])
            refine hK4402 _ _ ?_
            (try clear hK4402 K4402)
            refine wp_ret ?_
            (try simp only [Exit.inBlock, Exit.then, Exit.noGoto])
            (try simp only [Act.put, List.setIfInBounds_toArray, ls0, ls1])
            obtain rfl := Option.some.inj H
            refine bodyPost_ret (results_tmp rfl _ _ _) rfl ?_
            exact ⟨_, rfl, HS4376⟩
          · rw [if_neg c4416] at H
            (try rw [(decide_eq_false c4416)])
            (try simp only [Bool.not_true, Bool.not_false])
            refine sk_guard (guard_off 11 true 34 rfl rfl false (by decide) rfl) rfl ?_
            simp only [ls0, ls1]
            refine st (.bool false) rfl rfl (xr_pick false (.bool false) rfl rfl rfl) ?_
            simp only [ls0, ls1]
            refine st (.bool false) rfl rfl (xr_assign (.bool false) rfl rfl) ?_
            simp only [ls0, ls1]
            refine wl_end ?_
            (try simp only [Act.put, List.setIfInBounds_toArray, ls0, ls1])
            refine hK4402 _ _ ?_
            (try clear hK4402 K4402)
            refine wp_ret ?_
            (try simp only [Exit.inBlock, Exit.then, Exit.noGoto])
            (try simp only [Act.put, List.setIfInBounds_toArray, ls0, ls1])
            obtain rfl := Option.some.inj H
            refine bodyPost_ret (results_tmp rfl _ _ _) rfl ?_
            exact ⟨_, rfl, HS4376⟩
        · rw [if_neg c4409] at H
          (try rw [(decide_eq_false c4409)])
          (try simp only [Bool.not_true, Bool.not_false])
          refine sk_guard (guard_off 5 true 28 rfl rfl false (by decide) rfl) rfl ?_
          simp only [ls0, ls1]
          refine sk_guard (guard_off 5 true 28 rfl rfl false (by decide) rfl) rfl ?_
          simp only [ls0, ls1]
          refine sk_guard (guard_off 5 true 28 rfl rfl false (by decide) rfl) rfl ?_
          simp only [ls0, ls1]
          refine sk_guard (guard_off 5 true 28 rfl rfl false (by decide) rfl) rfl ?_
          simp only [ls0, ls1]
          refine st (.bool false) rfl rfl (xr_pick false (.bool false) rfl rfl rfl) ?_
          simp only [ls0, ls1]
          refine st (.bool false) rfl rfl (xr_move (.bool false) rfl rfl) ?_
          simp only [ls0, ls1]
          refine sk_guard (guard_off 11 true 34 rfl rfl false (by decide) rfl) rfl ?_
          simp only [ls0, ls1]
          refine st (.bool false) rfl rfl (xr_pick false (.bool false) rfl rfl rfl) ?_
          simp only [ls0, ls1]
          refine st (.bool false) rfl rfl (xr_assign (.bool false) rfl rfl) ?_
          simp only [ls0, ls1]
          refine wl_end ?_
          (try simp only [Act.put, List.setIfInBounds_toArray, ls0, ls1])
          refine hK4402 _ _ ?_
          (try clear hK4402 K4402)
          refine wp_ret ?_
          (try simp only [Exit.inBlock, Exit.then, Exit.noGoto])
          (try simp only [Act.put, List.setIfInBounds_toArray, ls0, ls1])
          obtain rfl := Option.some.inj H
          refine bodyPost_ret (results_tmp rfl _ _ _) rfl ?_
          exact ⟨_, rfl, HS4376⟩
/-- THE ONE PURE STATEMENT of blazonlaw16_RowWithin. -/
def blazonlaw16_RowWithin.Pure : Prop := ∀ (a0 : Int) (a1 : Int), (Lit.int .u64 a0).wf = true → (Lit.int .u64 a1).wf = true → ∃ k, blazonlaw16_RowWithin.f k a0 a1 = some true
theorem blazonlaw16_RowWithin.walk (P : blazonlaw16_RowWithin.Pure) (a0 : Int) (a1 : Int) (w : World) (w0 : (Lit.int .u64 a0).wf = true) (w1 : (Lit.int .u64 a1).wf = true) :
    Calls Try.prog 5 #[.int .u64 a0, .int .u64 a1] w fun e w' => e = .returned (.bool true) ∧ Below w.heap.size w w' := by
  obtain ⟨k, h⟩ := P a0 a1 w0 w1
  refine (blazonlaw16_RowWithin.calls k a0 a1 true (fun _ => 0) w (fun _ => (by decide : (0 : Nat) < 10)) h).mono ?_
  rintro e w' ⟨c', rfl, hs⟩
  exact ⟨rfl, hs.below (fun _ => by simp)⟩

/-! ### blazonlaw16_RowBoth: function 6 -/
mutual
def blazonlaw16_RowBoth.j0 : Nat → (List (S25)) → Int → Int → Int → Int → Int → Int → Bool → Option (Bool)
  | 0, _, _, _, _, _, _, _, _ => none
  | k + 1, l1, t4843, t4845, t4852, t4890, t4891, t4892, x4939 => if x4939 = true then (if t4892 = 13 then (if t4845 = 0 then (if t4891 ≥ (l1.length : Int) then ((blazonlaw16_awake.f k).bind fun t4949 => (some t4949)) else (some false)) else ((blazonlaw16_awake.f k).bind fun t4955 => (some t4955))) else (some false)) else (if t4892 = 0 then (if t4890 = (Go.bits .or .u64 t4843 t4852) then ((row_Within.f t4843 t4890).bind fun t4964 => (if t4964 = true then ((row_Within.f t4852 t4890).bind fun t4971 => (if t4971 = true then ((row_Count.f t4890).bind fun t4978 => ((row_Count.f t4843).bind fun t4984 => ((row_Count.f t4852).bind fun t4990 => (if t4978 ≤ (wrap64 (t4984 + t4990)) then ((blazonlaw16_awake.f k).bind fun t4997 => (some t4997)) else (some false))))) else (some false))) else (some false))) else (some false)) else (some false))
def blazonlaw16_RowBoth.j1 : Nat → (List (S25)) → (List (S25)) → (List (S25)) → Bool → Option (Bool)
  | 0, _, _, _, _ => none
  | k + 1, l0, l1, l2, x4818 => if x4818 = true then ((blazonlaw16_awake.f k).bind fun t4825 => (some t4825)) else ((row_New.f k l0).bind fun bt4832 => ((row_Table_Set.f k bt4832.1 l1).bind fun bt4843 => ((row_Table_Set.f k bt4832.1 l2).bind fun bt4852 => ((some ([] : List (S25))).bind fun y4861 => (if y4861.length + l1.length < 5864062014805 then ((some (y4861 ++ l1 : List (S25))).bind fun y4871 => (if y4871.length + l2.length < 5864062014805 then ((some (y4871 ++ l2 : List (S25))).bind fun y4881 => ((row_Table_Set.f k bt4832.1 y4881).bind fun bt4890 => (if bt4832.2.2 = 0 then (if bt4843.2.2 = 0 then (blazonlaw16_RowBoth.j0 k l1 bt4843.1 bt4843.2.2 bt4852.1 bt4890.1 bt4890.2.1 bt4890.2.2 (!decide (bt4852.2.2 = 0))) else (blazonlaw16_RowBoth.j0 k l1 bt4843.1 bt4843.2.2 bt4852.1 bt4890.1 bt4890.2.1 bt4890.2.2 true)) else ((blazonlaw16_awake.f k).bind fun t5005 => (some t5005))))) else (none))) else (none))))))
end
def blazonlaw16_RowBoth.f (k : Nat) (l0 : List (S25)) (l1 : List (S25)) (l2 : List (S25)) : Option (Bool) := (blazonref16_Great.f k l0 80).bind fun t5011 => (if t5011 = true then (blazonlaw16_RowBoth.j1 k l0 l1 l2 true) else ((blazonref16_Great.f k l1 40).bind fun t5018 => (if t5018 = true then (blazonlaw16_RowBoth.j1 k l0 l1 l2 true) else ((blazonref16_Great.f k l2 40).bind fun t5025 => (blazonlaw16_RowBoth.j1 k l0 l1 l2 t5025)))))

set_option maxHeartbeats 2000000 in
set_option maxRecDepth 100000 in
theorem blazonlaw16_RowBoth.calls (k : Nat) (A0 : Option Addr) (c0 : Nat) (l0 : List (S25)) (A1 : Option Addr) (c1 : Nat) (l1 : List (S25)) (A2 : Option Addr) (c2 : Nat) (l2 : List (S25)) (r : Bool) (c : Nat → Nat) (w : World) (hc : ∀ k, c k < 10) (HP0 : Ft c [0] w (fun w_ => k25.C w_ A0 l0.length l0)) (HCP0 : l0.length ≤ c0) (HP1 : Ft c [0] w (fun w_ => k25.C w_ A1 l1.length l1)) (HCP1 : l1.length ≤ c1) (HP2 : Ft c [0] w (fun w_ => k25.C w_ A2 l2.length l2)) (HCP2 : l2.length ≤ c2) (H : blazonlaw16_RowBoth.f k l0 l1 l2 = some r) :
    Calls Try.prog 6 #[.slice A0 l0.length c0, .slice A1 l1.length c1, .slice A2 l2.length c2] w fun e w' => ∃ (c' : Nat → Nat) , e = .returned (.bool r) ∧ Step c w c' w' [] := by
  unfold blazonlaw16_RowBoth.f at H
  have HS := Step.refl c w []
  go_enter Try.func6, Try.ntmps6
  refine wp_seq_k fun K4727 hK4727 => ?_
  refine wl_region ?_
  refine st (.bool false) rfl rfl (xr_assign (.bool false) rfl rfl) ?_
  simp only [ls0, ls1]
  refine wl_end ?_
  (try simp only [Act.put, List.setIfInBounds_toArray, ls0, ls1])
  refine hK4727 _ _ ?_
  (try clear hK4727 K4727)
  refine wp_seq_k fun K4728 hK4728 => ?_
  refine wp_seq_k fun K4790 hK4790 => ?_
  have hj4811 : ∀ (kq4820 : Nat) (C4812 : Nat → Nat) (w4813 : World) (x4818 : Bool) (g4819 : Nat → Value), Step c w C4812 w4813 [] → kq4820 ≤ k → (Ft C4812 [0] w4813 (fun w_ => k25.C w_ A0 l0.length l0)) → (Ft C4812 [0] w4813 (fun w_ => k25.C w_ A1 l1.length l1)) → (Ft C4812 [0] w4813 (fun w_ => k25.C w_ A2 l2.length l2)) → blazonlaw16_RowBoth.j1 kq4820 l0 l1 l2 x4818 = some r → K4790 ⟨#[.slice A0 l0.length c0, .slice A1 l1.length c1, .slice A2 l2.length c2, (g4819 3), (g4819 4), (g4819 5), (g4819 6), (g4819 7), (g4819 8), (g4819 9), (g4819 10), (g4819 11), (g4819 12), (g4819 13), (g4819 14), (g4819 15), (g4819 16), (g4819 17), (g4819 18), (g4819 19), (g4819 20), (g4819 21), (g4819 22), (g4819 23), (g4819 24), (g4819 25), (g4819 26), (g4819 27), .bool x4818, (g4819 29), (g4819 30), (g4819 31), (g4819 32), (g4819 33), (g4819 34), (g4819 35), (g4819 36), (g4819 37), (g4819 38), (g4819 39), (g4819 40), (g4819 41), (g4819 42), (g4819 43), (g4819 44), (g4819 45), (g4819 46), (g4819 47), (g4819 48), (g4819 49), (g4819 50), (g4819 51), (g4819 52), (g4819 53), (g4819 54), (g4819 55), (g4819 56), (g4819 57), (g4819 58), (g4819 59), (g4819 60), (g4819 61), (g4819 62), (g4819 63), (g4819 64), (g4819 65), (g4819 66), (g4819 67), (g4819 68), (g4819 69), (g4819 70), (g4819 71), (g4819 72), (g4819 73), (g4819 74), (g4819 75), (g4819 76), (g4819 77), (g4819 78), (g4819 79), (g4819 80), (g4819 81), (g4819 82), (g4819 83), (g4819 84), (g4819 85), (g4819 86), (g4819 87), (g4819 88), (g4819 89), (g4819 90), (g4819 91), (g4819 92), (g4819 93), (g4819 94), (g4819 95), (g4819 96), (g4819 97), (g4819 98), (g4819 99), (g4819 100), (g4819 101), (g4819 102), (g4819 103), (g4819 104), (g4819 105), (g4819 106), (g4819 107), (g4819 108), (g4819 109), (g4819 110), (g4819 111), (g4819 112), (g4819 113), (g4819 114), (g4819 115), (g4819 116)], []⟩ w4813 := by
    intro kq4820 C4812 w4813 x4818 g4819 HS4814 hk4821 HJ4815 HJ4816 HJ4817 H
    cases kq4820 with
    | zero => exact absurd H (by simp [blazonlaw16_RowBoth.j1])
    | succ k4822 =>
      simp only [blazonlaw16_RowBoth.j1] at H
      refine hK4790 _ _ ?_
      (try clear hK4790)
      by_cases c4823 : x4818 = true
      · rw [if_pos c4823] at H
        (try rw [c4823])
        (try simp only [Bool.not_true, Bool.not_false])
        refine wp_cond_true rfl ?_
        refine wp_seq_k fun K4824 hK4824 => ?_
        refine wl_region ?_
        obtain ⟨t4825, A4826, H⟩ := Option.bind_eq_some_iff.mp H
        (try dsimp only at H)
        refine st_call #[] rfl rfl Try.func13 (by kernel_rfl) rfl rfl (by simp only [List.map_toArray, List.map_cons, List.map_nil]; first | done | rfl) ?_
        refine (blazonlaw16_awake.calls k4822 t4825  (fun z_ => pal [(0, 0)] (C4812 z_)) w4813 (fun _ => pal_lt rfl _) A4826).mono ?_
        rintro _ w4828 ⟨C4829, rfl, hs4830⟩
        refine ⟨_, rfl, ?_⟩
        replace hs4830 := Step.lift (U := [(0, 0)]) hs4830 [] rfl rfl
        generalize up C4812 C4829 w4813.heap.size [(0, 0)] = C4829_ at hs4830
        replace HS4814 := HS4814.trans hs4830 hc rfl
        (try simp only [Act.put, List.setIfInBounds_toArray, ls0, ls1])
        refine st (.bool t4825) rfl rfl (xr_assign (.bool t4825) rfl rfl) ?_
        simp only [ls0, ls1]
        refine wl_end ?_
        (try simp only [Act.put, List.setIfInBounds_toArray, ls0, ls1])
        refine hK4824 _ _ ?_
        (try clear hK4824 K4824)
        refine wp_ret ?_
        (try simp only [Exit.inBlock, Exit.then, Exit.noGoto])
        (try simp only [Act.put, List.setIfInBounds_toArray, ls0, ls1])
        obtain rfl := Option.some.inj H
        refine bodyPost_ret (results_tmp rfl _ _ _) rfl ?_
        exact ⟨_, rfl, HS4814⟩
      · rw [if_neg c4823] at H
        (try rw [(Bool.eq_false_iff.mpr c4823)])
        (try simp only [Bool.not_true, Bool.not_false])
        refine wp_cond_false rfl ?_
        refine wp_skip ?_
        (try simp only [Act.put, List.setIfInBounds_toArray, ls0, ls1])
        refine hK4728 _ _ ?_
        (try clear hK4728 K4728)
        refine wp_seq_k fun K4831 hK4831 => ?_
        refine wl_region ?_
        refine st (.slice A0 l0.length c0) rfl rfl (xr_move (.slice A0 l0.length c0) rfl rfl) ?_
        simp only [ls0, ls1]
        obtain ⟨⟨t4832, t4833, t4834⟩, A4835, H⟩ := Option.bind_eq_some_iff.mp H
        (try dsimp only at H)
        refine st_call #[.slice A0 l0.length c0] rfl rfl Try.func12 (by kernel_rfl) rfl rfl (by simp only [List.map_toArray, List.map_cons, List.map_nil]; first | done | rfl) ?_
        refine (row_New.calls k4822 A0 c0 l0 t4832 t4833 t4834  (fun z_ => pal [(0, 0)] (C4812 z_)) w4813 (fun _ => pal_lt rfl _) (Ft.arg HJ4815 rfl) HCP0 A4835).mono ?_
        rintro _ w4837 ⟨C4838, v4840, rfl, hs4839, HB4841⟩
        refine ⟨_, rfl, ?_⟩
        replace HB4841 := Ft.res (U := [(0, 0)]) HB4841 hs4839 [0] rfl rfl rfl
        replace hs4839 := Step.lift (U := [(0, 0)]) hs4839 [] rfl rfl
        generalize up C4812 C4838 w4813.heap.size [(0, 0)] = C4838_ at HB4841 hs4839
        replace HJ4816 := HJ4816.thru hs4839 rfl
        replace HJ4817 := HJ4817.thru hs4839 rfl
        replace HS4814 := HS4814.trans hs4839 hc rfl
        (try simp only [Act.put, List.setIfInBounds_toArray, ls0, ls1])
        refine st (.tuple #[v4840, .int .i64 t4833, .int .i64 t4834]) rfl rfl (xr_move (.tuple #[v4840, .int .i64 t4833, .int .i64 t4834]) rfl rfl) ?_
        simp only [ls0, ls1]
        refine st (v4840) rfl rfl (xr_extract (.tuple #[v4840, .int .i64 t4833, .int .i64 t4834]) (v4840) rfl rfl rfl) ?_
        simp only [ls0, ls1]
        refine st (.int .i64 t4833) rfl rfl (xr_extract (.tuple #[v4840, .int .i64 t4833, .int .i64 t4834]) (.int .i64 t4833) rfl rfl rfl) ?_
        simp only [ls0, ls1]
        refine st (.int .i64 t4834) rfl rfl (xr_extract (.tuple #[v4840, .int .i64 t4833, .int .i64 t4834]) (.int .i64 t4834) rfl rfl rfl) ?_
        simp only [ls0, ls1]
        refine st (v4840) rfl rfl (xr_assign (v4840) rfl rfl) ?_
        simp only [ls0, ls1]
        refine st (.int .i64 t4833) rfl rfl (xr_assign (.int .i64 t4833) rfl rfl) ?_
        simp only [ls0, ls1]
        refine st (.int .i64 t4834) rfl rfl (xr_assign (.int .i64 t4834) rfl rfl) ?_
        simp only [ls0, ls1]
        refine wl_end ?_
        (try simp only [Act.put, List.setIfInBounds_toArray, ls0, ls1])
        refine hK4831 _ _ ?_
        (try clear hK4831 K4831)
        refine wp_seq_k fun K4842 hK4842 => ?_
        refine wl_region ?_
        refine st (v4840) rfl rfl (xr_move (v4840) rfl rfl) ?_
        simp only [ls0, ls1]
        refine st (.slice A1 l1.length c1) rfl rfl (xr_move (.slice A1 l1.length c1) rfl rfl) ?_
        simp only [ls0, ls1]
        obtain ⟨⟨t4843, t4844, t4845⟩, A4846, H⟩ := Option.bind_eq_some_iff.mp H
        (try dsimp only at H)
        refine st_call #[v4840, .slice A1 l1.length c1] rfl rfl Try.func16 (by kernel_rfl) rfl rfl (by simp only [List.map_toArray, List.map_cons, List.map_nil]; first | done | rfl) ?_
        refine (row_Table_Set.calls k4822 v4840 t4832 A1 c1 l1 t4843 t4844 t4845  (fun z_ => pal [(0, 0)] (C4838_ z_)) w4837 (fun _ => pal_lt rfl _) (Ft.arg HB4841 rfl) (Ft.arg HJ4816 rfl) HCP1 A4846).mono ?_
        rintro _ w4848 ⟨C4849, rfl, hs4850⟩
        refine ⟨_, rfl, ?_⟩
        replace hs4850 := Step.lift (U := [(0, 0)]) hs4850 [] rfl rfl
        generalize up C4838_ C4849 w4837.heap.size [(0, 0)] = C4849_ at hs4850
        replace HJ4816 := HJ4816.thru hs4850 rfl
        replace HJ4817 := HJ4817.thru hs4850 rfl
        replace HB4841 := HB4841.thru hs4850 rfl
        replace HS4814 := HS4814.trans hs4850 hc rfl
        (try simp only [Act.put, List.setIfInBounds_toArray, ls0, ls1])
        refine st (.tuple #[.int .u64 t4843, .int .i64 t4844, .int .i64 t4845]) rfl rfl (xr_move (.tuple #[.int .u64 t4843, .int .i64 t4844, .int .i64 t4845]) rfl rfl) ?_
        simp only [ls0, ls1]
        refine st (.int .u64 t4843) rfl rfl (xr_extract (.tuple #[.int .u64 t4843, .int .i64 t4844, .int .i64 t4845]) (.int .u64 t4843) rfl rfl rfl) ?_
        simp only [ls0, ls1]
        refine st (.int .i64 t4844) rfl rfl (xr_extract (.tuple #[.int .u64 t4843, .int .i64 t4844, .int .i64 t4845]) (.int .i64 t4844) rfl rfl rfl) ?_
        simp only [ls0, ls1]
        refine st (.int .i64 t4845) rfl rfl (xr_extract (.tuple #[.int .u64 t4843, .int .i64 t4844, .int .i64 t4845]) (.int .i64 t4845) rfl rfl rfl) ?_
        simp only [ls0, ls1]
        refine st (.int .u64 t4843) rfl rfl (xr_assign (.int .u64 t4843) rfl rfl) ?_
        simp only [ls0, ls1]
        refine st (.int .i64 t4844) rfl rfl (xr_assign (.int .i64 t4844) rfl rfl) ?_
        simp only [ls0, ls1]
        refine st (.int .i64 t4845) rfl rfl (xr_assign (.int .i64 t4845) rfl rfl) ?_
        simp only [ls0, ls1]
        refine wl_end ?_
        (try simp only [Act.put, List.setIfInBounds_toArray, ls0, ls1])
        refine hK4842 _ _ ?_
        (try clear hK4842 K4842)
        refine wp_seq_k fun K4851 hK4851 => ?_
        refine wl_region ?_
        refine st (v4840) rfl rfl (xr_move (v4840) rfl rfl) ?_
        simp only [ls0, ls1]
        refine st (.slice A2 l2.length c2) rfl rfl (xr_move (.slice A2 l2.length c2) rfl rfl) ?_
        simp only [ls0, ls1]
        obtain ⟨⟨t4852, t4853, t4854⟩, A4855, H⟩ := Option.bind_eq_some_iff.mp H
        (try dsimp only at H)
        refine st_call #[v4840, .slice A2 l2.length c2] rfl rfl Try.func16 (by kernel_rfl) rfl rfl (by simp only [List.map_toArray, List.map_cons, List.map_nil]; first | done | rfl) ?_
        refine (row_Table_Set.calls k4822 v4840 t4832 A2 c2 l2 t4852 t4853 t4854  (fun z_ => pal [(0, 0)] (C4849_ z_)) w4848 (fun _ => pal_lt rfl _) (Ft.arg HB4841 rfl) (Ft.arg HJ4817 rfl) HCP2 A4855).mono ?_
        rintro _ w4857 ⟨C4858, rfl, hs4859⟩
        refine ⟨_, rfl, ?_⟩
        replace hs4859 := Step.lift (U := [(0, 0)]) hs4859 [] rfl rfl
        generalize up C4849_ C4858 w4848.heap.size [(0, 0)] = C4858_ at hs4859
        replace HJ4816 := HJ4816.thru hs4859 rfl
        replace HJ4817 := HJ4817.thru hs4859 rfl
        replace HB4841 := HB4841.thru hs4859 rfl
        replace HS4814 := HS4814.trans hs4859 hc rfl
        (try simp only [Act.put, List.setIfInBounds_toArray, ls0, ls1])
        refine st (.tuple #[.int .u64 t4852, .int .i64 t4853, .int .i64 t4854]) rfl rfl (xr_move (.tuple #[.int .u64 t4852, .int .i64 t4853, .int .i64 t4854]) rfl rfl) ?_
        simp only [ls0, ls1]
        refine st (.int .u64 t4852) rfl rfl (xr_extract (.tuple #[.int .u64 t4852, .int .i64 t4853, .int .i64 t4854]) (.int .u64 t4852) rfl rfl rfl) ?_
        simp only [ls0, ls1]
        refine st (.int .i64 t4853) rfl rfl (xr_extract (.tuple #[.int .u64 t4852, .int .i64 t4853, .int .i64 t4854]) (.int .i64 t4853) rfl rfl rfl) ?_
        simp only [ls0, ls1]
        refine st (.int .i64 t4854) rfl rfl (xr_extract (.tuple #[.int .u64 t4852, .int .i64 t4853, .int .i64 t4854]) (.int .i64 t4854) rfl rfl rfl) ?_
        simp only [ls0, ls1]
        refine st (.int .u64 t4852) rfl rfl (xr_assign (.int .u64 t4852) rfl rfl) ?_
        simp only [ls0, ls1]
        refine st (.int .i64 t4853) rfl rfl (xr_assign (.int .i64 t4853) rfl rfl) ?_
        simp only [ls0, ls1]
        refine st (.int .i64 t4854) rfl rfl (xr_assign (.int .i64 t4854) rfl rfl) ?_
        simp only [ls0, ls1]
        refine wl_end ?_
        (try simp only [Act.put, List.setIfInBounds_toArray, ls0, ls1])
        refine hK4851 _ _ ?_
        (try clear hK4851 K4851)
        refine wp_seq_k fun K4860 hK4860 => ?_
        refine wl_region ?_
        refine st (v4840) rfl rfl (xr_move (v4840) rfl rfl) ?_
        simp only [ls0, ls1]
        obtain ⟨y4861, A4862, H⟩ := Option.bind_eq_some_iff.mp H
        (try dsimp only at H)
        refine Own.lit k25 (C := C4858_) (i := 11) rfl 25 rfl (xs := ([] : List (S25))) (inner := []) (by first | (go_simp; done) | (go_simp; rfl)) (Reps.none _ _) (by simp only [List.length_cons, List.length_nil]; omega) (Option.some.inj A4862) ?_
        intro A4863 cp4864 w4865 C4866 HO4867 HC4868 hs4869
        replace HJ4816 := HJ4816.thru hs4869 rfl
        replace HJ4817 := HJ4817.thru hs4869 rfl
        replace HB4841 := HB4841.thru hs4869 rfl
        replace HS4814 := HS4814.trans hs4869 hc rfl
        (try simp only [Act.put, List.setIfInBounds_toArray, ls0, ls1])
        refine st (.slice A1 l1.length c1) rfl rfl (xr_move (.slice A1 l1.length c1) rfl rfl) ?_
        simp only [ls0, ls1]
        by_cases c4870 : y4861.length + l1.length < 5864062014805
        · rw [if_pos c4870] at H
          obtain ⟨y4871, A4872, H⟩ := Option.bind_eq_some_iff.mp H
          (try dsimp only at H)
          refine Own.append_rows k25 (C := C4866) (i := 11) rfl (.tmp 52) (.tmp 53) 22 25 (.agg #[(.string ⟨#[]⟩), (.int .i64 0)]) 24 rfl Try.underlying22 info25 rfl (by decide) (by decide) (.slice A4863 y4861.length cp4864) y4861 l1 A1 l1.length c1 rfl rfl HO4867 HJ4816 (by decide) (by omega) (Option.some.inj A4872) ?_
          intro A4873 cp4874 w4875 C4876 HO4877 HC4878 hs4879
          replace HJ4816 := HJ4816.thru hs4879 rfl
          replace HJ4817 := HJ4817.thru hs4879 rfl
          replace HB4841 := HB4841.thru hs4879 rfl
          replace HS4814 := HS4814.trans hs4879 hc rfl
          (try simp only [Act.put, List.setIfInBounds_toArray, ls0, ls1])
          refine st (.slice A2 l2.length c2) rfl rfl (xr_move (.slice A2 l2.length c2) rfl rfl) ?_
          simp only [ls0, ls1]
          by_cases c4880 : y4871.length + l2.length < 5864062014805
          · rw [if_pos c4880] at H
            obtain ⟨y4881, A4882, H⟩ := Option.bind_eq_some_iff.mp H
            (try dsimp only at H)
            refine Own.append_rows k25 (C := C4876) (i := 11) rfl (.tmp 54) (.tmp 55) 22 25 (.agg #[(.string ⟨#[]⟩), (.int .i64 0)]) 24 rfl Try.underlying22 info25 rfl (by decide) (by decide) (.slice A4873 y4871.length cp4874) y4871 l2 A2 l2.length c2 rfl rfl HO4877 HJ4817 (by decide) (by omega) (Option.some.inj A4882) ?_
            intro A4883 cp4884 w4885 C4886 HO4887 HC4888 hs4889
            replace HJ4816 := HJ4816.thru hs4889 rfl
            replace HB4841 := HB4841.thru hs4889 rfl
            replace HS4814 := HS4814.trans hs4889 hc rfl
            (try simp only [Act.put, List.setIfInBounds_toArray, ls0, ls1])
            obtain ⟨⟨t4890, t4891, t4892⟩, A4893, H⟩ := Option.bind_eq_some_iff.mp H
            (try dsimp only at H)
            refine st_call #[v4840, .slice A4883 y4881.length cp4884] rfl rfl Try.func16 (by kernel_rfl) rfl rfl (by simp only [List.map_toArray, List.map_cons, List.map_nil]; first | done | rfl) ?_
            refine (row_Table_Set.calls k4822 v4840 t4832 A4883 cp4884 y4881 t4890 t4891 t4892  (fun z_ => pal [(0, 0), (11, 0)] (C4886 z_)) w4885 (fun _ => pal_lt rfl _) (Ft.arg HB4841 rfl) (Ft.arg (HO4887.ft) rfl) HC4888 A4893).mono ?_
            rintro _ w4895 ⟨C4896, rfl, hs4897⟩
            refine ⟨_, rfl, ?_⟩
            replace hs4897 := Step.lift (U := [(0, 0)]) hs4897 [] rfl rfl
            generalize up C4886 C4896 w4885.heap.size [(0, 0)] = C4896_ at hs4897
            replace HJ4816 := HJ4816.thru hs4897 rfl
            replace HS4814 := HS4814.trans hs4897 hc rfl
            (try simp only [Act.put, List.setIfInBounds_toArray, ls0, ls1])
            refine st (.tuple #[.int .u64 t4890, .int .i64 t4891, .int .i64 t4892]) rfl rfl (xr_move (.tuple #[.int .u64 t4890, .int .i64 t4891, .int .i64 t4892]) rfl rfl) ?_
            simp only [ls0, ls1]
            refine st (.int .u64 t4890) rfl rfl (xr_extract (.tuple #[.int .u64 t4890, .int .i64 t4891, .int .i64 t4892]) (.int .u64 t4890) rfl rfl rfl) ?_
            simp only [ls0, ls1]
            refine st (.int .i64 t4891) rfl rfl (xr_extract (.tuple #[.int .u64 t4890, .int .i64 t4891, .int .i64 t4892]) (.int .i64 t4891) rfl rfl rfl) ?_
            simp only [ls0, ls1]
            refine st (.int .i64 t4892) rfl rfl (xr_extract (.tuple #[.int .u64 t4890, .int .i64 t4891, .int .i64 t4892]) (.int .i64 t4892) rfl rfl rfl) ?_
            simp only [ls0, ls1]
            refine st (.int .u64 t4890) rfl rfl (xr_assign (.int .u64 t4890) rfl rfl) ?_
            simp only [ls0, ls1]
            refine st (.int .i64 t4891) rfl rfl (xr_assign (.int .i64 t4891) rfl rfl) ?_
            simp only [ls0, ls1]
            refine st (.int .i64 t4892) rfl rfl (xr_assign (.int .i64 t4892) rfl rfl) ?_
            simp only [ls0, ls1]
            refine wl_end ?_
            (try simp only [Act.put, List.setIfInBounds_toArray, ls0, ls1])
            refine hK4860 _ _ ?_
            (try clear hK4860 K4860)
            refine wp_seq_k fun K4898 hK4898 => ?_
            refine wp_seq_k fun K4899 hK4899 => ?_
            refine wl_region ?_
            refine st (.int .i64 t4834) rfl rfl (xr_move (.int .i64 t4834) rfl rfl) ?_
            simp only [ls0, ls1]
            refine st (.bool (!decide (t4834 = 0))) rfl rfl (xr_bin (.int .i64 t4834) (.int .i64 0) (.bool (!decide (t4834 = 0))) rfl rfl rfl (B.neq_i64 t4834 0)) ?_
            simp only [ls0, ls1]
            refine wl_end ?_
            (try simp only [Act.put, List.setIfInBounds_toArray, ls0, ls1])
            refine hK4899 _ _ ?_
            (try clear hK4899 K4899)
            by_cases c4900 : t4834 = 0
            · rw [if_pos c4900] at H
              (try rw [(decide_eq_true c4900)])
              (try simp only [Bool.not_true, Bool.not_false])
              refine wp_cond_false rfl ?_
              refine wp_skip ?_
              (try simp only [Act.put, List.setIfInBounds_toArray, ls0, ls1])
              refine hK4898 _ _ ?_
              (try clear hK4898 K4898)
              refine wp_seq_k fun K4901 hK4901 => ?_
              refine wp_seq_k fun K4932 hK4932 => ?_
              have hj4934 : ∀ (kq4941 : Nat) (C4935 : Nat → Nat) (w4936 : World) (x4939 : Bool) (g4940 : Nat → Value), Step c w C4935 w4936 [] → kq4941 ≤ k4822 → (Ft C4935 [0] w4936 (fun w_ => k25.C w_ A1 l1.length l1)) → blazonlaw16_RowBoth.j0 kq4941 l1 t4843 t4845 t4852 t4890 t4891 t4892 x4939 = some r → K4932 ⟨#[(g4940 0), .slice A1 l1.length c1, (g4940 2), (g4940 3), (g4940 4), (g4940 5), (g4940 6), (g4940 7), (g4940 8), (g4940 9), .int .u64 t4843, (g4940 11), .int .i64 t4845, .int .u64 t4852, (g4940 14), (g4940 15), .int .u64 t4890, .int .i64 t4891, .int .i64 t4892, (g4940 19), (g4940 20), (g4940 21), (g4940 22), (g4940 23), (g4940 24), (g4940 25), (g4940 26), (g4940 27), (g4940 28), (g4940 29), (g4940 30), (g4940 31), (g4940 32), (g4940 33), (g4940 34), (g4940 35), (g4940 36), (g4940 37), (g4940 38), (g4940 39), (g4940 40), (g4940 41), (g4940 42), (g4940 43), (g4940 44), (g4940 45), (g4940 46), (g4940 47), (g4940 48), (g4940 49), (g4940 50), (g4940 51), (g4940 52), (g4940 53), (g4940 54), (g4940 55), (g4940 56), (g4940 57), (g4940 58), (g4940 59), (g4940 60), (g4940 61), (g4940 62), (g4940 63), (g4940 64), (g4940 65), (g4940 66), (g4940 67), (g4940 68), .bool x4939, (g4940 70), (g4940 71), (g4940 72), (g4940 73), (g4940 74), (g4940 75), (g4940 76), (g4940 77), (g4940 78), (g4940 79), (g4940 80), (g4940 81), (g4940 82), (g4940 83), (g4940 84), (g4940 85), (g4940 86), (g4940 87), (g4940 88), (g4940 89), (g4940 90), (g4940 91), (g4940 92), (g4940 93), (g4940 94), (g4940 95), (g4940 96), (g4940 97), (g4940 98), (g4940 99), (g4940 100), (g4940 101), (g4940 102), (g4940 103), (g4940 104), (g4940 105), (g4940 106), (g4940 107), (g4940 108), (g4940 109), (g4940 110), (g4940 111), (g4940 112), (g4940 113), (g4940 114), (g4940 115), (g4940 116)], []⟩ w4936 := by
                intro kq4941 C4935 w4936 x4939 g4940 HS4937 hk4942 HJ4938 H
                cases kq4941 with
                | zero => exact absurd H (by simp [blazonlaw16_RowBoth.j0])
                | succ k4943 =>
                  simp only [blazonlaw16_RowBoth.j0] at H
                  refine hK4932 _ _ ?_
                  (try clear hK4932)
                  by_cases c4944 : x4939 = true
                  · rw [if_pos c4944] at H
                    (try rw [c4944])
                    (try simp only [Bool.not_true, Bool.not_false])
                    refine wp_cond_true rfl ?_
                    refine wp_seq_k fun K4945 hK4945 => ?_
                    refine wl_region ?_
                    refine st (.int .i64 t4892) rfl rfl (xr_move (.int .i64 t4892) rfl rfl) ?_
                    simp only [ls0, ls1]
                    refine st (.bool (decide (t4892 = 13))) rfl rfl (xr_bin (.int .i64 t4892) (.int .i64 13) (.bool (decide (t4892 = 13))) rfl rfl rfl (B.eql_i64 t4892 13)) ?_
                    simp only [ls0, ls1]
                    refine st (.bool (decide (t4892 = 13))) rfl rfl (xr_move (.bool (decide (t4892 = 13))) rfl rfl) ?_
                    simp only [ls0, ls1]
                    by_cases c4946 : t4892 = 13
                    · rw [if_pos c4946] at H
                      (try rw [(decide_eq_true c4946)])
                      (try simp only [Bool.not_true, Bool.not_false])
                      refine on_guard (guard_on 2 true 72 rfl rfl rfl) ?_
                      refine st (.int .i64 t4845) rfl rfl (xr_move (.int .i64 t4845) rfl rfl) ?_
                      simp only [ls0, ls1]
                      refine on_guard (guard_on 2 true 72 rfl rfl rfl) ?_
                      refine st (.bool (!decide (t4845 = 0))) rfl rfl (xr_bin (.int .i64 t4845) (.int .i64 0) (.bool (!decide (t4845 = 0))) rfl rfl rfl (B.neq_i64 t4845 0)) ?_
                      simp only [ls0, ls1]
                      refine on_guard (guard_on 2 true 72 rfl rfl rfl) ?_
                      refine st (.bool (!decide (t4845 = 0))) rfl rfl (xr_move (.bool (!decide (t4845 = 0))) rfl rfl) ?_
                      simp only [ls0, ls1]
                      by_cases c4947 : t4845 = 0
                      · rw [if_pos c4947] at H
                        (try rw [(decide_eq_true c4947)])
                        (try simp only [Bool.not_true, Bool.not_false])
                        refine on_guard (guard_on 5 false 75 rfl rfl rfl) ?_
                        refine st (.int .i64 t4891) rfl rfl (xr_move (.int .i64 t4891) rfl rfl) ?_
                        simp only [ls0, ls1]
                        refine on_guard (guard_on 5 false 75 rfl rfl rfl) ?_
                        refine st (.slice A1 l1.length c1) rfl rfl (xr_move (.slice A1 l1.length c1) rfl rfl) ?_
                        simp only [ls0, ls1]
                        refine on_guard (guard_on 5 false 75 rfl rfl rfl) ?_
                        refine st (.int .i64 (l1.length : Int)) rfl rfl (xr_builtin #[.slice A1 l1.length c1] (.int .i64 (l1.length : Int)) rfl (by simp only [List.map_toArray, List.map_cons, List.map_nil]; first | done | rfl) (by first | rfl | (go_simp; done) | (go_simp; rfl) | (go_simp; exact i64_w _) | (go_simp; exact i32_w _))) ?_
                        simp only [ls0, ls1]
                        refine on_guard (guard_on 5 false 75 rfl rfl rfl) ?_
                        refine st (.bool (decide (t4891 ≥ (l1.length : Int)))) rfl rfl (xr_bin (.int .i64 t4891) (.int .i64 (l1.length : Int)) (.bool (decide (t4891 ≥ (l1.length : Int)))) rfl rfl rfl (B.geq_i64 t4891 (l1.length : Int))) ?_
                        simp only [ls0, ls1]
                        refine on_guard (guard_on 2 true 72 rfl rfl rfl) ?_
                        refine st (.bool (decide (t4891 ≥ (l1.length : Int)))) rfl rfl (xr_pick false (.bool (decide (t4891 ≥ (l1.length : Int)))) rfl rfl rfl) ?_
                        simp only [ls0, ls1]
                        refine st (.bool (decide (t4891 ≥ (l1.length : Int)))) rfl rfl (xr_pick true (.bool (decide (t4891 ≥ (l1.length : Int)))) rfl rfl rfl) ?_
                        simp only [ls0, ls1]
                        refine st (.bool (decide (t4891 ≥ (l1.length : Int)))) rfl rfl (xr_move (.bool (decide (t4891 ≥ (l1.length : Int)))) rfl rfl) ?_
                        simp only [ls0, ls1]
                        by_cases c4948 : t4891 ≥ (l1.length : Int)
                        · rw [if_pos c4948] at H
                          (try rw [(decide_eq_true c4948)])
                          (try simp only [Bool.not_true, Bool.not_false])
                          refine on_guard (guard_on 12 true 82 rfl rfl rfl) ?_
                          obtain ⟨t4949, A4950, H⟩ := Option.bind_eq_some_iff.mp H
                          (try dsimp only at H)
                          refine st_call #[] rfl rfl Try.func13 (by kernel_rfl) rfl rfl (by simp only [List.map_toArray, List.map_cons, List.map_nil]; first | done | rfl) ?_
                          refine (blazonlaw16_awake.calls k4943 t4949  (fun z_ => pal [(0, 0)] (C4935 z_)) w4936 (fun _ => pal_lt rfl _) A4950).mono ?_
                          rintro _ w4952 ⟨C4953, rfl, hs4954⟩
                          refine ⟨_, rfl, ?_⟩
                          replace hs4954 := Step.lift (U := [(0, 0)]) hs4954 [] rfl rfl
                          generalize up C4935 C4953 w4936.heap.size [(0, 0)] = C4953_ at hs4954
                          replace HS4937 := HS4937.trans hs4954 hc rfl
                          (try simp only [Act.put, List.setIfInBounds_toArray, ls0, ls1])
                          refine st (.bool t4949) rfl rfl (xr_pick true (.bool t4949) rfl rfl rfl) ?_
                          simp only [ls0, ls1]
                          refine st (.bool t4949) rfl rfl (xr_assign (.bool t4949) rfl rfl) ?_
                          simp only [ls0, ls1]
                          refine wl_end ?_
                          (try simp only [Act.put, List.setIfInBounds_toArray, ls0, ls1])
                          refine hK4945 _ _ ?_
                          (try clear hK4945 K4945)
                          refine wp_ret ?_
                          (try simp only [Exit.inBlock, Exit.then, Exit.noGoto])
                          (try simp only [Act.put, List.setIfInBounds_toArray, ls0, ls1])
                          obtain rfl := Option.some.inj H
                          refine bodyPost_ret (results_tmp rfl _ _ _) rfl ?_
                          exact ⟨_, rfl, HS4937⟩
                        · rw [if_neg c4948] at H
                          (try rw [(decide_eq_false c4948)])
                          (try simp only [Bool.not_true, Bool.not_false])
                          refine sk_guard (guard_off 12 true 82 rfl rfl false (by decide) rfl) rfl ?_
                          simp only [ls0, ls1]
                          refine st (.bool false) rfl rfl (xr_pick false (.bool false) rfl rfl rfl) ?_
                          simp only [ls0, ls1]
                          refine st (.bool false) rfl rfl (xr_assign (.bool false) rfl rfl) ?_
                          simp only [ls0, ls1]
                          refine wl_end ?_
                          (try simp only [Act.put, List.setIfInBounds_toArray, ls0, ls1])
                          refine hK4945 _ _ ?_
                          (try clear hK4945 K4945)
                          refine wp_ret ?_
                          (try simp only [Exit.inBlock, Exit.then, Exit.noGoto])
                          (try simp only [Act.put, List.setIfInBounds_toArray, ls0, ls1])
                          obtain rfl := Option.some.inj H
                          refine bodyPost_ret (results_tmp rfl _ _ _) rfl ?_
                          exact ⟨_, rfl, HS4937⟩
                      · rw [if_neg c4947] at H
                        (try rw [(decide_eq_false c4947)])
                        (try simp only [Bool.not_true, Bool.not_false])
                        refine sk_guard (guard_off 5 false 75 rfl rfl true (by decide) rfl) rfl ?_
                        simp only [ls0, ls1]
                        refine sk_guard (guard_off 5 false 75 rfl rfl true (by decide) rfl) rfl ?_
                        simp only [ls0, ls1]
                        refine sk_guard (guard_off 5 false 75 rfl rfl true (by decide) rfl) rfl ?_
                        simp only [ls0, ls1]
                        refine sk_guard (guard_off 5 false 75 rfl rfl true (by decide) rfl) rfl ?_
                        simp only [ls0, ls1]
                        refine on_guard (guard_on 2 true 72 rfl rfl rfl) ?_
                        refine st (.bool true) rfl rfl (xr_pick true (.bool true) rfl rfl rfl) ?_
                        simp only [ls0, ls1]
                        refine st (.bool true) rfl rfl (xr_pick true (.bool true) rfl rfl rfl) ?_
                        simp only [ls0, ls1]
                        refine st (.bool true) rfl rfl (xr_move (.bool true) rfl rfl) ?_
                        simp only [ls0, ls1]
                        refine on_guard (guard_on 12 true 82 rfl rfl rfl) ?_
                        obtain ⟨t4955, A4956, H⟩ := Option.bind_eq_some_iff.mp H
                        (try dsimp only at H)
                        refine st_call #[] rfl rfl Try.func13 (by kernel_rfl) rfl rfl (by simp only [List.map_toArray, List.map_cons, List.map_nil]; first | done | rfl) ?_
                        refine (blazonlaw16_awake.calls k4943 t4955  (fun z_ => pal [(0, 0)] (C4935 z_)) w4936 (fun _ => pal_lt rfl _) A4956).mono ?_
                        rintro _ w4958 ⟨C4959, rfl, hs4960⟩
                        refine ⟨_, rfl, ?_⟩
                        replace hs4960 := Step.lift (U := [(0, 0)]) hs4960 [] rfl rfl
                        generalize up C4935 C4959 w4936.heap.size [(0, 0)] = C4959_ at hs4960
                        replace HS4937 := HS4937.trans hs4960 hc rfl
                        (try simp only [Act.put, List.setIfInBounds_toArray, ls0, ls1])
                        refine st (.bool t4955) rfl rfl (xr_pick true (.bool t4955) rfl rfl rfl) ?_
                        simp only [ls0, ls1]
                        refine st (.bool t4955) rfl rfl (xr_assign (.bool t4955) rfl rfl) ?_
                        simp only [ls0, ls1]
                        refine wl_end ?_
                        (try simp only [Act.put, List.setIfInBounds_toArray, ls0, ls1])
                        refine hK4945 _ _ ?_
                        (try clear hK4945 K4945)
                        refine wp_ret ?_
                        (try simp only [Exit.inBlock, Exit.then, Exit.noGoto])
                        (try simp only [Act.put, List.setIfInBounds_toArray, ls0, ls1])
                        obtain rfl := Option.some.inj H
                        refine bodyPost_ret (results_tmp rfl _ _ _) rfl ?_
                        exact ⟨_, rfl, HS4937⟩
                    · rw [if_neg c4946] at H
                      (try rw [(decide_eq_false c4946)])
                      (try simp only [Bool.not_true, Bool.not_false])
                      refine sk_guard (guard_off 2 true 72 rfl rfl false (by decide) rfl) rfl ?_
                      simp only [ls0, ls1]
                      refine sk_guard (guard_off 2 true 72 rfl rfl false (by decide) rfl) rfl ?_
                      simp only [ls0, ls1]
                      refine sk_guard (guard_off 2 true 72 rfl rfl false (by decide) rfl) rfl ?_
                      simp only [ls0, ls1]
                      refine sk_guard (guard_und 5 false 75 rfl rfl rfl) rfl ?_
                      simp only [ls0, ls1]
                      refine sk_guard (guard_und 5 false 75 rfl rfl rfl) rfl ?_
                      simp only [ls0, ls1]
                      refine sk_guard (guard_und 5 false 75 rfl rfl rfl) rfl ?_
                      simp only [ls0, ls1]
                      refine sk_guard (guard_und 5 false 75 rfl rfl rfl) rfl ?_
                      simp only [ls0, ls1]
                      refine sk_guard (guard_off 2 true 72 rfl rfl false (by decide) rfl) rfl ?_
                      simp only [ls0, ls1]
                      refine st (.bool false) rfl rfl (xr_pick false (.bool false) rfl rfl rfl) ?_
                      simp only [ls0, ls1]
                      refine st (.bool false) rfl rfl (xr_move (.bool false) rfl rfl) ?_
                      simp only [ls0, ls1]
                      refine sk_guard (guard_off 12 true 82 rfl rfl false (by decide) rfl) rfl ?_
                      simp only [ls0, ls1]
                      refine st (.bool false) rfl rfl (xr_pick false (.bool false) rfl rfl rfl) ?_
                      simp only [ls0, ls1]
                      refine st (.bool false) rfl rfl (xr_assign (.bool false) rfl rfl) ?_
                      simp only [ls0, ls1]
                      refine wl_end ?_
                      (try simp only [Act.put, List.setIfInBounds_toArray, ls0, ls1])
                      refine hK4945 _ _ ?_
                      (try clear hK4945 K4945)
                      refine wp_ret ?_
                      (try simp only [Exit.inBlock, Exit.then, Exit.noGoto])
                      (try simp only [Act.put, List.setIfInBounds_toArray, ls0, ls1])
                      obtain rfl := Option.some.inj H
                      refine bodyPost_ret (results_tmp rfl _ _ _) rfl ?_
                      exact ⟨_, rfl, HS4937⟩
                  · rw [if_neg c4944] at H
                    (try rw [(Bool.eq_false_iff.mpr c4944)])
                    (try simp only [Bool.not_true, Bool.not_false])
                    refine wp_cond_false rfl ?_
                    refine wp_skip ?_
                    (try simp only [Act.put, List.setIfInBounds_toArray, ls0, ls1])
                    refine hK4901 _ _ ?_
                    (try clear hK4901 K4901)
                    refine wp_seq_k fun K4961 hK4961 => ?_
                    refine wl_region ?_
                    refine st (.int .i64 t4892) rfl rfl (xr_move (.int .i64 t4892) rfl rfl) ?_
                    simp only [ls0, ls1]
                    refine st (.bool (decide (t4892 = 0))) rfl rfl (xr_bin (.int .i64 t4892) (.int .i64 0) (.bool (decide (t4892 = 0))) rfl rfl rfl (B.eql_i64 t4892 0)) ?_
                    simp only [ls0, ls1]
                    refine st (.bool (decide (t4892 = 0))) rfl rfl (xr_move (.bool (decide (t4892 = 0))) rfl rfl) ?_
                    simp only [ls0, ls1]
                    by_cases c4962 : t4892 = 0
                    · rw [if_pos c4962] at H
                      (try rw [(decide_eq_true c4962)])
                      (try simp only [Bool.not_true, Bool.not_false])
                      refine on_guard (guard_on 2 true 87 rfl rfl rfl) ?_
                      refine st (.int .u64 t4890) rfl rfl (xr_move (.int .u64 t4890) rfl rfl) ?_
                      simp only [ls0, ls1]
                      refine on_guard (guard_on 2 true 87 rfl rfl rfl) ?_
                      refine st (.int .u64 t4843) rfl rfl (xr_move (.int .u64 t4843) rfl rfl) ?_
                      simp only [ls0, ls1]
                      refine on_guard (guard_on 2 true 87 rfl rfl rfl) ?_
                      refine st (.int .u64 t4852) rfl rfl (xr_move (.int .u64 t4852) rfl rfl) ?_
                      simp only [ls0, ls1]
                      refine on_guard (guard_on 2 true 87 rfl rfl rfl) ?_
                      refine st (.int .u64 (Go.bits .or .u64 t4843 t4852)) rfl rfl (xr_bin (.int .u64 t4843) (.int .u64 t4852) (.int .u64 (Go.bits .or .u64 t4843 t4852)) rfl rfl rfl (B.or_u64 t4843 t4852)) ?_
                      simp only [ls0, ls1]
                      refine on_guard (guard_on 2 true 87 rfl rfl rfl) ?_
                      refine st (.bool (decide (t4890 = (Go.bits .or .u64 t4843 t4852)))) rfl rfl (xr_bin (.int .u64 t4890) (.int .u64 (Go.bits .or .u64 t4843 t4852)) (.bool (decide (t4890 = (Go.bits .or .u64 t4843 t4852)))) rfl rfl rfl (B.eql_u64 t4890 (Go.bits .or .u64 t4843 t4852))) ?_
                      simp only [ls0, ls1]
                      refine st (.bool (decide (t4890 = (Go.bits .or .u64 t4843 t4852)))) rfl rfl (xr_pick true (.bool (decide (t4890 = (Go.bits .or .u64 t4843 t4852)))) rfl rfl rfl) ?_
                      simp only [ls0, ls1]
                      refine st (.bool (decide (t4890 = (Go.bits .or .u64 t4843 t4852)))) rfl rfl (xr_move (.bool (decide (t4890 = (Go.bits .or .u64 t4843 t4852)))) rfl rfl) ?_
                      simp only [ls0, ls1]
                      by_cases c4963 : t4890 = (Go.bits .or .u64 t4843 t4852)
                      · rw [if_pos c4963] at H
                        (try rw [(decide_eq_true c4963)])
                        (try simp only [Bool.not_true, Bool.not_false])
                        refine on_guard (guard_on 9 true 94 rfl rfl rfl) ?_
                        refine st (.int .u64 t4843) rfl rfl (xr_move (.int .u64 t4843) rfl rfl) ?_
                        simp only [ls0, ls1]
                        refine on_guard (guard_on 9 true 94 rfl rfl rfl) ?_
                        refine st (.int .u64 t4890) rfl rfl (xr_move (.int .u64 t4890) rfl rfl) ?_
                        simp only [ls0, ls1]
                        refine on_guard (guard_on 9 true 94 rfl rfl rfl) ?_
                        obtain ⟨t4964, A4965, H⟩ := Option.bind_eq_some_iff.mp H
                        (try dsimp only at H)
                        refine st_call #[.int .u64 t4843, .int .u64 t4890] rfl rfl Try.func21 (by kernel_rfl) rfl rfl (by simp only [List.map_toArray, List.map_cons, List.map_nil]; first | done | rfl) ?_
                        refine (row_Within.calls t4843 t4890 t4964  (fun z_ => pal [(0, 0)] (C4935 z_)) w4936 (fun _ => pal_lt rfl _) A4965).mono ?_
                        rintro _ w4967 ⟨C4968, rfl, hs4969⟩
                        refine ⟨_, rfl, ?_⟩
                        replace hs4969 := Step.lift (U := [(0, 0)]) hs4969 [] rfl rfl
                        generalize up C4935 C4968 w4936.heap.size [(0, 0)] = C4968_ at hs4969
                        replace HS4937 := HS4937.trans hs4969 hc rfl
                        (try simp only [Act.put, List.setIfInBounds_toArray, ls0, ls1])
                        refine st (.bool t4964) rfl rfl (xr_pick true (.bool t4964) rfl rfl rfl) ?_
                        simp only [ls0, ls1]
                        refine st (.bool t4964) rfl rfl (xr_move (.bool t4964) rfl rfl) ?_
                        simp only [ls0, ls1]
                        by_cases c4970 : t4964 = true
                        · rw [if_pos c4970] at H
                          (try rw [c4970])
                          (try simp only [Bool.not_true, Bool.not_false])
                          refine on_guard (guard_on 14 true 99 rfl rfl rfl) ?_
                          refine st (.int .u64 t4852) rfl rfl (xr_move (.int .u64 t4852) rfl rfl) ?_
                          simp only [ls0, ls1]
                          refine on_guard (guard_on 14 true 99 rfl rfl rfl) ?_
                          refine st (.int .u64 t4890) rfl rfl (xr_move (.int .u64 t4890) rfl rfl) ?_
                          simp only [ls0, ls1]
                          refine on_guard (guard_on 14 true 99 rfl rfl rfl) ?_
                          obtain ⟨t4971, A4972, H⟩ := Option.bind_eq_some_iff.mp H
                          (try dsimp only at H)
                          refine st_call #[.int .u64 t4852, .int .u64 t4890] rfl rfl Try.func21 (by kernel_rfl) rfl rfl (by simp only [List.map_toArray, List.map_cons, List.map_nil]; first | done | rfl) ?_
                          refine (row_Within.calls t4852 t4890 t4971  (fun z_ => pal [(0, 0)] (C4968_ z_)) w4967 (fun _ => pal_lt rfl _) A4972).mono ?_
                          rintro _ w4974 ⟨C4975, rfl, hs4976⟩
                          refine ⟨_, rfl, ?_⟩
                          replace hs4976 := Step.lift (U := [(0, 0)]) hs4976 [] rfl rfl
                          generalize up C4968_ C4975 w4967.heap.size [(0, 0)] = C4975_ at hs4976
                          replace HS4937 := HS4937.trans hs4976 hc rfl
                          (try simp only [Act.put, List.setIfInBounds_toArray, ls0, ls1])
                          refine st (.bool t4971) rfl rfl (xr_pick true (.bool t4971) rfl rfl rfl) ?_
                          simp only [ls0, ls1]
                          refine st (.bool t4971) rfl rfl (xr_move (.bool t4971) rfl rfl) ?_
                          simp only [ls0, ls1]
                          by_cases c4977 : t4971 = true
                          · rw [if_pos c4977] at H
                            (try rw [c4977])
                            (try simp only [Bool.not_true, Bool.not_false])
                            refine on_guard (guard_on 19 true 104 rfl rfl rfl) ?_
                            refine st (.int .u64 t4890) rfl rfl (xr_move (.int .u64 t4890) rfl rfl) ?_
                            simp only [ls0, ls1]
                            refine on_guard (guard_on 19 true 104 rfl rfl rfl) ?_
                            obtain ⟨t4978, A4979, H⟩ := Option.bind_eq_some_iff.mp H
                            (try dsimp only at H)
                            refine st_call #[.int .u64 t4890] rfl rfl Try.func19 (by kernel_rfl) rfl rfl (by simp only [List.map_toArray, List.map_cons, List.map_nil]; first | done | rfl) ?_
                            refine (row_Count.calls t4890 t4978  (fun z_ => pal [(0, 0)] (C4975_ z_)) w4974 (fun _ => pal_lt rfl _) A4979).mono ?_
                            rintro _ w4981 ⟨C4982, rfl, hs4983⟩
                            refine ⟨_, rfl, ?_⟩
                            replace hs4983 := Step.lift (U := [(0, 0)]) hs4983 [] rfl rfl
                            generalize up C4975_ C4982 w4974.heap.size [(0, 0)] = C4982_ at hs4983
                            replace HS4937 := HS4937.trans hs4983 hc rfl
                            (try simp only [Act.put, List.setIfInBounds_toArray, ls0, ls1])
                            refine on_guard (guard_on 19 true 104 rfl rfl rfl) ?_
                            refine st (.int .u64 t4843) rfl rfl (xr_move (.int .u64 t4843) rfl rfl) ?_
                            simp only [ls0, ls1]
                            refine on_guard (guard_on 19 true 104 rfl rfl rfl) ?_
                            obtain ⟨t4984, A4985, H⟩ := Option.bind_eq_some_iff.mp H
                            (try dsimp only at H)
                            refine st_call #[.int .u64 t4843] rfl rfl Try.func19 (by kernel_rfl) rfl rfl (by simp only [List.map_toArray, List.map_cons, List.map_nil]; first | done | rfl) ?_
                            refine (row_Count.calls t4843 t4984  (fun z_ => pal [(0, 0)] (C4982_ z_)) w4981 (fun _ => pal_lt rfl _) A4985).mono ?_
                            rintro _ w4987 ⟨C4988, rfl, hs4989⟩
                            refine ⟨_, rfl, ?_⟩
                            replace hs4989 := Step.lift (U := [(0, 0)]) hs4989 [] rfl rfl
                            generalize up C4982_ C4988 w4981.heap.size [(0, 0)] = C4988_ at hs4989
                            replace HS4937 := HS4937.trans hs4989 hc rfl
                            (try simp only [Act.put, List.setIfInBounds_toArray, ls0, ls1])
                            refine on_guard (guard_on 19 true 104 rfl rfl rfl) ?_
                            refine st (.int .u64 t4852) rfl rfl (xr_move (.int .u64 t4852) rfl rfl) ?_
                            simp only [ls0, ls1]
                            refine on_guard (guard_on 19 true 104 rfl rfl rfl) ?_
                            obtain ⟨t4990, A4991, H⟩ := Option.bind_eq_some_iff.mp H
                            (try dsimp only at H)
                            refine st_call #[.int .u64 t4852] rfl rfl Try.func19 (by kernel_rfl) rfl rfl (by simp only [List.map_toArray, List.map_cons, List.map_nil]; first | done | rfl) ?_
                            refine (row_Count.calls t4852 t4990  (fun z_ => pal [(0, 0)] (C4988_ z_)) w4987 (fun _ => pal_lt rfl _) A4991).mono ?_
                            rintro _ w4993 ⟨C4994, rfl, hs4995⟩
                            refine ⟨_, rfl, ?_⟩
                            replace hs4995 := Step.lift (U := [(0, 0)]) hs4995 [] rfl rfl
                            generalize up C4988_ C4994 w4987.heap.size [(0, 0)] = C4994_ at hs4995
                            replace HS4937 := HS4937.trans hs4995 hc rfl
                            (try simp only [Act.put, List.setIfInBounds_toArray, ls0, ls1])
                            refine on_guard (guard_on 19 true 104 rfl rfl rfl) ?_
                            refine st (.int .i64 (wrap64 (t4984 + t4990))) rfl rfl (xr_bin (.int .i64 t4984) (.int .i64 t4990) (.int .i64 (wrap64 (t4984 + t4990))) rfl rfl rfl (B.add_i64 t4984 t4990)) ?_
                            simp only [ls0, ls1]
                            refine on_guard (guard_on 19 true 104 rfl rfl rfl) ?_
                            refine st (.bool (decide (t4978 ≤ (wrap64 (t4984 + t4990))))) rfl rfl (xr_bin (.int .i64 t4978) (.int .i64 (wrap64 (t4984 + t4990))) (.bool (decide (t4978 ≤ (wrap64 (t4984 + t4990))))) rfl rfl rfl (B.leq_i64 t4978 (wrap64 (t4984 + t4990)))) ?_
                            simp only [ls0, ls1]
                            refine st (.bool (decide (t4978 ≤ (wrap64 (t4984 + t4990))))) rfl rfl (xr_pick true (.bool (decide (t4978 ≤ (wrap64 (t4984 + t4990))))) rfl rfl rfl) ?_
                            simp only [ls0, ls1]
                            refine st (.bool (decide (t4978 ≤ (wrap64 (t4984 + t4990))))) rfl rfl (xr_move (.bool (decide (t4978 ≤ (wrap64 (t4984 + t4990))))) rfl rfl) ?_
                            simp only [ls0, ls1]
                            by_cases c4996 : t4978 ≤ (wrap64 (t4984 + t4990))
                            · rw [if_pos c4996] at H
                              (try rw [(decide_eq_true c4996)])
                              (try simp only [Bool.not_true, Bool.not_false])
                              refine on_guard (guard_on 29 true 114 rfl rfl rfl) ?_
                              obtain ⟨t4997, A4998, H⟩ := Option.bind_eq_some_iff.mp H
                              (try dsimp only at H)
                              refine st_call #[] rfl rfl Try.func13 (by kernel_rfl) rfl rfl (by simp only [List.map_toArray, List.map_cons, List.map_nil]; first | done | rfl) ?_
                              refine (blazonlaw16_awake.calls k4943 t4997  (fun z_ => pal [(0, 0)] (C4994_ z_)) w4993 (fun _ => pal_lt rfl _) A4998).mono ?_
                              rintro _ w5000 ⟨C5001, rfl, hs5002⟩
                              refine ⟨_, rfl, ?_⟩
                              replace hs5002 := Step.lift (U := [(0, 0)]) hs5002 [] rfl rfl
                              generalize up C4994_ C5001 w4993.heap.size [(0, 0)] = C5001_ at hs5002
                              replace HS4937 := HS4937.trans hs5002 hc rfl
                              (try simp only [Act.put, List.setIfInBounds_toArray, ls0, ls1])
                              refine st (.bool t4997) rfl rfl (xr_pick true (.bool t4997) rfl rfl rfl) ?_
                              simp only [ls0, ls1]
                              refine st (.bool t4997) rfl rfl (xr_assign (.bool t4997) rfl rfl) ?_
                              simp only [ls0, ls1]
                              refine wl_end ?_
                              (try simp only [Act.put, List.setIfInBounds_toArray, ls0, ls1])
                              refine hK4961 _ _ ?_
                              (try clear hK4961 K4961)
                              refine wp_ret ?_
                              (try simp only [Exit.inBlock, Exit.then, Exit.noGoto])
                              (try simp only [Act.put, List.setIfInBounds_toArray, ls0, ls1])
                              obtain rfl := Option.some.inj H
                              refine bodyPost_ret (results_tmp rfl _ _ _) rfl ?_
                              exact ⟨_, rfl, HS4937⟩
                            · rw [if_neg c4996] at H
                              (try rw [(decide_eq_false c4996)])
                              (try simp only [Bool.not_true, Bool.not_false])
                              refine sk_guard (guard_off 29 true 114 rfl rfl false (by decide) rfl) rfl ?_
                              simp only [ls0, ls1]
                              refine st (.bool false) rfl rfl (xr_pick false (.bool false) rfl rfl rfl) ?_
                              simp only [ls0, ls1]
                              refine st (.bool false) rfl rfl (xr_assign (.bool false) rfl rfl) ?_
                              simp only [ls0, ls1]
                              refine wl_end ?_
                              (try simp only [Act.put, List.setIfInBounds_toArray, ls0, ls1])
                              refine hK4961 _ _ ?_
                              (try clear hK4961 K4961)
                              refine wp_ret ?_
                              (try simp only [Exit.inBlock, Exit.then, Exit.noGoto])
                              (try simp only [Act.put, List.setIfInBounds_toArray, ls0, ls1])
                              obtain rfl := Option.some.inj H
                              refine bodyPost_ret (results_tmp rfl _ _ _) rfl ?_
                              exact ⟨_, rfl, HS4937⟩
                          · rw [if_neg c4977] at H
                            (try rw [(Bool.eq_false_iff.mpr c4977)])
                            (try simp only [Bool.not_true, Bool.not_false])
                            refine sk_guard (guard_off 19 true 104 rfl rfl false (by decide) rfl) rfl ?_
                            simp only [ls0, ls1]
                            refine sk_guard (guard_off 19 true 104 rfl rfl false (by decide) rfl) rfl ?_
                            simp only [ls0, ls1]
                            refine sk_guard (guard_off 19 true 104 rfl rfl false (by decide) rfl) rfl ?_
                            simp only [ls0, ls1]
                            refine sk_guard (guard_off 19 true 104 rfl rfl false (by decide) rfl) rfl ?_
                            simp only [ls0, ls1]
                            refine sk_guard (guard_off 19 true 104 rfl rfl false (by decide) rfl) rfl ?_
                            simp only [ls0, ls1]
                            refine sk_guard (guard_off 19 true 104 rfl rfl false (by decide) rfl) rfl ?_
                            simp only [ls0, ls1]
                            refine sk_guard (guard_off 19 true 104 rfl rfl false (by decide) rfl) rfl ?_
                            simp only [ls0, ls1]
                            refine sk_guard (guard_off 19 true 104 rfl rfl false (by decide) rfl) rfl ?_
                            simp only [ls0, ls1]
                            refine st (.bool false) rfl rfl (xr_pick false (.bool false) rfl rfl rfl) ?_
                            simp only [ls0, ls1]
                            refine st (.bool false) rfl rfl (xr_move (.bool false) rfl rfl) ?_
                            simp only [ls0, ls1]
                            refine sk_guard (guard_off 29 true 114 rfl rfl false (by decide) rfl) rfl ?_
                            simp only [ls0, ls1]
                            refine st (.bool false) rfl rfl (xr_pick false (.bool false) rfl rfl rfl) ?_
                            simp only [ls0, ls1]
                            refine st (.bool false) rfl rfl (xr_assign (.bool false) rfl rfl) ?_
                            simp only [ls0, ls1]
                            refine wl_end ?_
                            (try simp only [Act.put, List.setIfInBounds_toArray, ls0, ls1])
                            refine hK4961 _ _ ?_
                            (try clear hK4961 K4961)
                            refine wp_ret ?_
                            (try simp only [Exit.inBlock, Exit.then, Exit.noGoto])
                            (try simp only [Act.put, List.setIfInBounds_toArray, ls0, ls1])
                            obtain rfl := Option.some.inj H
                            refine bodyPost_ret (results_tmp rfl _ _ _) rfl ?_
                            exact ⟨_, rfl, HS4937⟩
                        · rw [if_neg c4970] at H
                          (try rw [(Bool.eq_false_iff.mpr c4970)])
                          (try simp only [Bool.not_true, Bool.not_false])
                          refine sk_guard (guard_off 14 true 99 rfl rfl false (by decide) rfl) rfl ?_
                          simp only [ls0, ls1]
                          refine sk_guard (guard_off 14 true 99 rfl rfl false (by decide) rfl) rfl ?_
                          simp only [ls0, ls1]
                          refine sk_guard (guard_off 14 true 99 rfl rfl false (by decide) rfl) rfl ?_
                          simp only [ls0, ls1]
                          refine st (.bool false) rfl rfl (xr_pick false (.bool false) rfl rfl rfl) ?_
                          simp only [ls0, ls1]
                          refine st (.bool false) rfl rfl (xr_move (.bool false) rfl rfl) ?_
                          simp only [ls0, ls1]
                          refine sk_guard (guard_off 19 true 104 rfl rfl false (by decide) rfl) rfl ?_
                          simp only [ls0, ls1]
                          refine sk_guard (guard_off 19 true 104 rfl rfl false (by decide) rfl) rfl ?_
                          simp only [ls0, ls1]
                          refine sk_guard (guard_off 19 true 104 rfl rfl false (by decide) rfl) rfl ?_
                          simp only [ls0, ls1]
                          refine sk_guard (guard_off 19 true 104 rfl rfl false (by decide) rfl) rfl ?_
                          simp only [ls0, ls1]
                          refine sk_guard (guard_off 19 true 104 rfl rfl false (by decide) rfl) rfl ?_
                          simp only [ls0, ls1]
                          refine sk_guard (guard_off 19 true 104 rfl rfl false (by decide) rfl) rfl ?_
                          simp only [ls0, ls1]
                          refine sk_guard (guard_off 19 true 104 rfl rfl false (by decide) rfl) rfl ?_
                          simp only [ls0, ls1]
                          refine sk_guard (guard_off 19 true 104 rfl rfl false (by decide) rfl) rfl ?_
                          simp only [ls0, ls1]
                          refine st (.bool false) rfl rfl (xr_pick false (.bool false) rfl rfl rfl) ?_
                          simp only [ls0, ls1]
                          refine st (.bool false) rfl rfl (xr_move (.bool false) rfl rfl) ?_
                          simp only [ls0, ls1]
                          refine sk_guard (guard_off 29 true 114 rfl rfl false (by decide) rfl) rfl ?_
                          simp only [ls0, ls1]
                          refine st (.bool false) rfl rfl (xr_pick false (.bool false) rfl rfl rfl) ?_
                          simp only [ls0, ls1]
                          refine st (.bool false) rfl rfl (xr_assign (.bool false) rfl rfl) ?_
                          simp only [ls0, ls1]
                          refine wl_end ?_
                          (try simp only [Act.put, List.setIfInBounds_toArray, ls0, ls1])
                          refine hK4961 _ _ ?_
                          (try clear hK4961 K4961)
                          refine wp_ret ?_
                          (try simp only [Exit.inBlock, Exit.then, Exit.noGoto])
                          (try simp only [Act.put, List.setIfInBounds_toArray, ls0, ls1])
                          obtain rfl := Option.some.inj H
                          refine bodyPost_ret (results_tmp rfl _ _ _) rfl ?_
                          exact ⟨_, rfl, HS4937⟩
                      · rw [if_neg c4963] at H
                        (try rw [(decide_eq_false c4963)])
                        (try simp only [Bool.not_true, Bool.not_false])
                        refine sk_guard (guard_off 9 true 94 rfl rfl false (by decide) rfl) rfl ?_
                        simp only [ls0, ls1]
                        refine sk_guard (guard_off 9 true 94 rfl rfl false (by decide) rfl) rfl ?_
                        simp only [ls0, ls1]
                        refine sk_guard (guard_off 9 true 94 rfl rfl false (by decide) rfl) rfl ?_
                        simp only [ls0, ls1]
                        refine st (.bool false) rfl rfl (xr_pick false (.bool false) rfl rfl rfl) ?_
                        simp only [ls0, ls1]
                        refine st (.bool false) rfl rfl (xr_move (.bool false) rfl rfl) ?_
                        simp only [ls0, ls1]
                        refine sk_guard (guard_off 14 true 99 rfl rfl false (by decide) rfl) rfl ?_
                        simp only [ls0, ls1]
                        refine sk_guard (guard_off 14 true 99 rfl rfl false (by decide) rfl) rfl ?_
                        simp only [ls0, ls1]
                        refine sk_guard (guard_off 14 true 99 rfl rfl false (by decide) rfl) rfl ?_
                        simp only [ls0, ls1]
                        refine st (.bool false) rfl rfl (xr_pick false (.bool false) rfl rfl rfl) ?_
                        simp only [ls0, ls1]
                        refine st (.bool false) rfl rfl (xr_move (.bool false) rfl rfl) ?_
                        simp only [ls0, ls1]
                        refine sk_guard (guard_off 19 true 104 rfl rfl false (by decide) rfl) rfl ?_
                        simp only [ls0, ls1]
                        refine sk_guard (guard_off 19 true 104 rfl rfl false (by decide) rfl) rfl ?_
                        simp only [ls0, ls1]
                        refine sk_guard (guard_off 19 true 104 rfl rfl false (by decide) rfl) rfl ?_
                        simp only [ls0, ls1]
                        refine sk_guard (guard_off 19 true 104 rfl rfl false (by decide) rfl) rfl ?_
                        simp only [ls0, ls1]
                        refine sk_guard (guard_off 19 true 104 rfl rfl false (by decide) rfl) rfl ?_
                        simp only [ls0, ls1]
                        refine sk_guard (guard_off 19 true 104 rfl rfl false (by decide) rfl) rfl ?_
                        simp only [ls0, ls1]
                        refine sk_guard (guard_off 19 true 104 rfl rfl false (by decide) rfl) rfl ?_
                        simp only [ls0, ls1]
                        refine sk_guard (guard_off 19 true 104 rfl rfl false (by decide) rfl) rfl ?_
                        simp only [ls0, ls1]
                        refine st (.bool false) rfl rfl (xr_pick false (.bool false) rfl rfl rfl) ?_
                        simp only [ls0, ls1]
                        refine st (.bool false) rfl rfl (xr_move (.bool false) rfl rfl) ?_
                        simp only [ls0, ls1]
                        refine sk_guard (guard_off 29 true 114 rfl rfl false (by decide) rfl) rfl ?_
                        simp only [ls0, ls1]
                        refine st (.bool false) rfl rfl (xr_pick false (.bool false) rfl rfl rfl) ?_
                        simp only [ls0, ls1]
                        refine st (.bool false) rfl rfl (xr_assign (.bool false) rfl rfl) ?_
                        simp only [ls0, ls1]
                        refine wl_end ?_
                        (try simp only [Act.put, List.setIfInBounds_toArray, ls0, ls1])
                        refine hK4961 _ _ ?_
                        (try clear hK4961 K4961)
                        refine wp_ret ?_
                        (try simp only [Exit.inBlock, Exit.then, Exit.noGoto])
                        (try simp only [Act.put, List.setIfInBounds_toArray, ls0, ls1])
                        obtain rfl := Option.some.inj H
                        refine bodyPost_ret (results_tmp rfl _ _ _) rfl ?_
                        exact ⟨_, rfl, HS4937⟩
                    · rw [if_neg c4962] at H
                      (try rw [(decide_eq_false c4962)])
                      (try simp only [Bool.not_true, Bool.not_false])
                      refine sk_guard (guard_off 2 true 87 rfl rfl false (by decide) rfl) rfl ?_
                      simp only [ls0, ls1]
                      refine sk_guard (guard_off 2 true 87 rfl rfl false (by decide) rfl) rfl ?_
                      simp only [ls0, ls1]
                      refine sk_guard (guard_off 2 true 87 rfl rfl false (by decide) rfl) rfl ?_
                      simp only [ls0, ls1]
                      refine sk_guard (guard_off 2 true 87 rfl rfl false (by decide) rfl) rfl ?_
                      simp only [ls0, ls1]
                      refine sk_guard (guard_off 2 true 87 rfl rfl false (by decide) rfl) rfl ?_
                      simp only [ls0, ls1]
                      refine st (.bool false) rfl rfl (xr_pick false (.bool false) rfl rfl rfl) ?_
                      simp only [ls0, ls1]
                      refine st (.bool false) rfl rfl (xr_move (.bool false) rfl rfl) ?_
                      simp only [ls0, ls1]
                      refine sk_guard (guard_off 9 true 94 rfl rfl false (by decide) rfl) rfl ?_
                      simp only [ls0, ls1]
                      refine sk_guard (guard_off 9 true 94 rfl rfl false (by decide) rfl) rfl ?_
                      simp only [ls0, ls1]
                      refine sk_guard (guard_off 9 true 94 rfl rfl false (by decide) rfl) rfl ?_
                      simp only [ls0, ls1]
                      refine st (.bool false) rfl rfl (xr_pick false (.bool false) rfl rfl rfl) ?_
                      simp only [ls0, ls1]
                      refine st (.bool false) rfl rfl (xr_move (.bool false) rfl rfl) ?_
                      simp only [ls0, ls1]
                      refine sk_guard (guard_off 14 true 99 rfl rfl false (by decide) rfl) rfl ?_
                      simp only [ls0, ls1]
                      refine sk_guard (guard_off 14 true 99 rfl rfl false (by decide) rfl) rfl ?_
                      simp only [ls0, ls1]
                      refine sk_guard (guard_off 14 true 99 rfl rfl false (by decide) rfl) rfl ?_
                      simp only [ls0, ls1]
                      refine st (.bool false) rfl rfl (xr_pick false (.bool false) rfl rfl rfl) ?_
                      simp only [ls0, ls1]
                      refine st (.bool false) rfl rfl (xr_move (.bool false) rfl rfl) ?_
                      simp only [ls0, ls1]
                      refine sk_guard (guard_off 19 true 104 rfl rfl false (by decide) rfl) rfl ?_
                      simp only [ls0, ls1]
                      refine sk_guard (guard_off 19 true 104 rfl rfl false (by decide) rfl) rfl ?_
                      simp only [ls0, ls1]
                      refine sk_guard (guard_off 19 true 104 rfl rfl false (by decide) rfl) rfl ?_
                      simp only [ls0, ls1]
                      refine sk_guard (guard_off 19 true 104 rfl rfl false (by decide) rfl) rfl ?_
                      simp only [ls0, ls1]
                      refine sk_guard (guard_off 19 true 104 rfl rfl false (by decide) rfl) rfl ?_
                      simp only [ls0, ls1]
                      refine sk_guard (guard_off 19 true 104 rfl rfl false (by decide) rfl) rfl ?_
                      simp only [ls0, ls1]
                      refine sk_guard (guard_off 19 true 104 rfl rfl false (by decide) rfl) rfl ?_
                      simp only [ls0, ls1]
                      refine sk_guard (guard_off 19 true 104 rfl rfl false (by decide) rfl) rfl ?_
                      simp only [ls0, ls1]
                      refine st (.bool false) rfl rfl (xr_pick false (.bool false) rfl rfl rfl) ?_
                      simp only [ls0, ls1]
                      refine st (.bool false) rfl rfl (xr_move (.bool false) rfl rfl) ?_
                      simp only [ls0, ls1]
                      refine sk_guard (guard_off 29 true 114 rfl rfl false (by decide) rfl) rfl ?_
                      simp only [ls0, ls1]
                      refine st (.bool false) rfl rfl (xr_pick false (.bool false) rfl rfl rfl) ?_
                      simp only [ls0, ls1]
                      refine st (.bool false) rfl rfl (xr_assign (.bool false) rfl rfl) ?_
                      simp only [ls0, ls1]
                      refine wl_end ?_
                      (try simp only [Act.put, List.setIfInBounds_toArray, ls0, ls1])
                      refine hK4961 _ _ ?_
                      (try clear hK4961 K4961)
                      refine wp_ret ?_
                      (try simp only [Exit.inBlock, Exit.then, Exit.noGoto])
                      (try simp only [Act.put, List.setIfInBounds_toArray, ls0, ls1])
                      obtain rfl := Option.some.inj H
                      refine bodyPost_ret (results_tmp rfl _ _ _) rfl ?_
                      exact ⟨_, rfl, HS4937⟩
              refine wl_region ?_
              refine st (.int .i64 t4845) rfl rfl (xr_move (.int .i64 t4845) rfl rfl) ?_
              simp only [ls0, ls1]
              refine st (.bool (!decide (t4845 = 0))) rfl rfl (xr_bin (.int .i64 t4845) (.int .i64 0) (.bool (!decide (t4845 = 0))) rfl rfl rfl (B.neq_i64 t4845 0)) ?_
              simp only [ls0, ls1]
              refine st (.bool (!decide (t4845 = 0))) rfl rfl (xr_move (.bool (!decide (t4845 = 0))) rfl rfl) ?_
              simp only [ls0, ls1]
              by_cases c5003 : t4845 = 0
              · rw [if_pos c5003] at H
                (try rw [(decide_eq_true c5003)])
                (try simp only [Bool.not_true, Bool.not_false])
                refine on_guard (guard_on 2 false 66 rfl rfl rfl) ?_
                refine st (.int .i64 t4854) rfl rfl (xr_move (.int .i64 t4854) rfl rfl) ?_
                simp only [ls0, ls1]
                refine on_guard (guard_on 2 false 66 rfl rfl rfl) ?_
                refine st (.bool (!decide (t4854 = 0))) rfl rfl (xr_bin (.int .i64 t4854) (.int .i64 0) (.bool (!decide (t4854 = 0))) rfl rfl rfl (B.neq_i64 t4854 0)) ?_
                simp only [ls0, ls1]
                refine st (.bool (!decide (t4854 = 0))) rfl rfl (xr_pick false (.bool (!decide (t4854 = 0))) rfl rfl rfl) ?_
                simp only [ls0, ls1]
                refine wl_end ?_
                (try simp only [Act.put, List.setIfInBounds_toArray, ls0, ls1])
                exact hj4934 _ _ _ (!decide (t4854 = 0)) (fun q_ => List.getD [.slice A0 l0.length c0, undef, .slice A2 l2.length c2, (g4819 3), (g4819 4), (g4819 5), (g4819 6), v4840, .int .i64 t4833, .int .i64 t4834, undef, .int .i64 t4844, undef, undef, .int .i64 t4853, .int .i64 t4854, undef, undef, undef, (g4819 19), (g4819 20), (g4819 21), (g4819 22), (g4819 23), (g4819 24), (g4819 25), (g4819 26), (g4819 27), .bool false, (g4819 29), .tuple #[v4840, .int .i64 t4833, .int .i64 t4834], .slice A0 l0.length c0, .tuple #[v4840, .int .i64 t4833, .int .i64 t4834], v4840, .int .i64 t4833, .int .i64 t4834, .tuple #[.int .u64 t4843, .int .i64 t4844, .int .i64 t4845], v4840, .slice A1 l1.length c1, .tuple #[.int .u64 t4843, .int .i64 t4844, .int .i64 t4845], .int .u64 t4843, .int .i64 t4844, .int .i64 t4845, .tuple #[.int .u64 t4852, .int .i64 t4853, .int .i64 t4854], v4840, .slice A2 l2.length c2, .tuple #[.int .u64 t4852, .int .i64 t4853, .int .i64 t4854], .int .u64 t4852, .int .i64 t4853, .int .i64 t4854, .tuple #[.int .u64 t4890, .int .i64 t4891, .int .i64 t4892], v4840, .slice A4863 y4861.length cp4864, .slice A1 l1.length c1, .slice A4873 y4871.length cp4874, .slice A2 l2.length c2, .slice A4883 y4881.length cp4884, .tuple #[.int .u64 t4890, .int .i64 t4891, .int .i64 t4892], .int .u64 t4890, .int .i64 t4891, .int .i64 t4892, .int .i64 t4834, .bool false, (g4819 63), .int .i64 t4845, .bool false, .bool false, .int .i64 t4854, .bool (!decide (t4854 = 0)), undef, (g4819 70), (g4819 71), (g4819 72), (g4819 73), (g4819 74), (g4819 75), (g4819 76), (g4819 77), (g4819 78), (g4819 79), (g4819 80), (g4819 81), (g4819 82), (g4819 83), (g4819 84), (g4819 85), (g4819 86), (g4819 87), (g4819 88), (g4819 89), (g4819 90), (g4819 91), (g4819 92), (g4819 93), (g4819 94), (g4819 95), (g4819 96), (g4819 97), (g4819 98), (g4819 99), (g4819 100), (g4819 101), (g4819 102), (g4819 103), (g4819 104), (g4819 105), (g4819 106), (g4819 107), (g4819 108), (g4819 109), (g4819 110), (g4819 111), (g4819 112), (g4819 113), (g4819 114), (g4819 115), (g4819 116)] q_ undef)  HS4814 (by omega) HJ4816 H
              · rw [if_neg c5003] at H
                (try rw [(decide_eq_false c5003)])
                (try simp only [Bool.not_true, Bool.not_false])
                refine sk_guard (guard_off 2 false 66 rfl rfl true (by decide) rfl) rfl ?_
                simp only [ls0, ls1]
                refine sk_guard (guard_off 2 false 66 rfl rfl true (by decide) rfl) rfl ?_
                simp only [ls0, ls1]
                refine st (.bool true) rfl rfl (xr_pick true (.bool true) rfl rfl rfl) ?_
                simp only [ls0, ls1]
                refine wl_end ?_
                (try simp only [Act.put, List.setIfInBounds_toArray, ls0, ls1])
                exact hj4934 _ _ _ (true) (fun q_ => List.getD [.slice A0 l0.length c0, undef, .slice A2 l2.length c2, (g4819 3), (g4819 4), (g4819 5), (g4819 6), v4840, .int .i64 t4833, .int .i64 t4834, undef, .int .i64 t4844, undef, undef, .int .i64 t4853, .int .i64 t4854, undef, undef, undef, (g4819 19), (g4819 20), (g4819 21), (g4819 22), (g4819 23), (g4819 24), (g4819 25), (g4819 26), (g4819 27), .bool false, (g4819 29), .tuple #[v4840, .int .i64 t4833, .int .i64 t4834], .slice A0 l0.length c0, .tuple #[v4840, .int .i64 t4833, .int .i64 t4834], v4840, .int .i64 t4833, .int .i64 t4834, .tuple #[.int .u64 t4843, .int .i64 t4844, .int .i64 t4845], v4840, .slice A1 l1.length c1, .tuple #[.int .u64 t4843, .int .i64 t4844, .int .i64 t4845], .int .u64 t4843, .int .i64 t4844, .int .i64 t4845, .tuple #[.int .u64 t4852, .int .i64 t4853, .int .i64 t4854], v4840, .slice A2 l2.length c2, .tuple #[.int .u64 t4852, .int .i64 t4853, .int .i64 t4854], .int .u64 t4852, .int .i64 t4853, .int .i64 t4854, .tuple #[.int .u64 t4890, .int .i64 t4891, .int .i64 t4892], v4840, .slice A4863 y4861.length cp4864, .slice A1 l1.length c1, .slice A4873 y4871.length cp4874, .slice A2 l2.length c2, .slice A4883 y4881.length cp4884, .tuple #[.int .u64 t4890, .int .i64 t4891, .int .i64 t4892], .int .u64 t4890, .int .i64 t4891, .int .i64 t4892, .int .i64 t4834, .bool false, (g4819 63), .int .i64 t4845, .bool true, .bool true, undef, undef, undef, (g4819 70), (g4819 71), (g4819 72), (g4819 73), (g4819 74), (g4819 75), (g4819 76), (g4819 77), (g4819 78), (g4819 79), (g4819 80), (g4819 81), (g4819 82), (g4819 83), (g4819 84), (g4819 85), (g4819 86), (g4819 87), (g4819 88), (g4819 89), (g4819 90), (g4819 91), (g4819 92), (g4819 93), (g4819 94), (g4819 95), (g4819 96), (g4819 97), (g4819 98), (g4819 99), (g4819 100), (g4819 101), (g4819 102), (g4819 103), (g4819 104), (g4819 105), (g4819 106), (g4819 107), (g4819 108), (g4819 109), (g4819 110), (g4819 111), (g4819 112), (g4819 113), (g4819 114), (g4819 115), (g4819 116)] q_ undef)  HS4814 (by omega) HJ4816 H
            · rw [if_neg c4900] at H
              (try rw [(decide_eq_false c4900)])
              (try simp only [Bool.not_true, Bool.not_false])
              refine wp_cond_true rfl ?_
              refine wp_seq_k fun K5004 hK5004 => ?_
              refine wl_region ?_
              obtain ⟨t5005, A5006, H⟩ := Option.bind_eq_some_iff.mp H
              (try dsimp only at H)
              refine st_call #[] rfl rfl Try.func13 (by kernel_rfl) rfl rfl (by simp only [List.map_toArray, List.map_cons, List.map_nil]; first | done | rfl) ?_
              refine (blazonlaw16_awake.calls k4822 t5005  (fun z_ => pal [(0, 0)] (C4896_ z_)) w4895 (fun _ => pal_lt rfl _) A5006).mono ?_
              rintro _ w5008 ⟨C5009, rfl, hs5010⟩
              refine ⟨_, rfl, ?_⟩
              replace hs5010 := Step.lift (U := [(0, 0)]) hs5010 [] rfl rfl
              generalize up C4896_ C5009 w4895.heap.size [(0, 0)] = C5009_ at hs5010
              replace HS4814 := HS4814.trans hs5010 hc rfl
              (try simp only [Act.put, List.setIfInBounds_toArray, ls0, ls1])
              refine st (.bool t5005) rfl rfl (xr_assign (.bool t5005) rfl rfl) ?_
              simp only [ls0, ls1]
              refine wl_end ?_
              (try simp only [Act.put, List.setIfInBounds_toArray, ls0, ls1])
              refine hK5004 _ _ ?_
              (try clear hK5004 K5004)
              refine wp_ret ?_
              (try simp only [Exit.inBlock, Exit.then, Exit.noGoto])
              (try simp only [Act.put, List.setIfInBounds_toArray, ls0, ls1])
              obtain rfl := Option.some.inj H
              refine bodyPost_ret (results_tmp rfl _ _ _) rfl ?_
              exact ⟨_, rfl, HS4814⟩
          · rw [if_neg c4880] at H
            exact absurd H (by simp)
        · rw [if_neg c4870] at H
          exact absurd H (by simp)
  refine wl_region ?_
  refine st (.slice A0 l0.length c0) rfl rfl (xr_move (.slice A0 l0.length c0) rfl rfl) ?_
  simp only [ls0, ls1]
  obtain ⟨t5011, A5012, H⟩ := Option.bind_eq_some_iff.mp H
  (try dsimp only at H)
  refine st_call #[.slice A0 l0.length c0, .int .i64 80] rfl rfl Try.func15 (by kernel_rfl) rfl rfl (by simp only [List.map_toArray, List.map_cons, List.map_nil]; first | done | rfl) ?_
  refine (blazonref16_Great.calls k A0 c0 l0 80 t5011  (fun z_ => pal [(0, 0)] (c z_)) w (fun _ => pal_lt rfl _) (Ft.arg HP0 rfl) HCP0 A5012).mono ?_
  rintro _ w5014 ⟨C5015, rfl, hs5016⟩
  refine ⟨_, rfl, ?_⟩
  replace hs5016 := Step.lift (U := [(0, 0)]) hs5016 [] rfl rfl
  generalize up c C5015 w.heap.size [(0, 0)] = C5015_ at hs5016
  replace HP0 := HP0.thru hs5016 rfl
  replace HP1 := HP1.thru hs5016 rfl
  replace HP2 := HP2.thru hs5016 rfl
  replace HS := HS.trans hs5016 hc rfl
  (try simp only [Act.put, List.setIfInBounds_toArray, ls0, ls1])
  refine st (.bool t5011) rfl rfl (xr_move (.bool t5011) rfl rfl) ?_
  simp only [ls0, ls1]
  by_cases c5017 : t5011 = true
  · rw [if_pos c5017] at H
    (try rw [c5017])
    (try simp only [Bool.not_true, Bool.not_false])
    refine sk_guard (guard_off 2 false 21 rfl rfl true (by decide) rfl) rfl ?_
    simp only [ls0, ls1]
    refine sk_guard (guard_off 2 false 21 rfl rfl true (by decide) rfl) rfl ?_
    simp only [ls0, ls1]
    refine st (.bool true) rfl rfl (xr_pick true (.bool true) rfl rfl rfl) ?_
    simp only [ls0, ls1]
    refine st (.bool true) rfl rfl (xr_move (.bool true) rfl rfl) ?_
    simp only [ls0, ls1]
    refine sk_guard (guard_off 6 false 25 rfl rfl true (by decide) rfl) rfl ?_
    simp only [ls0, ls1]
    refine sk_guard (guard_off 6 false 25 rfl rfl true (by decide) rfl) rfl ?_
    simp only [ls0, ls1]
    refine st (.bool true) rfl rfl (xr_pick true (.bool true) rfl rfl rfl) ?_
    simp only [ls0, ls1]
    refine wl_end ?_
    (try simp only [Act.put, List.setIfInBounds_toArray, ls0, ls1])
    exact hj4811 _ _ _ (true) (fun q_ => List.getD [undef, undef, undef, undef, undef, undef, .bool false, undef, undef, undef, undef, undef, undef, undef, undef, undef, undef, undef, undef, .slice A0 l0.length c0, .bool true, .bool true, undef, undef, .bool true, .bool true, undef, undef, undef, undef, undef, undef, undef, undef, undef, undef, undef, undef, undef, undef, undef, undef, undef, undef, undef, undef, undef, undef, undef, undef, undef, undef, undef, undef, undef, undef, undef, undef, undef, undef, undef, undef, undef, undef, undef, undef, undef, undef, undef, undef, undef, undef, undef, undef, undef, undef, undef, undef, undef, undef, undef, undef, undef, undef, undef, undef, undef, undef, undef, undef, undef, undef, undef, undef, undef, undef, undef, undef, undef, undef, undef, undef, undef, undef, undef, undef, undef, undef, undef, undef, undef, undef, undef, undef, undef, undef, undef] q_ undef)  HS (by omega) HP0 HP1 HP2 H
  · rw [if_neg c5017] at H
    (try rw [(Bool.eq_false_iff.mpr c5017)])
    (try simp only [Bool.not_true, Bool.not_false])
    refine on_guard (guard_on 2 false 21 rfl rfl rfl) ?_
    refine st (.slice A1 l1.length c1) rfl rfl (xr_move (.slice A1 l1.length c1) rfl rfl) ?_
    simp only [ls0, ls1]
    refine on_guard (guard_on 2 false 21 rfl rfl rfl) ?_
    obtain ⟨t5018, A5019, H⟩ := Option.bind_eq_some_iff.mp H
    (try dsimp only at H)
    refine st_call #[.slice A1 l1.length c1, .int .i64 40] rfl rfl Try.func15 (by kernel_rfl) rfl rfl (by simp only [List.map_toArray, List.map_cons, List.map_nil]; first | done | rfl) ?_
    refine (blazonref16_Great.calls k A1 c1 l1 40 t5018  (fun z_ => pal [(0, 0)] (C5015_ z_)) w5014 (fun _ => pal_lt rfl _) (Ft.arg HP1 rfl) HCP1 A5019).mono ?_
    rintro _ w5021 ⟨C5022, rfl, hs5023⟩
    refine ⟨_, rfl, ?_⟩
    replace hs5023 := Step.lift (U := [(0, 0)]) hs5023 [] rfl rfl
    generalize up C5015_ C5022 w5014.heap.size [(0, 0)] = C5022_ at hs5023
    replace HP0 := HP0.thru hs5023 rfl
    replace HP1 := HP1.thru hs5023 rfl
    replace HP2 := HP2.thru hs5023 rfl
    replace HS := HS.trans hs5023 hc rfl
    (try simp only [Act.put, List.setIfInBounds_toArray, ls0, ls1])
    refine st (.bool t5018) rfl rfl (xr_pick false (.bool t5018) rfl rfl rfl) ?_
    simp only [ls0, ls1]
    refine st (.bool t5018) rfl rfl (xr_move (.bool t5018) rfl rfl) ?_
    simp only [ls0, ls1]
    by_cases c5024 : t5018 = true
    · rw [if_pos c5024] at H
      (try rw [c5024])
      (try simp only [Bool.not_true, Bool.not_false])
      refine sk_guard (guard_off 6 false 25 rfl rfl true (by decide) rfl) rfl ?_
      simp only [ls0, ls1]
      refine sk_guard (guard_off 6 false 25 rfl rfl true (by decide) rfl) rfl ?_
      simp only [ls0, ls1]
      refine st (.bool true) rfl rfl (xr_pick true (.bool true) rfl rfl rfl) ?_
      simp only [ls0, ls1]
      refine wl_end ?_
      (try simp only [Act.put, List.setIfInBounds_toArray, ls0, ls1])
      exact hj4811 _ _ _ (true) (fun q_ => List.getD [undef, undef, undef, undef, undef, undef, .bool false, undef, undef, undef, undef, undef, undef, undef, undef, undef, undef, undef, undef, .slice A0 l0.length c0, .bool false, .bool false, .slice A1 l1.length c1, .bool true, .bool true, .bool true, undef, undef, undef, undef, undef, undef, undef, undef, undef, undef, undef, undef, undef, undef, undef, undef, undef, undef, undef, undef, undef, undef, undef, undef, undef, undef, undef, undef, undef, undef, undef, undef, undef, undef, undef, undef, undef, undef, undef, undef, undef, undef, undef, undef, undef, undef, undef, undef, undef, undef, undef, undef, undef, undef, undef, undef, undef, undef, undef, undef, undef, undef, undef, undef, undef, undef, undef, undef, undef, undef, undef, undef, undef, undef, undef, undef, undef, undef, undef, undef, undef, undef, undef, undef, undef, undef, undef, undef, undef, undef, undef] q_ undef)  HS (by omega) HP0 HP1 HP2 H
    · rw [if_neg c5024] at H
      (try rw [(Bool.eq_false_iff.mpr c5024)])
      (try simp only [Bool.not_true, Bool.not_false])
      refine on_guard (guard_on 6 false 25 rfl rfl rfl) ?_
      refine st (.slice A2 l2.length c2) rfl rfl (xr_move (.slice A2 l2.length c2) rfl rfl) ?_
      simp only [ls0, ls1]
      refine on_guard (guard_on 6 false 25 rfl rfl rfl) ?_
      obtain ⟨t5025, A5026, H⟩ := Option.bind_eq_some_iff.mp H
      (try dsimp only at H)
      refine st_call #[.slice A2 l2.length c2, .int .i64 40] rfl rfl Try.func15 (by kernel_rfl) rfl rfl (by simp only [List.map_toArray, List.map_cons, List.map_nil]; first | done | rfl) ?_
      refine (blazonref16_Great.calls k A2 c2 l2 40 t5025  (fun z_ => pal [(0, 0)] (C5022_ z_)) w5021 (fun _ => pal_lt rfl _) (Ft.arg HP2 rfl) HCP2 A5026).mono ?_
      rintro _ w5028 ⟨C5029, rfl, hs5030⟩
      refine ⟨_, rfl, ?_⟩
      replace hs5030 := Step.lift (U := [(0, 0)]) hs5030 [] rfl rfl
      generalize up C5022_ C5029 w5021.heap.size [(0, 0)] = C5029_ at hs5030
      replace HP0 := HP0.thru hs5030 rfl
      replace HP1 := HP1.thru hs5030 rfl
      replace HP2 := HP2.thru hs5030 rfl
      replace HS := HS.trans hs5030 hc rfl
      (try simp only [Act.put, List.setIfInBounds_toArray, ls0, ls1])
      refine st (.bool t5025) rfl rfl (xr_pick false (.bool t5025) rfl rfl rfl) ?_
      simp only [ls0, ls1]
      refine wl_end ?_
      (try simp only [Act.put, List.setIfInBounds_toArray, ls0, ls1])
      exact hj4811 _ _ _ (t5025) (fun q_ => List.getD [undef, undef, undef, undef, undef, undef, .bool false, undef, undef, undef, undef, undef, undef, undef, undef, undef, undef, undef, undef, .slice A0 l0.length c0, .bool false, .bool false, .slice A1 l1.length c1, .bool false, .bool false, .bool false, .slice A2 l2.length c2, .bool t5025, undef, undef, undef, undef, undef, undef, undef, undef, undef, undef, undef, undef, undef, undef, undef, undef, undef, undef, undef, undef, undef, undef, undef, undef, undef, undef, undef, undef, undef, undef, undef, undef, undef, undef, undef, undef, undef, undef, undef, undef, undef, undef, undef, undef, undef, undef, undef, undef, undef, undef, undef, undef, undef, undef, undef, undef, undef, undef, undef, undef, undef, undef, undef, undef, undef, undef, undef, undef, undef, undef, undef, undef, undef, undef, undef, undef, undef, undef, undef, undef, undef, undef, undef, undef, undef, undef, undef, undef, undef] q_ undef)  HS (by omega) HP0 HP1 HP2 H
/-- THE ONE PURE STATEMENT of blazonlaw16_RowBoth. -/
def blazonlaw16_RowBoth.Pure : Prop := ∀ (l0 : List (S25)) (l1 : List (S25)) (l2 : List (S25)), l0.length ≤ maxLen → l0.length * 24 ≤ 140737488351232 → (∀ x_ ∈ l0, Ok25 x_) → l1.length ≤ maxLen → l1.length * 24 ≤ 140737488351232 → (∀ x_ ∈ l1, Ok25 x_) → l2.length ≤ maxLen → l2.length * 24 ≤ 140737488351232 → (∀ x_ ∈ l2, Ok25 x_) → ∃ k, blazonlaw16_RowBoth.f k l0 l1 l2 = some true

end Go.Proofs.Ytnhcpdepjpfcfaa.PRow
