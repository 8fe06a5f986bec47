-- By cprint.py, a program of this work. Lean checks it.
import Derived.Test.YtnhcpdepjpfcfaaPRowx0
import Derived.Test.YtnhcpdepjpfcfaaPRowx3
import Derived.Test.YtnhcpdepjpfcfaaPRowx5
namespace Go.Proofs.Ytnhcpdepjpfcfaa.PRow
open Go.RowKit Go.Proofs.YtnhcpdepjpfcfaaW.PrintWords Go.Proofs.YtnhcpdepjpfcfaaW.PrintLast Go.Proofs.YtnhcpdepjpfcfaaW.PrintMore
set_option linter.unusedVariables false
set_option linter.unusedSimpArgs false

/-! ### blazonref13_Bit: function 50 -/
def blazonref13_Bit.l0 : Nat → Int → Int → Int → Option (Int)
  | 0, _, _, _ => none
  | k + 1, a0, x4026, x4027 => if x4027 < a0 then (blazonref13_Bit.l0 k a0 (IntKind.u64.wrap (2 * x4026)) (wrap64 (x4027 + 1))) else (some x4026)
def blazonref13_Bit.f (k : Nat) (a0 : Int) : Option (Int) := blazonref13_Bit.l0 k a0 1 0

set_option maxHeartbeats 2000000 in
set_option maxRecDepth 100000 in
theorem blazonref13_Bit.calls (k : Nat) (a0 : Int) (r : Int) (c : Nat → Nat) (w : World) (hc : ∀ k, c k < 10)  (H : blazonref13_Bit.f k a0 = some r) :
    Calls Try.prog 50 #[.int .i64 a0] w fun e w' => ∃ (c' : Nat → Nat) , e = .returned (.int .u64 r) ∧ Step c w c' w' [] := by
  unfold blazonref13_Bit.f at H
  have HS := Step.refl c w []
  go_enter Try.func50, Try.ntmps50
  refine wp_seq_k fun K4011 hK4011 => ?_
  refine wl_region ?_
  refine st (.int .u64 0) rfl rfl (xr_assign (.int .u64 0) rfl rfl) ?_
  simp only [List.set_cons_zero, List.set_cons_succ]
  refine wl_end ?_
  (try simp only [Act.put, List.setIfInBounds_toArray, List.set_cons_zero, List.set_cons_succ])
  refine hK4011 _ _ ?_
  (try clear hK4011 K4011)
  refine wp_seq_k fun K4012 hK4012 => ?_
  refine wl_region ?_
  refine st (.int .u64 1) rfl rfl (xr_assign (.int .u64 1) rfl rfl) ?_
  simp only [List.set_cons_zero, List.set_cons_succ]
  refine wl_end ?_
  (try simp only [Act.put, List.setIfInBounds_toArray, List.set_cons_zero, List.set_cons_succ])
  refine hK4012 _ _ ?_
  (try clear hK4012 K4012)
  refine wp_seq_k fun K4013 hK4013 => ?_
  refine wp_seq_k fun K4014 hK4014 => ?_
  refine wl_region ?_
  refine st (.int .i64 0) rfl rfl (xr_assign (.int .i64 0) rfl rfl) ?_
  simp only [List.set_cons_zero, List.set_cons_succ]
  refine wl_end ?_
  (try simp only [Act.put, List.setIfInBounds_toArray, List.set_cons_zero, List.set_cons_succ])
  refine hK4014 _ _ ?_
  (try clear hK4014 K4014)
  refine wp_block ?_
  (try simp only [Act.put, List.setIfInBounds_toArray, List.set_cons_zero, List.set_cons_succ])
  refine wp_looped (looped_ind (fun kq4031 a_ w4030 => ∃ (C4029 : Nat → Nat) (x4026 : Int) (x4027 : Int) (g4028 : Nat → Value), a_ = ⟨#[.int .i64 a0, (g4028 1), (g4028 2), .int .u64 x4026, .int .i64 x4027, (g4028 5), (g4028 6), (g4028 7), (g4028 8), (g4028 9), (g4028 10), (g4028 11), (g4028 12)], []⟩ ∧ Step c w C4029 w4030 [] ∧ kq4031 ≤ k ∧ blazonref13_Bit.l0 kq4031 a0 x4026 x4027 = some r) ?step k _ _ ?init)
  case init =>
    exact ⟨_, 1, 0, (fun q_ => List.getD [undef, undef, .int .u64 0, undef, undef, undef, undef, undef, undef, undef, undef, undef, undef] q_ undef), rfl, HS, Nat.le_refl _, H⟩
  case step =>
    intro kq4031 ih4034 a4035 w4030 hr4036
    obtain ⟨C4029, x4026, x4027, g4028, rfl, HS4032, hk4033, H⟩ := hr4036
    refine looped_round ?_
    cases kq4031 with
    | zero => exact absurd H (by simp [blazonref13_Bit.l0])
    | succ k4037 =>
      simp only [blazonref13_Bit.l0] at H
      refine wp_seq_k fun K4038 hK4038 => ?_
      refine wp_seq_k fun K4039 hK4039 => ?_
      refine wl_region ?_
      refine st (.int .i64 x4027) rfl rfl (xr_move (.int .i64 x4027) rfl rfl) ?_
      simp only [List.set_cons_zero, List.set_cons_succ]
      refine st (.int .i64 a0) rfl rfl (xr_move (.int .i64 a0) rfl rfl) ?_
      simp only [List.set_cons_zero, List.set_cons_succ]
      refine st (.bool (decide (x4027 < a0))) rfl rfl (xr_bin (.int .i64 x4027) (.int .i64 a0) (.bool (decide (x4027 < a0))) rfl rfl rfl (B.lss_i64 x4027 a0)) ?_
      simp only [List.set_cons_zero, List.set_cons_succ]
      refine wl_end ?_
      (try simp only [Act.put, List.setIfInBounds_toArray, List.set_cons_zero, List.set_cons_succ])
      refine hK4039 _ _ ?_
      (try clear hK4039 K4039)
      by_cases c4040 : x4027 < a0
      · rw [if_pos c4040] at H
        (try rw [(decide_eq_true c4040)])
        (try simp only [Bool.not_true, Bool.not_false])
        refine wp_cond_true rfl ?_
        refine wp_skip ?_
        (try simp only [Act.put, List.setIfInBounds_toArray, List.set_cons_zero, List.set_cons_succ])
        refine hK4038 _ _ ?_
        (try clear hK4038 K4038)
        refine wp_seq_k fun K4041 hK4041 => ?_
        refine wp_block ?_
        refine wl_region ?_
        refine st (.int .u64 x4026) rfl rfl (xr_move (.int .u64 x4026) rfl rfl) ?_
        simp only [List.set_cons_zero, List.set_cons_succ]
        refine st (.int .u64 (IntKind.u64.wrap (2 * x4026))) rfl rfl (xr_bin (.int .u64 2) (.int .u64 x4026) (.int .u64 (IntKind.u64.wrap (2 * x4026))) rfl rfl rfl (B.mul_u64 2 x4026)) ?_
        simp only [List.set_cons_zero, List.set_cons_succ]
        refine st (.int .u64 (IntKind.u64.wrap (2 * x4026))) rfl rfl (xr_assign (.int .u64 (IntKind.u64.wrap (2 * x4026))) rfl rfl) ?_
        simp only [List.set_cons_zero, List.set_cons_succ]
        refine wl_end ?_
        (try simp only [Act.put, List.setIfInBounds_toArray, List.set_cons_zero, List.set_cons_succ])
        refine hK4041 _ _ ?_
        (try clear hK4041 K4041)
        refine wl_region ?_
        refine st (.int .i64 x4027) rfl rfl (xr_move (.int .i64 x4027) rfl rfl) ?_
        simp only [List.set_cons_zero, List.set_cons_succ]
        refine st (.int .i64 (wrap64 (x4027 + 1))) rfl rfl (xr_bin (.int .i64 x4027) (.int .i64 1) (.int .i64 (wrap64 (x4027 + 1))) rfl rfl rfl (B.add_i64 x4027 1)) ?_
        simp only [List.set_cons_zero, List.set_cons_succ]
        refine st (.int .i64 (wrap64 (x4027 + 1))) rfl rfl (xr_assign (.int .i64 (wrap64 (x4027 + 1))) rfl rfl) ?_
        simp only [List.set_cons_zero, List.set_cons_succ]
        refine wl_end ?_
        (try simp only [Act.put, List.setIfInBounds_toArray, List.set_cons_zero, List.set_cons_succ])
        exact ih4034 k4037 (by omega) _ _ ⟨_, IntKind.u64.wrap (2 * x4026), wrap64 (x4027 + 1), (fun q_ => List.getD [undef, (g4028 1), (g4028 2), undef, undef, .int .i64 x4027, .int .i64 a0, .bool true, .int .i64 x4027, .int .i64 (wrap64 (x4027 + 1)), .int .u64 x4026, .int .u64 (IntKind.u64.wrap (2 * x4026)), (g4028 12)] q_ undef), rfl, HS4032, (by omega), H⟩
      · rw [if_neg c4040] at H
        (try rw [(decide_eq_false c4040)])
        (try simp only [Bool.not_true, Bool.not_false])
        refine wp_cond_false rfl ?_
        refine wp_exit ?_
        (try simp only [Act.put, List.setIfInBounds_toArray, List.set_cons_zero, List.set_cons_succ])
        refine hK4013 _ _ ?_
        (try clear hK4013 K4013)
        refine wp_seq_k fun K4042 hK4042 => ?_
        refine wl_region ?_
        refine st (.int .u64 x4026) rfl rfl (xr_move (.int .u64 x4026) rfl rfl) ?_
        simp only [List.set_cons_zero, List.set_cons_succ]
        refine st (.int .u64 x4026) rfl rfl (xr_assign (.int .u64 x4026) rfl rfl) ?_
        simp only [List.set_cons_zero, List.set_cons_succ]
        refine wl_end ?_
        (try simp only [Act.put, List.setIfInBounds_toArray, List.set_cons_zero, List.set_cons_succ])
        refine hK4042 _ _ ?_
        (try clear hK4042 K4042)
        refine wp_ret ?_
        (try simp only [Exit.inBlock, Exit.then, Exit.noGoto])
        (try simp only [Act.put, List.setIfInBounds_toArray, List.set_cons_zero, List.set_cons_succ])
        obtain rfl := Option.some.inj H
        refine bodyPost_ret (results_tmp rfl _ _ _) rfl ?_
        exact ⟨_, rfl, HS4032⟩

/-! ### blazonref15_Has: function 20 -/
def blazonref15_Has.f (k : Nat) (a0 : Int) (a1 : Int) : Option (Bool) := (blazonref13_Bit.f k a1).bind fun t4054 => (if t4054 = 0 then (none) else (some (decide ((Int.tmod (IntKind.u64.wrap (Int.tdiv a0 t4054)) 2) = 1))))

set_option maxHeartbeats 2000000 in
set_option maxRecDepth 100000 in
theorem blazonref15_Has.calls (k : Nat) (a0 : Int) (a1 : Int) (r : Bool) (c : Nat → Nat) (w : World) (hc : ∀ k, c k < 10)  (H : blazonref15_Has.f k a0 a1 = some r) :
    Calls Try.prog 20 #[.int .u64 a0, .int .i64 a1] w fun e w' => ∃ (c' : Nat → Nat) , e = .returned (.bool r) ∧ Step c w c' w' [] := by
  unfold blazonref15_Has.f at H
  have HS := Step.refl c w []
  go_enter Try.func20, Try.ntmps20
  refine wp_seq_k fun K4052 hK4052 => ?_
  refine wl_region ?_
  refine st (.bool false) rfl rfl (xr_assign (.bool false) rfl rfl) ?_
  simp only [List.set_cons_zero, List.set_cons_succ]
  refine wl_end ?_
  (try simp only [Act.put, List.setIfInBounds_toArray, List.set_cons_zero, List.set_cons_succ])
  refine hK4052 _ _ ?_
  (try clear hK4052 K4052)
  refine wp_seq_k fun K4053 hK4053 => ?_
  refine wl_region ?_
  refine st (.int .u64 a0) rfl rfl (xr_move (.int .u64 a0) rfl rfl) ?_
  simp only [List.set_cons_zero, List.set_cons_succ]
  refine st (.int .i64 a1) rfl rfl (xr_move (.int .i64 a1) rfl rfl) ?_
  simp only [List.set_cons_zero, List.set_cons_succ]
  obtain ⟨t4054, A4055, H⟩ := Option.bind_eq_some_iff.mp H
  (try dsimp only at H)
  refine st_call #[.int .i64 a1] rfl rfl Try.func50 (by kernel_rfl) rfl rfl (by simp only [List.map_toArray, List.map_cons, List.map_nil]; first | done | rfl) ?_
  refine (blazonref13_Bit.calls k a1 t4054  (fun z_ => pal [(0, 0)] (c z_)) w (fun _ => pal_lt rfl _) A4055).mono ?_
  rintro _ w4057 ⟨C4058, rfl, hs4059⟩
  refine ⟨_, rfl, ?_⟩
  replace hs4059 := Step.lift (U := [(0, 0)]) hs4059 [] rfl rfl
  generalize up c C4058 w.heap.size [(0, 0)] = C4058_ at hs4059
  replace HS := HS.trans hs4059 hc rfl
  (try simp only [Act.put, List.setIfInBounds_toArray, List.set_cons_zero, List.set_cons_succ])
  by_cases c4060 : t4054 = 0
  · rw [if_pos c4060] at H
    exact absurd H (by simp)
  · rw [if_neg c4060] at H
    refine st (.int .u64 (IntKind.u64.wrap (Int.tdiv a0 t4054))) rfl rfl (xr_bin (.int .u64 a0) (.int .u64 t4054) (.int .u64 (IntKind.u64.wrap (Int.tdiv a0 t4054))) rfl rfl rfl (B.quo_u64 a0 t4054 (by assumption))) ?_
    simp only [List.set_cons_zero, List.set_cons_succ]
    refine st (.int .u64 (Int.tmod (IntKind.u64.wrap (Int.tdiv a0 t4054)) 2)) rfl rfl (xr_bin (.int .u64 (IntKind.u64.wrap (Int.tdiv a0 t4054))) (.int .u64 2) (.int .u64 (Int.tmod (IntKind.u64.wrap (Int.tdiv a0 t4054)) 2)) rfl rfl rfl (B.rem_u64 (IntKind.u64.wrap (Int.tdiv a0 t4054)) 2 (by decide))) ?_
    simp only [List.set_cons_zero, List.set_cons_succ]
    refine st (.bool (decide ((Int.tmod (IntKind.u64.wrap (Int.tdiv a0 t4054)) 2) = 1))) rfl rfl (xr_bin (.int .u64 (Int.tmod (IntKind.u64.wrap (Int.tdiv a0 t4054)) 2)) (.int .u64 1) (.bool (decide ((Int.tmod (IntKind.u64.wrap (Int.tdiv a0 t4054)) 2) = 1))) rfl rfl rfl (B.eql_u64 (Int.tmod (IntKind.u64.wrap (Int.tdiv a0 t4054)) 2) 1)) ?_
    simp only [List.set_cons_zero, List.set_cons_succ]
    refine st (.bool (decide ((Int.tmod (IntKind.u64.wrap (Int.tdiv a0 t4054)) 2) = 1))) rfl rfl (xr_assign (.bool (decide ((Int.tmod (IntKind.u64.wrap (Int.tdiv a0 t4054)) 2) = 1))) rfl rfl) ?_
    simp only [List.set_cons_zero, List.set_cons_succ]
    refine wl_end ?_
    (try simp only [Act.put, List.setIfInBounds_toArray, List.set_cons_zero, List.set_cons_succ])
    refine hK4053 _ _ ?_
    (try clear hK4053 K4053)
    refine wp_ret ?_
    (try simp only [Exit.inBlock, Exit.then, Exit.noGoto])
    (try simp only [Act.put, List.setIfInBounds_toArray, List.set_cons_zero, List.set_cons_succ])
    obtain rfl := Option.some.inj H
    refine bodyPost_ret (results_tmp rfl _ _ _) rfl ?_
    exact ⟨_, rfl, HS⟩

/-! ### row_Within: function 21 -/
def row_Within.f (a0 : Int) (a1 : Int) : Option (Bool) := some (decide ((Go.bits .andNot .u64 a0 a1) = 0))
set_option maxHeartbeats 2000000 in
set_option maxRecDepth 100000 in
theorem row_Within.calls (a0 : Int) (a1 : Int) (r : Bool) (c : Nat → Nat) (w : World) (hc : ∀ k, c k < 10)  (H : row_Within.f a0 a1 = some r) :
    Calls Try.prog 21 #[.int .u64 a0, .int .u64 a1] w fun e w' => ∃ (c' : Nat → Nat) , e = .returned (.bool r) ∧ Step c w c' w' [] := by
  unfold row_Within.f at H
  have HS := Step.refl c w []
  go_enter Try.func21, Try.ntmps21
  refine wp_seq_k fun K4063 hK4063 => ?_
  refine wl_region ?_
  refine st (.bool false) rfl rfl (xr_assign (.bool false) rfl rfl) ?_
  simp only [List.set_cons_zero, List.set_cons_succ]
  refine wl_end ?_
  (try simp only [Act.put, List.setIfInBounds_toArray, List.set_cons_zero, List.set_cons_succ])
  refine hK4063 _ _ ?_
  (try clear hK4063 K4063)
  refine wp_seq_k fun K4064 hK4064 => ?_
  refine wl_region ?_
  refine st (.int .u64 a0) rfl rfl (xr_move (.int .u64 a0) rfl rfl) ?_
  simp only [List.set_cons_zero, List.set_cons_succ]
  refine st (.int .u64 a1) rfl rfl (xr_move (.int .u64 a1) rfl rfl) ?_
  simp only [List.set_cons_zero, List.set_cons_succ]
  refine st (.int .u64 (Go.bits .andNot .u64 a0 a1)) rfl rfl (xr_bin (.int .u64 a0) (.int .u64 a1) (.int .u64 (Go.bits .andNot .u64 a0 a1)) rfl rfl rfl (B.andNot_u64 a0 a1)) ?_
  simp only [List.set_cons_zero, List.set_cons_succ]
  refine st (.bool (decide ((Go.bits .andNot .u64 a0 a1) = 0))) rfl rfl (xr_bin (.int .u64 (Go.bits .andNot .u64 a0 a1)) (.int .u64 0) (.bool (decide ((Go.bits .andNot .u64 a0 a1) = 0))) rfl rfl rfl (B.eql_u64 (Go.bits .andNot .u64 a0 a1) 0)) ?_
  simp only [List.set_cons_zero, List.set_cons_succ]
  refine st (.bool (decide ((Go.bits .andNot .u64 a0 a1) = 0))) rfl rfl (xr_assign (.bool (decide ((Go.bits .andNot .u64 a0 a1) = 0))) rfl rfl) ?_
  simp only [List.set_cons_zero, List.set_cons_succ]
  refine wl_end ?_
  (try simp only [Act.put, List.setIfInBounds_toArray, List.set_cons_zero, List.set_cons_succ])
  refine hK4064 _ _ ?_
  (try clear hK4064 K4064)
  refine wp_ret ?_
  (try simp only [Exit.inBlock, Exit.then, Exit.noGoto])
  (try simp only [Act.put, List.setIfInBounds_toArray, List.set_cons_zero, List.set_cons_succ])
  obtain rfl := Option.some.inj H
  refine bodyPost_ret (results_tmp rfl _ _ _) rfl ?_
  exact ⟨_, rfl, HS⟩

/-! ### blazonlaw16_RowWithin: function 5 -/
def blazonlaw16_RowWithin.l0 : Nat → Int → Int → Bool → Int → Int → Option (Bool)
  | 0, _, _, _, _, _ => none
  | k + 1, a0, a1, x4369, x4370, x4371 => if x4371 < 64 then ((blazonref15_Has.f k a0 x4371).bind fun t4387 => (if t4387 = true then (if x4369 = true then ((blazonref15_Has.f k a1 x4371).bind fun t4396 => (blazonlaw16_RowWithin.l0 k a0 a1 t4396 (wrap64 (x4370 + 1)) (wrap64 (x4371 + 1)))) else (blazonlaw16_RowWithin.l0 k a0 a1 false (wrap64 (x4370 + 1)) (wrap64 (x4371 + 1)))) else (blazonlaw16_RowWithin.l0 k a0 a1 x4369 x4370 (wrap64 (x4371 + 1))))) else ((row_Within.f a0 a1).bind fun t4403 => (if t4403 = x4369 then ((row_Count.f a0).bind fun t4410 => (if t4410 = x4370 then ((blazonlaw16_awake.f k).bind fun t4417 => (some t4417)) else (some false))) else (some false)))
def blazonlaw16_RowWithin.f (k : Nat) (a0 : Int) (a1 : Int) : Option (Bool) := blazonlaw16_RowWithin.l0 k a0 a1 true 0 0

set_option maxHeartbeats 2000000 in
set_option maxRecDepth 100000 in
theorem blazonlaw16_RowWithin.calls (k : Nat) (a0 : Int) (a1 : Int) (r : Bool) (c : Nat → Nat) (w : World) (hc : ∀ k, c k < 10)  (H : blazonlaw16_RowWithin.f k a0 a1 = some r) :
    Calls Try.prog 5 #[.int .u64 a0, .int .u64 a1] w fun e w' => ∃ (c' : Nat → Nat) , e = .returned (.bool r) ∧ Step c w c' w' [] := by
  unfold blazonlaw16_RowWithin.f at H
  have HS := Step.refl c w []
  go_enter Try.func5, Try.ntmps5
  refine wp_seq_k fun K4244 hK4244 => ?_
  refine wl_region ?_
  refine st (.bool false) rfl rfl (xr_assign (.bool false) rfl rfl) ?_
  simp only [List.set_cons_zero, List.set_cons_succ]
  refine wl_end ?_
  (try simp only [Act.put, List.setIfInBounds_toArray, List.set_cons_zero, List.set_cons_succ])
  refine hK4244 _ _ ?_
  (try clear hK4244 K4244)
  refine wp_seq_k fun K4245 hK4245 => ?_
  refine wl_region ?_
  refine st (.bool true) rfl rfl (xr_assign (.bool true) rfl rfl) ?_
  simp only [List.set_cons_zero, List.set_cons_succ]
  refine wl_end ?_
  (try simp only [Act.put, List.setIfInBounds_toArray, List.set_cons_zero, List.set_cons_succ])
  refine hK4245 _ _ ?_
  (try clear hK4245 K4245)
  refine wp_seq_k fun K4246 hK4246 => ?_
  refine wl_region ?_
  refine st (.int .i64 0) rfl rfl (xr_assign (.int .i64 0) rfl rfl) ?_
  simp only [List.set_cons_zero, List.set_cons_succ]
  refine wl_end ?_
  (try simp only [Act.put, List.setIfInBounds_toArray, List.set_cons_zero, List.set_cons_succ])
  refine hK4246 _ _ ?_
  (try clear hK4246 K4246)
  refine wp_seq_k fun K4247 hK4247 => ?_
  refine wp_seq_k fun K4325 hK4325 => ?_
  refine wl_region ?_
  refine st (.int .i64 0) rfl rfl (xr_assign (.int .i64 0) rfl rfl) ?_
  simp only [List.set_cons_zero, List.set_cons_succ]
  refine wl_end ?_
  (try simp only [Act.put, List.setIfInBounds_toArray, List.set_cons_zero, List.set_cons_succ])
  refine hK4325 _ _ ?_
  (try clear hK4325 K4325)
  refine wp_block ?_
  (try simp only [Act.put, List.setIfInBounds_toArray, List.set_cons_zero, List.set_cons_succ])
  refine wp_looped (looped_ind (fun kq4375 a_ w4374 => ∃ (C4373 : Nat → Nat) (x4369 : Bool) (x4370 : Int) (x4371 : Int) (g4372 : Nat → Value), a_ = ⟨#[.int .u64 a0, .int .u64 a1, (g4372 2), (g4372 3), (g4372 4), .bool x4369, .int .i64 x4370, .int .i64 x4371, (g4372 8), (g4372 9), (g4372 10), (g4372 11), (g4372 12), (g4372 13), (g4372 14), (g4372 15), (g4372 16), (g4372 17), (g4372 18), (g4372 19), (g4372 20), (g4372 21), (g4372 22), (g4372 23), (g4372 24), (g4372 25), (g4372 26), (g4372 27), (g4372 28), (g4372 29), (g4372 30), (g4372 31), (g4372 32), (g4372 33), (g4372 34), (g4372 35), (g4372 36)], []⟩ ∧ Step c w C4373 w4374 [] ∧ kq4375 ≤ k ∧ blazonlaw16_RowWithin.l0 kq4375 a0 a1 x4369 x4370 x4371 = some r) ?step k _ _ ?init)
  case init =>
    exact ⟨_, true, 0, 0, (fun q_ => List.getD [undef, undef, undef, undef, .bool false, undef, undef, undef, undef, undef, undef, undef, undef, undef, undef, undef, undef, undef, undef, undef, undef, undef, undef, undef, undef, undef, undef, undef, undef, undef, undef, undef, undef, undef, undef, undef, undef] q_ undef), rfl, HS, Nat.le_refl _, H⟩
  case step =>
    intro kq4375 ih4378 a4379 w4374 hr4380
    obtain ⟨C4373, x4369, x4370, x4371, g4372, rfl, HS4376, hk4377, H⟩ := hr4380
    refine looped_round ?_
    cases kq4375 with
    | zero => exact absurd H (by simp [blazonlaw16_RowWithin.l0])
    | succ k4381 =>
      simp only [blazonlaw16_RowWithin.l0] at H
      refine wp_seq_k fun K4382 hK4382 => ?_
      refine wp_seq_k fun K4383 hK4383 => ?_
      refine wl_region ?_
      refine st (.int .i64 x4371) rfl rfl (xr_move (.int .i64 x4371) rfl rfl) ?_
      simp only [List.set_cons_zero, List.set_cons_succ]
      refine st (.bool (decide (x4371 < 64))) rfl rfl (xr_bin (.int .i64 x4371) (.int .i64 64) (.bool (decide (x4371 < 64))) rfl rfl rfl (B.lss_i64 x4371 64)) ?_
      simp only [List.set_cons_zero, List.set_cons_succ]
      refine wl_end ?_
      (try simp only [Act.put, List.setIfInBounds_toArray, List.set_cons_zero, List.set_cons_succ])
      refine hK4383 _ _ ?_
      (try clear hK4383 K4383)
      by_cases c4384 : x4371 < 64
      · rw [if_pos c4384] at H
        (try rw [(decide_eq_true c4384)])
        (try simp only [Bool.not_true, Bool.not_false])
        refine wp_cond_true rfl ?_
        refine wp_skip ?_
        (try simp only [Act.put, List.setIfInBounds_toArray, List.set_cons_zero, List.set_cons_succ])
        refine hK4382 _ _ ?_
        (try clear hK4382 K4382)
        refine wp_seq_k fun K4385 hK4385 => ?_
        refine wp_block ?_
        refine wp_seq_k fun K4386 hK4386 => ?_
        refine wl_region ?_
        refine st (.int .u64 a0) rfl rfl (xr_move (.int .u64 a0) rfl rfl) ?_
        simp only [List.set_cons_zero, List.set_cons_succ]
        refine st (.int .i64 x4371) rfl rfl (xr_move (.int .i64 x4371) rfl rfl) ?_
        simp only [List.set_cons_zero, List.set_cons_succ]
        obtain ⟨t4387, A4388, H⟩ := Option.bind_eq_some_iff.mp H
        (try dsimp only at H)
        refine st_call #[.int .u64 a0, .int .i64 x4371] rfl rfl Try.func20 (by kernel_rfl) rfl rfl (by simp only [List.map_toArray, List.map_cons, List.map_nil]; first | done | rfl) ?_
        refine (blazonref15_Has.calls k4381 a0 x4371 t4387  (fun z_ => pal [(0, 0)] (C4373 z_)) w4374 (fun _ => pal_lt rfl _) A4388).mono ?_
        rintro _ w4390 ⟨C4391, rfl, hs4392⟩
        refine ⟨_, rfl, ?_⟩
        replace hs4392 := Step.lift (U := [(0, 0)]) hs4392 [] rfl rfl
        generalize up C4373 C4391 w4374.heap.size [(0, 0)] = C4391_ at hs4392
        replace HS4376 := HS4376.trans hs4392 hc rfl
        (try simp only [Act.put, List.setIfInBounds_toArray, List.set_cons_zero, List.set_cons_succ])
        refine wl_end ?_
        (try simp only [Act.put, List.setIfInBounds_toArray, List.set_cons_zero, List.set_cons_succ])
        refine hK4386 _ _ ?_
        (try clear hK4386 K4386)
        by_cases c4393 : t4387 = true
        · rw [if_pos c4393] at H
          (try rw [c4393])
          (try simp only [Bool.not_true, Bool.not_false])
          refine wp_cond_true rfl ?_
          refine wp_seq_k fun K4394 hK4394 => ?_
          refine wl_region ?_
          refine st (.int .i64 x4370) rfl rfl (xr_move (.int .i64 x4370) rfl rfl) ?_
          simp only [List.set_cons_zero, List.set_cons_succ]
          refine st (.int .i64 (wrap64 (x4370 + 1))) rfl rfl (xr_bin (.int .i64 x4370) (.int .i64 1) (.int .i64 (wrap64 (x4370 + 1))) rfl rfl rfl (B.add_i64 x4370 1)) ?_
          simp only [List.set_cons_zero, List.set_cons_succ]
          refine st (.int .i64 (wrap64 (x4370 + 1))) rfl rfl (xr_assign (.int .i64 (wrap64 (x4370 + 1))) rfl rfl) ?_
          simp only [List.set_cons_zero, List.set_cons_succ]
          refine wl_end ?_
          (try simp only [Act.put, List.setIfInBounds_toArray, List.set_cons_zero, List.set_cons_succ])
          refine hK4394 _ _ ?_
          (try clear hK4394 K4394)
          refine wl_region ?_
          refine st (.bool x4369) rfl rfl (xr_move (.bool x4369) rfl rfl) ?_
          simp only [List.set_cons_zero, List.set_cons_succ]
          refine st (.bool x4369) rfl rfl (xr_move (.bool x4369) rfl rfl) ?_
          simp only [List.set_cons_zero, List.set_cons_succ]
          by_cases c4395 : x4369 = true
          · rw [if_pos c4395] at H
            (try rw [c4395])
            (try simp only [Bool.not_true, Bool.not_false])
            refine on_guard (guard_on 1 true 18 rfl rfl rfl) ?_
            refine st (.int .u64 a1) rfl rfl (xr_move (.int .u64 a1) rfl rfl) ?_
            simp only [List.set_cons_zero, List.set_cons_succ]
            refine on_guard (guard_on 1 true 18 rfl rfl rfl) ?_
            refine st (.int .i64 x4371) rfl rfl (xr_move (.int .i64 x4371) rfl rfl) ?_
            simp only [List.set_cons_zero, List.set_cons_succ]
            refine on_guard (guard_on 1 true 18 rfl rfl rfl) ?_
            obtain ⟨t4396, A4397, H⟩ := Option.bind_eq_some_iff.mp H
            (try dsimp only at H)
            refine st_call #[.int .u64 a1, .int .i64 x4371] rfl rfl Try.func20 (by kernel_rfl) rfl rfl (by simp only [List.map_toArray, List.map_cons, List.map_nil]; first | done | rfl) ?_
            refine (blazonref15_Has.calls k4381 a1 x4371 t4396  (fun z_ => pal [(0, 0)] (C4391_ z_)) w4390 (fun _ => pal_lt rfl _) A4397).mono ?_
            rintro _ w4399 ⟨C4400, rfl, hs4401⟩
            refine ⟨_, rfl, ?_⟩
            replace hs4401 := Step.lift (U := [(0, 0)]) hs4401 [] rfl rfl
            generalize up C4391_ C4400 w4390.heap.size [(0, 0)] = C4400_ at hs4401
            replace HS4376 := HS4376.trans hs4401 hc rfl
            (try simp only [Act.put, List.setIfInBounds_toArray, List.set_cons_zero, List.set_cons_succ])
            refine st (.bool t4396) rfl rfl (xr_pick true (.bool t4396) rfl rfl rfl) ?_
            simp only [List.set_cons_zero, List.set_cons_succ]
            refine st (.bool t4396) rfl rfl (xr_assign (.bool t4396) rfl rfl) ?_
            simp only [List.set_cons_zero, List.set_cons_succ]
            refine wl_end ?_
            (try simp only [Act.put, List.setIfInBounds_toArray, List.set_cons_zero, List.set_cons_succ])
            refine hK4385 _ _ ?_
            (try clear hK4385 K4385)
            refine wl_region ?_
            refine st (.int .i64 x4371) rfl rfl (xr_move (.int .i64 x4371) rfl rfl) ?_
            simp only [List.set_cons_zero, List.set_cons_succ]
            refine st (.int .i64 (wrap64 (x4371 + 1))) rfl rfl (xr_bin (.int .i64 x4371) (.int .i64 1) (.int .i64 (wrap64 (x4371 + 1))) rfl rfl rfl (B.add_i64 x4371 1)) ?_
            simp only [List.set_cons_zero, List.set_cons_succ]
            refine st (.int .i64 (wrap64 (x4371 + 1))) rfl rfl (xr_assign (.int .i64 (wrap64 (x4371 + 1))) rfl rfl) ?_
            simp only [List.set_cons_zero, List.set_cons_succ]
            refine wl_end ?_
            (try simp only [Act.put, List.setIfInBounds_toArray, List.set_cons_zero, List.set_cons_succ])
            exact ih4378 k4381 (by omega) _ _ ⟨_, t4396, wrap64 (x4370 + 1), wrap64 (x4371 + 1), (fun q_ => List.getD [undef, undef, (g4372 2), (g4372 3), (g4372 4), undef, undef, undef, .int .i64 x4371, .bool true, .int .i64 x4371, .int .i64 (wrap64 (x4371 + 1)), .int .u64 a0, .int .i64 x4371, .bool true, .int .i64 x4370, .int .i64 (wrap64 (x4370 + 1)), .bool true, .bool true, .int .u64 a1, .int .i64 x4371, .bool t4396, .bool t4396, (g4372 23), (g4372 24), (g4372 25), (g4372 26), (g4372 27), (g4372 28), (g4372 29), (g4372 30), (g4372 31), (g4372 32), (g4372 33), (g4372 34), (g4372 35), (g4372 36)] q_ undef), rfl, HS4376, (by omega), H⟩
          · rw [if_neg c4395] at H
            (try rw [(Bool.eq_false_iff.mpr c4395)])
            (try simp only [Bool.not_true, Bool.not_false])
            refine sk_guard (guard_off 1 true 18 rfl rfl false (by decide) rfl) rfl ?_
            simp only [List.set_cons_zero, List.set_cons_succ]
            refine sk_guard (guard_off 1 true 18 rfl rfl false (by decide) rfl) rfl ?_
            simp only [List.set_cons_zero, List.set_cons_succ]
            refine sk_guard (guard_off 1 true 18 rfl rfl false (by decide) rfl) rfl ?_
            simp only [List.set_cons_zero, List.set_cons_succ]
            refine st (.bool false) rfl rfl (xr_pick false (.bool false) rfl rfl rfl) ?_
            simp only [List.set_cons_zero, List.set_cons_succ]
            refine st (.bool false) rfl rfl (xr_assign (.bool false) rfl rfl) ?_
            simp only [List.set_cons_zero, List.set_cons_succ]
            refine wl_end ?_
            (try simp only [Act.put, List.setIfInBounds_toArray, List.set_cons_zero, List.set_cons_succ])
            refine hK4385 _ _ ?_
            (try clear hK4385 K4385)
            refine wl_region ?_
            refine st (.int .i64 x4371) rfl rfl (xr_move (.int .i64 x4371) rfl rfl) ?_
            simp only [List.set_cons_zero, List.set_cons_succ]
            refine st (.int .i64 (wrap64 (x4371 + 1))) rfl rfl (xr_bin (.int .i64 x4371) (.int .i64 1) (.int .i64 (wrap64 (x4371 + 1))) rfl rfl rfl (B.add_i64 x4371 1)) ?_
            simp only [List.set_cons_zero, List.set_cons_succ]
            refine st (.int .i64 (wrap64 (x4371 + 1))) rfl rfl (xr_assign (.int .i64 (wrap64 (x4371 + 1))) rfl rfl) ?_
            simp only [List.set_cons_zero, List.set_cons_succ]
            refine wl_end ?_
            (try simp only [Act.put, List.setIfInBounds_toArray, List.set_cons_zero, List.set_cons_succ])
            exact ih4378 k4381 (by omega) _ _ ⟨_, false, wrap64 (x4370 + 1), wrap64 (x4371 + 1), (fun q_ => List.getD [undef, undef, (g4372 2), (g4372 3), (g4372 4), undef, undef, undef, .int .i64 x4371, .bool true, .int .i64 x4371, .int .i64 (wrap64 (x4371 + 1)), .int .u64 a0, .int .i64 x4371, .bool true, .int .i64 x4370, .int .i64 (wrap64 (x4370 + 1)), .bool false, .bool false, undef, undef, undef, .bool false, (g4372 23), (g4372 24), (g4372 25), (g4372 26), (g4372 27), (g4372 28), (g4372 29), (g4372 30), (g4372 31), (g4372 32), (g4372 33), (g4372 34), (g4372 35), (g4372 36)] q_ undef), rfl, HS4376, (by omega), H⟩
        · rw [if_neg c4393] at H
          (try rw [(Bool.eq_false_iff.mpr c4393)])
          (try simp only [Bool.not_true, Bool.not_false])
          refine wp_cond_false rfl ?_
          refine wp_skip ?_
          (try simp only [Act.put, List.setIfInBounds_toArray, List.set_cons_zero, List.set_cons_succ])
          refine hK4385 _ _ ?_
          (try clear hK4385 K4385)
          refine wl_region ?_
          refine st (.int .i64 x4371) rfl rfl (xr_move (.int .i64 x4371) rfl rfl) ?_
          simp only [List.set_cons_zero, List.set_cons_succ]
          refine st (.int .i64 (wrap64 (x4371 + 1))) rfl rfl (xr_bin (.int .i64 x4371) (.int .i64 1) (.int .i64 (wrap64 (x4371 + 1))) rfl rfl rfl (B.add_i64 x4371 1)) ?_
          simp only [List.set_cons_zero, List.set_cons_succ]
          refine st (.int .i64 (wrap64 (x4371 + 1))) rfl rfl (xr_assign (.int .i64 (wrap64 (x4371 + 1))) rfl rfl) ?_
          simp only [List.set_cons_zero, List.set_cons_succ]
          refine wl_end ?_
          (try simp only [Act.put, List.setIfInBounds_toArray, List.set_cons_zero, List.set_cons_succ])
          exact ih4378 k4381 (by omega) _ _ ⟨_, x4369, x4370, wrap64 (x4371 + 1), (fun q_ => List.getD [undef, undef, (g4372 2), (g4372 3), (g4372 4), undef, undef, undef, .int .i64 x4371, .bool true, .int .i64 x4371, .int .i64 (wrap64 (x4371 + 1)), .int .u64 a0, .int .i64 x4371, .bool false, (g4372 15), (g4372 16), (g4372 17), (g4372 18), (g4372 19), (g4372 20), (g4372 21), (g4372 22), (g4372 23), (g4372 24), (g4372 25), (g4372 26), (g4372 27), (g4372 28), (g4372 29), (g4372 30), (g4372 31), (g4372 32), (g4372 33), (g4372 34), (g4372 35), (g4372 36)] q_ undef), rfl, HS4376, (by omega), H⟩
      · rw [if_neg c4384] at H
        (try rw [(decide_eq_false c4384)])
        (try simp only [Bool.not_true, Bool.not_false])
        refine wp_cond_false rfl ?_
        refine wp_exit ?_
        (try simp only [Act.put, List.setIfInBounds_toArray, List.set_cons_zero, List.set_cons_succ])
        refine hK4247 _ _ ?_
        (try clear hK4247 K4247)
        refine wp_seq_k fun K4402 hK4402 => ?_
        refine wl_region ?_
        refine st (.int .u64 a0) rfl rfl (xr_move (.int .u64 a0) rfl rfl) ?_
        simp only [List.set_cons_zero, List.set_cons_succ]
        refine st (.int .u64 a1) rfl rfl (xr_move (.int .u64 a1) rfl rfl) ?_
        simp only [List.set_cons_zero, List.set_cons_succ]
        obtain ⟨t4403, A4404, H⟩ := Option.bind_eq_some_iff.mp H
        (try dsimp only at H)
        refine st_call #[.int .u64 a0, .int .u64 a1] rfl rfl Try.func21 (by kernel_rfl) rfl rfl (by simp only [List.map_toArray, List.map_cons, List.map_nil]; first | done | rfl) ?_
        refine (row_Within.calls a0 a1 t4403  (fun z_ => pal [(0, 0)] (C4373 z_)) w4374 (fun _ => pal_lt rfl _) A4404).mono ?_
        rintro _ w4406 ⟨C4407, rfl, hs4408⟩
        refine ⟨_, rfl, ?_⟩
        replace hs4408 := Step.lift (U := [(0, 0)]) hs4408 [] rfl rfl
        generalize up C4373 C4407 w4374.heap.size [(0, 0)] = C4407_ at hs4408
        replace HS4376 := HS4376.trans hs4408 hc rfl
        (try simp only [Act.put, List.setIfInBounds_toArray, List.set_cons_zero, List.set_cons_succ])
        refine st (.bool x4369) rfl rfl (xr_move (.bool x4369) rfl rfl) ?_
        simp only [List.set_cons_zero, List.set_cons_succ]
        refine st (.bool (decide (t4403 = x4369))) rfl rfl (xr_bin (.bool t4403) (.bool x4369) (.bool (decide (t4403 = x4369))) rfl rfl rfl (B.eql_bool Try.underlying4 t4403 x4369)) ?_
        simp only [List.set_cons_zero, List.set_cons_succ]
        refine st (.bool (decide (t4403 = x4369))) rfl rfl (xr_move (.bool (decide (t4403 = x4369))) rfl rfl) ?_
        simp only [List.set_cons_zero, List.set_cons_succ]
        by_cases c4409 : t4403 = x4369
        · rw [if_pos c4409] at H
          (try rw [(decide_eq_true c4409)])
          (try simp only [Bool.not_true, Bool.not_false])
          refine on_guard (guard_on 5 true 28 rfl rfl rfl) ?_
          refine st (.int .u64 a0) rfl rfl (xr_move (.int .u64 a0) rfl rfl) ?_
          simp only [List.set_cons_zero, List.set_cons_succ]
          refine on_guard (guard_on 5 true 28 rfl rfl rfl) ?_
          obtain ⟨t4410, A4411, H⟩ := Option.bind_eq_some_iff.mp H
          (try dsimp only at H)
          refine st_call #[.int .u64 a0] rfl rfl Try.func19 (by kernel_rfl) rfl rfl (by simp only [List.map_toArray, List.map_cons, List.map_nil]; first | done | rfl) ?_
          refine (row_Count.calls a0 t4410  (fun z_ => pal [(0, 0)] (C4407_ z_)) w4406 (fun _ => pal_lt rfl _) A4411).mono ?_
          rintro _ w4413 ⟨C4414, rfl, hs4415⟩
          refine ⟨_, rfl, ?_⟩
          replace hs4415 := Step.lift (U := [(0, 0)]) hs4415 [] rfl rfl
          generalize up C4407_ C4414 w4406.heap.size [(0, 0)] = C4414_ at hs4415
          replace HS4376 := HS4376.trans hs4415 hc rfl
          (try simp only [Act.put, List.setIfInBounds_toArray, List.set_cons_zero, List.set_cons_succ])
          refine on_guard (guard_on 5 true 28 rfl rfl rfl) ?_
          refine st (.int .i64 x4370) rfl rfl (xr_move (.int .i64 x4370) rfl rfl) ?_
          simp only [List.set_cons_zero, List.set_cons_succ]
          refine on_guard (guard_on 5 true 28 rfl rfl rfl) ?_
          refine st (.bool (decide (t4410 = x4370))) rfl rfl (xr_bin (.int .i64 t4410) (.int .i64 x4370) (.bool (decide (t4410 = x4370))) rfl rfl rfl (B.eql_i64 t4410 x4370)) ?_
          simp only [List.set_cons_zero, List.set_cons_succ]
          refine st (.bool (decide (t4410 = x4370))) rfl rfl (xr_pick true (.bool (decide (t4410 = x4370))) rfl rfl rfl) ?_
          simp only [List.set_cons_zero, List.set_cons_succ]
          refine st (.bool (decide (t4410 = x4370))) rfl rfl (xr_move (.bool (decide (t4410 = x4370))) rfl rfl) ?_
          simp only [List.set_cons_zero, List.set_cons_succ]
          by_cases c4416 : t4410 = x4370
          · rw [if_pos c4416] at H
            (try rw [(decide_eq_true c4416)])
            (try simp only [Bool.not_true, Bool.not_false])
            refine on_guard (guard_on 11 true 34 rfl rfl rfl) ?_
            obtain ⟨t4417, A4418, H⟩ := Option.bind_eq_some_iff.mp H
            (try dsimp only at H)
            refine st_call #[] rfl rfl Try.func13 (by kernel_rfl) rfl rfl (by simp only [List.map_toArray, List.map_cons, List.map_nil]; first | done | rfl) ?_
            refine (blazonlaw16_awake.calls k4381 t4417  (fun z_ => pal [(0, 0)] (C4414_ z_)) w4413 (fun _ => pal_lt rfl _) A4418).mono ?_
            rintro _ w4420 ⟨C4421, rfl, hs4422⟩
            refine ⟨_, rfl, ?_⟩
            replace hs4422 := Step.lift (U := [(0, 0)]) hs4422 [] rfl rfl
            generalize up C4414_ C4421 w4413.heap.size [(0, 0)] = C4421_ at hs4422
            replace HS4376 := HS4376.trans hs4422 hc rfl
            (try simp only [Act.put, List.setIfInBounds_toArray, List.set_cons_zero, List.set_cons_succ])
            refine st (.bool t4417) rfl rfl (xr_pick true (.bool t4417) rfl rfl rfl) ?_
            simp only [List.set_cons_zero, List.set_cons_succ]
            refine st (.bool t4417) rfl rfl (xr_assign (.bool t4417) rfl rfl) ?_
            simp only [List.set_cons_zero, List.set_cons_succ]
            refine wl_end ?_
            (try simp only [Act.put, List.setIfInBounds_toArray, List.set_cons_zero, List.set_cons_succ])
            refine hK4402 _ _ ?_
            (try clear hK4402 K4402)
            refine wp_ret ?_
            (try simp only [Exit.inBlock, Exit.then, Exit.noGoto])
            (try simp only [Act.put, List.setIfInBounds_toArray, List.set_cons_zero, List.set_cons_succ])
            obtain rfl := Option.some.inj H
            refine bodyPost_ret (results_tmp rfl _ _ _) rfl ?_
            exact ⟨_, rfl, HS4376⟩
          · rw [if_neg c4416] at H
            (try rw [(decide_eq_false c4416)])
            (try simp only [Bool.not_true, Bool.not_false])
            refine sk_guard (guard_off 11 true 34 rfl rfl false (by decide) rfl) rfl ?_
            simp only [List.set_cons_zero, List.set_cons_succ]
            refine st (.bool false) rfl rfl (xr_pick false (.bool false) rfl rfl rfl) ?_
            simp only [List.set_cons_zero, List.set_cons_succ]
            refine st (.bool false) rfl rfl (xr_assign (.bool false) rfl rfl) ?_
            simp only [List.set_cons_zero, List.set_cons_succ]
            refine wl_end ?_
            (try simp only [Act.put, List.setIfInBounds_toArray, List.set_cons_zero, List.set_cons_succ])
            refine hK4402 _ _ ?_
            (try clear hK4402 K4402)
            refine wp_ret ?_
            (try simp only [Exit.inBlock, Exit.then, Exit.noGoto])
            (try simp only [Act.put, List.setIfInBounds_toArray, List.set_cons_zero, List.set_cons_succ])
            obtain rfl := Option.some.inj H
            refine bodyPost_ret (results_tmp rfl _ _ _) rfl ?_
            exact ⟨_, rfl, HS4376⟩
        · rw [if_neg c4409] at H
          (try rw [(decide_eq_false c4409)])
          (try simp only [Bool.not_true, Bool.not_false])
          refine sk_guard (guard_off 5 true 28 rfl rfl false (by decide) rfl) rfl ?_
          simp only [List.set_cons_zero, List.set_cons_succ]
          refine sk_guard (guard_off 5 true 28 rfl rfl false (by decide) rfl) rfl ?_
          simp only [List.set_cons_zero, List.set_cons_succ]
          refine sk_guard (guard_off 5 true 28 rfl rfl false (by decide) rfl) rfl ?_
          simp only [List.set_cons_zero, List.set_cons_succ]
          refine sk_guard (guard_off 5 true 28 rfl rfl false (by decide) rfl) rfl ?_
          simp only [List.set_cons_zero, List.set_cons_succ]
          refine st (.bool false) rfl rfl (xr_pick false (.bool false) rfl rfl rfl) ?_
          simp only [List.set_cons_zero, List.set_cons_succ]
          refine st (.bool false) rfl rfl (xr_move (.bool false) rfl rfl) ?_
          simp only [List.set_cons_zero, List.set_cons_succ]
          refine sk_guard (guard_off 11 true 34 rfl rfl false (by decide) rfl) rfl ?_
          simp only [List.set_cons_zero, List.set_cons_succ]
          refine st (.bool false) rfl rfl (xr_pick false (.bool false) rfl rfl rfl) ?_
          simp only [List.set_cons_zero, List.set_cons_succ]
          refine st (.bool false) rfl rfl (xr_assign (.bool false) rfl rfl) ?_
          simp only [List.set_cons_zero, List.set_cons_succ]
          refine wl_end ?_
          (try simp only [Act.put, List.setIfInBounds_toArray, List.set_cons_zero, List.set_cons_succ])
          refine hK4402 _ _ ?_
          (try clear hK4402 K4402)
          refine wp_ret ?_
          (try simp only [Exit.inBlock, Exit.then, Exit.noGoto])
          (try simp only [Act.put, List.setIfInBounds_toArray, List.set_cons_zero, List.set_cons_succ])
          obtain rfl := Option.some.inj H
          refine bodyPost_ret (results_tmp rfl _ _ _) rfl ?_
          exact ⟨_, rfl, HS4376⟩
/-- THE ONE PURE STATEMENT of blazonlaw16_RowWithin. -/
def blazonlaw16_RowWithin.Pure : Prop := ∀ (a0 : Int) (a1 : Int), (Lit.int .u64 a0).wf = true → (Lit.int .u64 a1).wf = true → ∃ k, blazonlaw16_RowWithin.f k a0 a1 = some true
theorem blazonlaw16_RowWithin.walk (P : blazonlaw16_RowWithin.Pure) (a0 : Int) (a1 : Int) (w : World) (w0 : (Lit.int .u64 a0).wf = true) (w1 : (Lit.int .u64 a1).wf = true) :
    Calls Try.prog 5 #[.int .u64 a0, .int .u64 a1] w fun e w' => e = .returned (.bool true) ∧ Below w.heap.size w w' := by
  obtain ⟨k, h⟩ := P a0 a1 w0 w1
  refine (blazonlaw16_RowWithin.calls k a0 a1 true (fun _ => 0) w (fun _ => (by decide : (0 : Nat) < 10)) h).mono ?_
  rintro e w' ⟨c', rfl, hs⟩
  exact ⟨rfl, hs.below (fun _ => by simp)⟩

end Go.Proofs.Ytnhcpdepjpfcfaa.PRow
