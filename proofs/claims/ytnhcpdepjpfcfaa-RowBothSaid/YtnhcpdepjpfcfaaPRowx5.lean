-- By cprint.py, a program of this work. Lean checks it.
import Derived.Test.YtnhcpdepjpfcfaaPRowx0
import Derived.Test.YtnhcpdepjpfcfaaPRowx2
import Derived.Test.YtnhcpdepjpfcfaaPRowx3
import Derived.Test.YtnhcpdepjpfcfaaPRowx4
namespace Go.Proofs.Ytnhcpdepjpfcfaa.PRow
open Go.RowKit Go.Proofs.YtnhcpdepjpfcfaaW.PrintWords Go.Proofs.YtnhcpdepjpfcfaaW.PrintLast Go.Proofs.YtnhcpdepjpfcfaaW.PrintMore
set_option linter.unusedVariables false
set_option linter.unusedSimpArgs false

/-! ### row_Count: function 19 -/
def row_Count.f (a0 : Int) : Option (Int) := (bits_OnesCount64.f a0).bind fun t2703 => (some t2703)
set_option maxHeartbeats 2000000 in
set_option maxRecDepth 100000 in
theorem row_Count.calls (a0 : Int) (r : Int) (c : Nat → Nat) (w : World) (hc : ∀ k, c k < 10)  (H : row_Count.f a0 = some r) :
    Calls Try.prog 19 #[.int .u64 a0] w fun e w' => ∃ (c' : Nat → Nat) , e = .returned (.int .i64 r) ∧ Step c w c' w' [] := by
  unfold row_Count.f at H
  have HS := Step.refl c w []
  go_enter Try.func19, Try.ntmps19
  refine wp_seq_k fun K2701 hK2701 => ?_
  refine wl_region ?_
  refine st (.int .i64 0) rfl rfl (xr_assign (.int .i64 0) rfl rfl) ?_
  simp only [ls0, ls1]
  refine wl_end ?_
  (try simp only [Act.put, List.setIfInBounds_toArray, ls0, ls1])
  refine hK2701 _ _ ?_
  (try clear hK2701 K2701)
  refine wp_seq_k fun K2702 hK2702 => ?_
  refine wl_region ?_
  refine st (.int .u64 a0) rfl rfl (xr_move (.int .u64 a0) rfl rfl) ?_
  simp only [ls0, ls1]
  obtain ⟨t2703, A2704, H⟩ := Option.bind_eq_some_iff.mp H
  (try dsimp only at H)
  refine st_call #[.int .u64 a0] rfl rfl Try.func49 (by kernel_rfl) rfl rfl (by simp only [List.map_toArray, List.map_cons, List.map_nil]; first | done | rfl) ?_
  refine (bits_OnesCount64.calls a0 t2703  (fun z_ => pal [(0, 0)] (c z_)) w (fun _ => pal_lt rfl _) A2704).mono ?_
  rintro _ w2706 ⟨C2707, rfl, hs2708⟩
  refine ⟨_, rfl, ?_⟩
  replace hs2708 := Step.lift (U := [(0, 0)]) hs2708 [] rfl rfl
  generalize up c C2707 w.heap.size [(0, 0)] = C2707_ at hs2708
  replace HS := HS.trans hs2708 hc rfl
  (try simp only [Act.put, List.setIfInBounds_toArray, ls0, ls1])
  refine st (.int .i64 t2703) rfl rfl (xr_assign (.int .i64 t2703) rfl rfl) ?_
  simp only [ls0, ls1]
  refine wl_end ?_
  (try simp only [Act.put, List.setIfInBounds_toArray, ls0, ls1])
  refine hK2702 _ _ ?_
  (try clear hK2702 K2702)
  refine wp_ret ?_
  (try simp only [Exit.inBlock, Exit.then, Exit.noGoto])
  (try simp only [Act.put, List.setIfInBounds_toArray, ls0, ls1])
  obtain rfl := Option.some.inj H
  refine bodyPost_ret (results_tmp rfl _ _ _) rfl ?_
  exact ⟨_, rfl, HS⟩

/-! ### blazonlaw16_RowBack: function 4 -/
mutual
def blazonlaw16_RowBack.l0 : Nat → (List (S25)) → Int → (List ByteArray) → (Option S91) → (List (S25)) → Int → Option (Bool)
  | 0, _, _, _, _, _, _ => none
  | k + 1, l1, t3530, t3587, x3570, x3735, x3894 => if x3894 < (l1.length : Int) then (if 0 ≤ x3894 then ((blazonref13_Find.f k t3587 ((rd_T25 l1 x3894).f0)).bind fun t3914 => (if t3914 < 0 then (some false) else (blazonlaw16_RowBack.l0 k l1 t3530 t3587 x3570 x3735 (wrap64 (x3894 + 1))))) else (none)) else ((row_Table_Set.f k x3570 x3735).bind fun bt3923 => (if bt3923.1 = t3530 then (if bt3923.2.2 = 0 then ((row_Count.f t3530).bind fun t3934 => (if t3934 = (t3587.length : Int) then ((blazonlaw16_awake.f k).bind fun t3941 => (some t3941)) else (some false))) else (some false)) else (some false)))
def blazonlaw16_RowBack.l1 : Nat → (List (S25)) → Int → (List ByteArray) → (Option S91) → (List (S25)) → Int → Option (Bool)
  | 0, _, _, _, _, _, _ => none
  | k + 1, l1, t3530, t3587, x3570, x3735, x3741 => if x3741 < (t3587.length : Int) then (if 0 ≤ x3741 then (if x3735.length < 5864062014805 then ((some (x3735 ++ [(⟨rdOf ByteArray.empty t3587 x3741, 0⟩ : S25)] : List (S25))).bind fun y3760 => (blazonlaw16_RowBack.l1 k l1 t3530 t3587 x3570 y3760 (wrap64 (x3741 + 1)))) else (none)) else (none)) else (blazonlaw16_RowBack.l0 k l1 t3530 t3587 x3570 x3735 0)
def blazonlaw16_RowBack.j0 : Nat → (List (S25)) → Int → (Option S91) → Bool → Option (Bool)
  | 0, _, _, _, _ => none
  | k + 1, l1, t3530, x3570, x3573 => if x3573 = true then ((blazonlaw16_awake.f k).bind fun t3580 => (some t3580)) else ((row_Table_Names.f k x3570 t3530).bind fun t3587 => (blazonlaw16_RowBack.l1 k l1 t3530 t3587 x3570 ([] : List (S25)) 0))
def blazonlaw16_RowBack.j1 : Nat → (List (S25)) → (List (S25)) → Bool → Option (Bool)
  | 0, _, _, _ => none
  | k + 1, l0, l1, x3511 => if x3511 = true then (some false) else ((row_New.f k l0).bind fun bt3519 => ((row_Table_Set.f k bt3519.1 l1).bind fun bt3530 => (if bt3519.2.2 = 0 then (blazonlaw16_RowBack.j0 k l1 bt3530.1 bt3519.1 (!decide (bt3530.2.2 = 0))) else (blazonlaw16_RowBack.j0 k l1 bt3530.1 bt3519.1 true))))
def blazonlaw16_RowBack.j2 : Nat → (List (S25)) → (List (S25)) → Bool → Option (Bool)
  | 0, _, _, _ => none
  | k + 1, l0, l1, x3412 => if x3412 = true then ((blazonlaw16_awake.f k).bind fun t3419 => (some t3419)) else ((row_Table_Set.f k (none : Option S91) l1).bind fun bt3427 => ((row_Table_Len.f (none : Option S91)).bind fun t3948 => (if t3948 = 0 then ((row_Table_Names.f k (none : Option S91) 7).bind fun t3955 => (if (t3955.length : Int) = 0 then (blazonlaw16_RowBack.j1 k l0 l1 (!decide ((decide (bt3427.2.2 = 0)) = (decide ((l1.length : Int) = 0))))) else (blazonlaw16_RowBack.j1 k l0 l1 true))) else (blazonlaw16_RowBack.j1 k l0 l1 true))))
end
def blazonlaw16_RowBack.f (k : Nat) (l0 : List (S25)) (l1 : List (S25)) : Option (Bool) := (blazonref16_Great.f k l0 80).bind fun t3966 => (if t3966 = true then (blazonlaw16_RowBack.j2 k l0 l1 true) else ((blazonref16_Great.f k l1 80).bind fun t3973 => (blazonlaw16_RowBack.j2 k l0 l1 t3973)))

set_option maxHeartbeats 2000000 in
set_option maxRecDepth 100000 in
theorem blazonlaw16_RowBack.calls (k : Nat) (A0 : Option Addr) (c0 : Nat) (l0 : List (S25)) (A1 : Option Addr) (c1 : Nat) (l1 : List (S25)) (r : Bool) (c : Nat → Nat) (w : World) (hc : ∀ k, c k < 10) (HP0 : Ft c [0] w (fun w_ => k25.C w_ A0 l0.length l0)) (HCP0 : l0.length ≤ c0) (HP1 : Ft c [0] w (fun w_ => k25.C w_ A1 l1.length l1)) (HCP1 : l1.length ≤ c1) (H : blazonlaw16_RowBack.f k l0 l1 = some r) :
    Calls Try.prog 4 #[.slice A0 l0.length c0, .slice A1 l1.length c1] w fun e w' => ∃ (c' : Nat → Nat) , e = .returned (.bool r) ∧ Step c w c' w' [] := by
  unfold blazonlaw16_RowBack.f at H
  have HS := Step.refl c w []
  go_enter Try.func4, Try.ntmps4
  refine wp_seq_k fun K3344 hK3344 => ?_
  refine wl_region ?_
  refine st (.bool false) rfl rfl (xr_assign (.bool false) rfl rfl) ?_
  simp only [ls0, ls1]
  refine wl_end ?_
  (try simp only [Act.put, List.setIfInBounds_toArray, ls0, ls1])
  refine hK3344 _ _ ?_
  (try clear hK3344 K3344)
  refine wp_seq_k fun K3345 hK3345 => ?_
  refine wp_seq_k fun K3392 hK3392 => ?_
  have hj3406 : ∀ (kq3414 : Nat) (C3407 : Nat → Nat) (w3408 : World) (x3412 : Bool) (g3413 : Nat → Value), Step c w C3407 w3408 [] → kq3414 ≤ k → (Ft C3407 [0] w3408 (fun w_ => k25.C w_ A0 l0.length l0)) → (Ft C3407 [0] w3408 (fun w_ => k25.C w_ A1 l1.length l1)) → blazonlaw16_RowBack.j2 kq3414 l0 l1 x3412 = some r → K3392 ⟨#[.slice A0 l0.length c0, .slice A1 l1.length c1, (g3413 2), (g3413 3), (g3413 4), (g3413 5), (g3413 6), (g3413 7), (g3413 8), (g3413 9), (g3413 10), (g3413 11), (g3413 12), (g3413 13), (g3413 14), (g3413 15), (g3413 16), (g3413 17), (g3413 18), (g3413 19), (g3413 20), (g3413 21), (g3413 22), (g3413 23), (g3413 24), (g3413 25), (g3413 26), .bool x3412, (g3413 28), (g3413 29), (g3413 30), (g3413 31), (g3413 32), (g3413 33), (g3413 34), (g3413 35), (g3413 36), (g3413 37), (g3413 38), (g3413 39), (g3413 40), (g3413 41), (g3413 42), (g3413 43), (g3413 44), (g3413 45), (g3413 46), (g3413 47), (g3413 48), (g3413 49), (g3413 50), (g3413 51), (g3413 52), (g3413 53), (g3413 54), (g3413 55), (g3413 56), (g3413 57), (g3413 58), (g3413 59), (g3413 60), (g3413 61), (g3413 62), (g3413 63), (g3413 64), (g3413 65), (g3413 66), (g3413 67), (g3413 68), (g3413 69), (g3413 70), (g3413 71), (g3413 72), (g3413 73), (g3413 74), (g3413 75), (g3413 76), (g3413 77), (g3413 78), (g3413 79), (g3413 80), (g3413 81), (g3413 82), (g3413 83), (g3413 84), (g3413 85), (g3413 86), (g3413 87), (g3413 88), (g3413 89), (g3413 90), (g3413 91), (g3413 92), (g3413 93), (g3413 94), (g3413 95), (g3413 96), (g3413 97), (g3413 98), (g3413 99), (g3413 100), (g3413 101), (g3413 102), (g3413 103), (g3413 104), (g3413 105), (g3413 106), (g3413 107), (g3413 108), (g3413 109), (g3413 110), (g3413 111), (g3413 112), (g3413 113), (g3413 114), (g3413 115), (g3413 116), (g3413 117), (g3413 118), (g3413 119), (g3413 120), (g3413 121), (g3413 122), (g3413 123), (g3413 124), (g3413 125), (g3413 126), (g3413 127)], []⟩ w3408 := by
    intro kq3414 C3407 w3408 x3412 g3413 HS3409 hk3415 HJ3410 HJ3411 H
    cases kq3414 with
    | zero => exact absurd H (by simp [blazonlaw16_RowBack.j2])
    | succ k3416 =>
      simp only [blazonlaw16_RowBack.j2] at H
      refine hK3392 _ _ ?_
      (try clear hK3392)
      by_cases c3417 : x3412 = true
      · rw [if_pos c3417] at H
        (try rw [c3417])
        (try simp only [Bool.not_true, Bool.not_false])
        refine wp_cond_true rfl ?_
        refine wp_seq_k fun K3418 hK3418 => ?_
        refine wl_region ?_
        obtain ⟨t3419, A3420, H⟩ := Option.bind_eq_some_iff.mp H
        (try dsimp only at H)
        refine st_call #[] rfl rfl Try.func13 (by kernel_rfl) rfl rfl (by simp only [List.map_toArray, List.map_cons, List.map_nil]; first | done | rfl) ?_
        refine (blazonlaw16_awake.calls k3416 t3419  (fun z_ => pal [(0, 0)] (C3407 z_)) w3408 (fun _ => pal_lt rfl _) A3420).mono ?_
        rintro _ w3422 ⟨C3423, rfl, hs3424⟩
        refine ⟨_, rfl, ?_⟩
        replace hs3424 := Step.lift (U := [(0, 0)]) hs3424 [] rfl rfl
        generalize up C3407 C3423 w3408.heap.size [(0, 0)] = C3423_ at hs3424
        replace HS3409 := HS3409.trans hs3424 hc rfl
        (try simp only [Act.put, List.setIfInBounds_toArray, ls0, ls1])
        refine st (.bool t3419) rfl rfl (xr_assign (.bool t3419) rfl rfl) ?_
        simp only [ls0, ls1]
        refine wl_end ?_
        (try simp only [Act.put, List.setIfInBounds_toArray, ls0, ls1])
        refine hK3418 _ _ ?_
        (try clear hK3418 K3418)
        refine wp_ret ?_
        (try simp only [Exit.inBlock, Exit.then, Exit.noGoto])
        (try simp only [Act.put, List.setIfInBounds_toArray, ls0, ls1])
        obtain rfl := Option.some.inj H
        refine bodyPost_ret (results_tmp rfl _ _ _) rfl ?_
        exact ⟨_, rfl, HS3409⟩
      · rw [if_neg c3417] at H
        (try rw [(Bool.eq_false_iff.mpr c3417)])
        (try simp only [Bool.not_true, Bool.not_false])
        refine wp_cond_false rfl ?_
        refine wp_skip ?_
        (try simp only [Act.put, List.setIfInBounds_toArray, ls0, ls1])
        refine hK3345 _ _ ?_
        (try clear hK3345 K3345)
        refine wp_seq_k fun K3425 hK3425 => ?_
        refine wl_region ?_
        refine st (.pointer none) rfl rfl (xr_assign (.pointer none) rfl rfl) ?_
        simp only [ls0, ls1]
        refine wl_end ?_
        (try simp only [Act.put, List.setIfInBounds_toArray, ls0, ls1])
        refine hK3425 _ _ ?_
        (try clear hK3425 K3425)
        refine wp_seq_k fun K3426 hK3426 => ?_
        refine wl_region ?_
        refine st (.pointer none) rfl rfl (xr_move (.pointer none) rfl rfl) ?_
        simp only [ls0, ls1]
        refine st (.slice A1 l1.length c1) rfl rfl (xr_move (.slice A1 l1.length c1) rfl rfl) ?_
        simp only [ls0, ls1]
        obtain ⟨⟨t3427, t3428, t3429⟩, A3430, H⟩ := Option.bind_eq_some_iff.mp H
        (try dsimp only at H)
        refine st_call #[.pointer none, .slice A1 l1.length c1] rfl rfl Try.func16 (by kernel_rfl) rfl rfl (by simp only [List.map_toArray, List.map_cons, List.map_nil]; first | done | rfl) ?_
        refine (row_Table_Set.calls k3416 (.pointer none) (none : Option S91) A1 c1 l1 t3427 t3428 t3429  (fun z_ => pal [(0, 0)] (C3407 z_)) w3408 (fun _ => pal_lt rfl _) (ptr_nil _ _ _ _ _) (Ft.arg HJ3411 rfl) HCP1 A3430).mono ?_
        rintro _ w3432 ⟨C3433, rfl, hs3434⟩
        refine ⟨_, rfl, ?_⟩
        replace hs3434 := Step.lift (U := [(0, 0)]) hs3434 [] rfl rfl
        generalize up C3407 C3433 w3408.heap.size [(0, 0)] = C3433_ at hs3434
        replace HJ3410 := HJ3410.thru hs3434 rfl
        replace HJ3411 := HJ3411.thru hs3434 rfl
        replace HS3409 := HS3409.trans hs3434 hc rfl
        (try simp only [Act.put, List.setIfInBounds_toArray, ls0, ls1])
        refine st (.tuple #[.int .u64 t3427, .int .i64 t3428, .int .i64 t3429]) rfl rfl (xr_move (.tuple #[.int .u64 t3427, .int .i64 t3428, .int .i64 t3429]) rfl rfl) ?_
        simp only [ls0, ls1]
        refine st (.int .u64 t3427) rfl rfl (xr_extract (.tuple #[.int .u64 t3427, .int .i64 t3428, .int .i64 t3429]) (.int .u64 t3427) rfl rfl rfl) ?_
        simp only [ls0, ls1]
        refine st (.int .i64 t3428) rfl rfl (xr_extract (.tuple #[.int .u64 t3427, .int .i64 t3428, .int .i64 t3429]) (.int .i64 t3428) rfl rfl rfl) ?_
        simp only [ls0, ls1]
        refine st (.int .i64 t3429) rfl rfl (xr_extract (.tuple #[.int .u64 t3427, .int .i64 t3428, .int .i64 t3429]) (.int .i64 t3429) rfl rfl rfl) ?_
        simp only [ls0, ls1]
        refine st (.int .u64 t3427) rfl rfl (xr_assign (.int .u64 t3427) rfl rfl) ?_
        simp only [ls0, ls1]
        refine st (.int .i64 t3428) rfl rfl (xr_assign (.int .i64 t3428) rfl rfl) ?_
        simp only [ls0, ls1]
        refine st (.int .i64 t3429) rfl rfl (xr_assign (.int .i64 t3429) rfl rfl) ?_
        simp only [ls0, ls1]
        refine wl_end ?_
        (try simp only [Act.put, List.setIfInBounds_toArray, ls0, ls1])
        refine hK3426 _ _ ?_
        (try clear hK3426 K3426)
        refine wp_seq_k fun K3435 hK3435 => ?_
        refine wp_seq_k fun K3486 hK3486 => ?_
        have hj3505 : ∀ (kq3513 : Nat) (C3506 : Nat → Nat) (w3507 : World) (x3511 : Bool) (g3512 : Nat → Value), Step c w C3506 w3507 [] → kq3513 ≤ k3416 → (Ft C3506 [0] w3507 (fun w_ => k25.C w_ A0 l0.length l0)) → (Ft C3506 [0] w3507 (fun w_ => k25.C w_ A1 l1.length l1)) → blazonlaw16_RowBack.j1 kq3513 l0 l1 x3511 = some r → K3486 ⟨#[.slice A0 l0.length c0, .slice A1 l1.length c1, (g3512 2), (g3512 3), (g3512 4), (g3512 5), (g3512 6), (g3512 7), (g3512 8), (g3512 9), (g3512 10), (g3512 11), (g3512 12), (g3512 13), (g3512 14), (g3512 15), (g3512 16), (g3512 17), (g3512 18), (g3512 19), (g3512 20), (g3512 21), (g3512 22), (g3512 23), (g3512 24), (g3512 25), (g3512 26), (g3512 27), (g3512 28), (g3512 29), (g3512 30), (g3512 31), (g3512 32), (g3512 33), (g3512 34), (g3512 35), (g3512 36), (g3512 37), (g3512 38), (g3512 39), (g3512 40), (g3512 41), (g3512 42), (g3512 43), (g3512 44), (g3512 45), (g3512 46), (g3512 47), (g3512 48), (g3512 49), (g3512 50), (g3512 51), .bool x3511, (g3512 53), (g3512 54), (g3512 55), (g3512 56), (g3512 57), (g3512 58), (g3512 59), (g3512 60), (g3512 61), (g3512 62), (g3512 63), (g3512 64), (g3512 65), (g3512 66), (g3512 67), (g3512 68), (g3512 69), (g3512 70), (g3512 71), (g3512 72), (g3512 73), (g3512 74), (g3512 75), (g3512 76), (g3512 77), (g3512 78), (g3512 79), (g3512 80), (g3512 81), (g3512 82), (g3512 83), (g3512 84), (g3512 85), (g3512 86), (g3512 87), (g3512 88), (g3512 89), (g3512 90), (g3512 91), (g3512 92), (g3512 93), (g3512 94), (g3512 95), (g3512 96), (g3512 97), (g3512 98), (g3512 99), (g3512 100), (g3512 101), (g3512 102), (g3512 103), (g3512 104), (g3512 105), (g3512 106), (g3512 107), (g3512 108), (g3512 109), (g3512 110), (g3512 111), (g3512 112), (g3512 113), (g3512 114), (g3512 115), (g3512 116), (g3512 117), (g3512 118), (g3512 119), (g3512 120), (g3512 121), (g3512 122), (g3512 123), (g3512 124), (g3512 125), (g3512 126), (g3512 127)], []⟩ w3507 := by
          intro kq3513 C3506 w3507 x3511 g3512 HS3508 hk3514 HJ3509 HJ3510 H
          cases kq3513 with
          | zero => exact absurd H (by simp [blazonlaw16_RowBack.j1])
          | succ k3515 =>
            simp only [blazonlaw16_RowBack.j1] at H
            refine hK3486 _ _ ?_
            (try clear hK3486)
            by_cases c3516 : x3511 = true
            · rw [if_pos c3516] at H
              (try rw [c3516])
              (try simp only [Bool.not_true, Bool.not_false])
              refine wp_cond_true rfl ?_
              refine wp_seq_k fun K3517 hK3517 => ?_
              refine wl_region ?_
              refine st (.bool false) rfl rfl (xr_assign (.bool false) rfl rfl) ?_
              simp only [ls0, ls1]
              refine wl_end ?_
              (try simp only [Act.put, List.setIfInBounds_toArray, ls0, ls1])
              refine hK3517 _ _ ?_
              (try clear hK3517 K3517)
              refine wp_ret ?_
              (try simp only [Exit.inBlock, Exit.then, Exit.noGoto])
              (try simp only [Act.put, List.setIfInBounds_toArray, ls0, ls1])
              obtain rfl := Option.some.inj H
              refine bodyPost_ret (results_tmp rfl _ _ _) rfl ?_
              exact ⟨_, rfl, HS3508⟩
            · rw [if_neg c3516] at H
              (try rw [(Bool.eq_false_iff.mpr c3516)])
              (try simp only [Bool.not_true, Bool.not_false])
              refine wp_cond_false rfl ?_
              refine wp_skip ?_
              (try simp only [Act.put, List.setIfInBounds_toArray, ls0, ls1])
              refine hK3435 _ _ ?_
              (try clear hK3435 K3435)
              refine wp_seq_k fun K3518 hK3518 => ?_
              refine wl_region ?_
              refine st (.slice A0 l0.length c0) rfl rfl (xr_move (.slice A0 l0.length c0) rfl rfl) ?_
              simp only [ls0, ls1]
              obtain ⟨⟨t3519, t3520, t3521⟩, A3522, H⟩ := Option.bind_eq_some_iff.mp H
              (try dsimp only at H)
              refine st_call #[.slice A0 l0.length c0] rfl rfl Try.func12 (by kernel_rfl) rfl rfl (by simp only [List.map_toArray, List.map_cons, List.map_nil]; first | done | rfl) ?_
              refine (row_New.calls k3515 A0 c0 l0 t3519 t3520 t3521  (fun z_ => pal [(0, 0)] (C3506 z_)) w3507 (fun _ => pal_lt rfl _) (Ft.arg HJ3509 rfl) HCP0 A3522).mono ?_
              rintro _ w3524 ⟨C3525, v3527, rfl, hs3526, HB3528⟩
              refine ⟨_, rfl, ?_⟩
              replace HB3528 := Ft.res (U := [(0, 0)]) HB3528 hs3526 [0] rfl rfl rfl
              replace hs3526 := Step.lift (U := [(0, 0)]) hs3526 [] rfl rfl
              generalize up C3506 C3525 w3507.heap.size [(0, 0)] = C3525_ at HB3528 hs3526
              replace HJ3510 := HJ3510.thru hs3526 rfl
              replace HS3508 := HS3508.trans hs3526 hc rfl
              (try simp only [Act.put, List.setIfInBounds_toArray, ls0, ls1])
              refine st (.tuple #[v3527, .int .i64 t3520, .int .i64 t3521]) rfl rfl (xr_move (.tuple #[v3527, .int .i64 t3520, .int .i64 t3521]) rfl rfl) ?_
              simp only [ls0, ls1]
              refine st (v3527) rfl rfl (xr_extract (.tuple #[v3527, .int .i64 t3520, .int .i64 t3521]) (v3527) rfl rfl rfl) ?_
              simp only [ls0, ls1]
              refine st (.int .i64 t3520) rfl rfl (xr_extract (.tuple #[v3527, .int .i64 t3520, .int .i64 t3521]) (.int .i64 t3520) rfl rfl rfl) ?_
              simp only [ls0, ls1]
              refine st (.int .i64 t3521) rfl rfl (xr_extract (.tuple #[v3527, .int .i64 t3520, .int .i64 t3521]) (.int .i64 t3521) rfl rfl rfl) ?_
              simp only [ls0, ls1]
              refine st (v3527) rfl rfl (xr_assign (v3527) rfl rfl) ?_
              simp only [ls0, ls1]
              refine st (.int .i64 t3520) rfl rfl (xr_assign (.int .i64 t3520) rfl rfl) ?_
              simp only [ls0, ls1]
              refine st (.int .i64 t3521) rfl rfl (xr_assign (.int .i64 t3521) rfl rfl) ?_
              simp only [ls0, ls1]
              refine wl_end ?_
              (try simp only [Act.put, List.setIfInBounds_toArray, ls0, ls1])
              refine hK3518 _ _ ?_
              (try clear hK3518 K3518)
              refine wp_seq_k fun K3529 hK3529 => ?_
              refine wl_region ?_
              refine st (v3527) rfl rfl (xr_move (v3527) rfl rfl) ?_
              simp only [ls0, ls1]
              refine st (.slice A1 l1.length c1) rfl rfl (xr_move (.slice A1 l1.length c1) rfl rfl) ?_
              simp only [ls0, ls1]
              obtain ⟨⟨t3530, t3531, t3532⟩, A3533, H⟩ := Option.bind_eq_some_iff.mp H
              (try dsimp only at H)
              refine st_call #[v3527, .slice A1 l1.length c1] rfl rfl Try.func16 (by kernel_rfl) rfl rfl (by simp only [List.map_toArray, List.map_cons, List.map_nil]; first | done | rfl) ?_
              refine (row_Table_Set.calls k3515 v3527 t3519 A1 c1 l1 t3530 t3531 t3532  (fun z_ => pal [(0, 0)] (C3525_ z_)) w3524 (fun _ => pal_lt rfl _) (Ft.arg HB3528 rfl) (Ft.arg HJ3510 rfl) HCP1 A3533).mono ?_
              rintro _ w3535 ⟨C3536, rfl, hs3537⟩
              refine ⟨_, rfl, ?_⟩
              replace hs3537 := Step.lift (U := [(0, 0)]) hs3537 [] rfl rfl
              generalize up C3525_ C3536 w3524.heap.size [(0, 0)] = C3536_ at hs3537
              replace HJ3510 := HJ3510.thru hs3537 rfl
              replace HB3528 := HB3528.thru hs3537 rfl
              replace HS3508 := HS3508.trans hs3537 hc rfl
              (try simp only [Act.put, List.setIfInBounds_toArray, ls0, ls1])
              refine st (.tuple #[.int .u64 t3530, .int .i64 t3531, .int .i64 t3532]) rfl rfl (xr_move (.tuple #[.int .u64 t3530, .int .i64 t3531, .int .i64 t3532]) rfl rfl) ?_
              simp only [ls0, ls1]
              refine st (.int .u64 t3530) rfl rfl (xr_extract (.tuple #[.int .u64 t3530, .int .i64 t3531, .int .i64 t3532]) (.int .u64 t3530) rfl rfl rfl) ?_
              simp only [ls0, ls1]
              refine st (.int .i64 t3531) rfl rfl (xr_extract (.tuple #[.int .u64 t3530, .int .i64 t3531, .int .i64 t3532]) (.int .i64 t3531) rfl rfl rfl) ?_
              simp only [ls0, ls1]
              refine st (.int .i64 t3532) rfl rfl (xr_extract (.tuple #[.int .u64 t3530, .int .i64 t3531, .int .i64 t3532]) (.int .i64 t3532) rfl rfl rfl) ?_
              simp only [ls0, ls1]
              refine st (.int .u64 t3530) rfl rfl (xr_assign (.int .u64 t3530) rfl rfl) ?_
              simp only [ls0, ls1]
              refine st (.int .i64 t3531) rfl rfl (xr_assign (.int .i64 t3531) rfl rfl) ?_
              simp only [ls0, ls1]
              refine st (.int .i64 t3532) rfl rfl (xr_assign (.int .i64 t3532) rfl rfl) ?_
              simp only [ls0, ls1]
              refine wl_end ?_
              (try simp only [Act.put, List.setIfInBounds_toArray, ls0, ls1])
              refine hK3529 _ _ ?_
              (try clear hK3529 K3529)
              refine wp_seq_k fun K3538 hK3538 => ?_
              refine wp_seq_k fun K3563 hK3563 => ?_
              have hj3565 : ∀ (kq3575 : Nat) (C3566 : Nat → Nat) (w3567 : World) (x3573 : Bool) (v3571 : Value) (x3570 : Option S91) (g3574 : Nat → Value), Step c w C3566 w3567 [] → kq3575 ≤ k3515 → (Ft C3566 [0] w3567 (fun w_ => k25.C w_ A1 l1.length l1)) → (Ft C3566 [0] w3567 (fun w_ => (Kd.ptr 91 k91).K w_ x3570 [v3571])) → blazonlaw16_RowBack.j0 kq3575 l1 t3530 x3570 x3573 = some r → K3563 ⟨#[(g3574 0), .slice A1 l1.length c1, (g3574 2), (g3574 3), (g3574 4), (g3574 5), (g3574 6), (g3574 7), (g3574 8), v3571, (g3574 10), (g3574 11), .int .u64 t3530, (g3574 13), (g3574 14), (g3574 15), (g3574 16), (g3574 17), (g3574 18), (g3574 19), (g3574 20), (g3574 21), (g3574 22), (g3574 23), (g3574 24), (g3574 25), (g3574 26), (g3574 27), (g3574 28), (g3574 29), (g3574 30), (g3574 31), (g3574 32), (g3574 33), (g3574 34), (g3574 35), (g3574 36), (g3574 37), (g3574 38), (g3574 39), (g3574 40), (g3574 41), (g3574 42), (g3574 43), (g3574 44), (g3574 45), (g3574 46), (g3574 47), (g3574 48), (g3574 49), (g3574 50), (g3574 51), (g3574 52), (g3574 53), (g3574 54), (g3574 55), (g3574 56), (g3574 57), (g3574 58), (g3574 59), (g3574 60), (g3574 61), (g3574 62), (g3574 63), (g3574 64), (g3574 65), (g3574 66), (g3574 67), (g3574 68), (g3574 69), (g3574 70), .bool x3573, (g3574 72), (g3574 73), (g3574 74), (g3574 75), (g3574 76), (g3574 77), (g3574 78), (g3574 79), (g3574 80), (g3574 81), (g3574 82), (g3574 83), (g3574 84), (g3574 85), (g3574 86), (g3574 87), (g3574 88), (g3574 89), (g3574 90), (g3574 91), (g3574 92), (g3574 93), (g3574 94), (g3574 95), (g3574 96), (g3574 97), (g3574 98), (g3574 99), (g3574 100), (g3574 101), (g3574 102), (g3574 103), (g3574 104), (g3574 105), (g3574 106), (g3574 107), (g3574 108), (g3574 109), (g3574 110), (g3574 111), (g3574 112), (g3574 113), (g3574 114), (g3574 115), (g3574 116), (g3574 117), (g3574 118), (g3574 119), (g3574 120), (g3574 121), (g3574 122), (g3574 123), (g3574 124), (g3574 125), (g3574 126), (g3574 127)], []⟩ w3567 := by
                intro kq3575 C3566 w3567 x3573 v3571 x3570 g3574 HS3568 hk3576 HJ3569 HJ3572 H
                cases kq3575 with
                | zero => exact absurd H (by simp [blazonlaw16_RowBack.j0])
                | succ k3577 =>
                  simp only [blazonlaw16_RowBack.j0] at H
                  refine hK3563 _ _ ?_
                  (try clear hK3563)
                  by_cases c3578 : x3573 = true
                  · rw [if_pos c3578] at H
                    (try rw [c3578])
                    (try simp only [Bool.not_true, Bool.not_false])
                    refine wp_cond_true rfl ?_
                    refine wp_seq_k fun K3579 hK3579 => ?_
                    refine wl_region ?_
                    obtain ⟨t3580, A3581, H⟩ := Option.bind_eq_some_iff.mp H
                    (try dsimp only at H)
                    refine st_call #[] rfl rfl Try.func13 (by kernel_rfl) rfl rfl (by simp only [List.map_toArray, List.map_cons, List.map_nil]; first | done | rfl) ?_
                    refine (blazonlaw16_awake.calls k3577 t3580  (fun z_ => pal [(0, 0)] (C3566 z_)) w3567 (fun _ => pal_lt rfl _) A3581).mono ?_
                    rintro _ w3583 ⟨C3584, rfl, hs3585⟩
                    refine ⟨_, rfl, ?_⟩
                    replace hs3585 := Step.lift (U := [(0, 0)]) hs3585 [] rfl rfl
                    generalize up C3566 C3584 w3567.heap.size [(0, 0)] = C3584_ at hs3585
                    replace HS3568 := HS3568.trans hs3585 hc rfl
                    (try simp only [Act.put, List.setIfInBounds_toArray, ls0, ls1])
                    refine st (.bool t3580) rfl rfl (xr_assign (.bool t3580) rfl rfl) ?_
                    simp only [ls0, ls1]
                    refine wl_end ?_
                    (try simp only [Act.put, List.setIfInBounds_toArray, ls0, ls1])
                    refine hK3579 _ _ ?_
                    (try clear hK3579 K3579)
                    refine wp_ret ?_
                    (try simp only [Exit.inBlock, Exit.then, Exit.noGoto])
                    (try simp only [Act.put, List.setIfInBounds_toArray, ls0, ls1])
                    obtain rfl := Option.some.inj H
                    refine bodyPost_ret (results_tmp rfl _ _ _) rfl ?_
                    exact ⟨_, rfl, HS3568⟩
                  · rw [if_neg c3578] at H
                    (try rw [(Bool.eq_false_iff.mpr c3578)])
                    (try simp only [Bool.not_true, Bool.not_false])
                    refine wp_cond_false rfl ?_
                    refine wp_skip ?_
                    (try simp only [Act.put, List.setIfInBounds_toArray, ls0, ls1])
                    refine hK3538 _ _ ?_
                    (try clear hK3538 K3538)
                    refine wp_seq_k fun K3586 hK3586 => ?_
                    refine wl_region ?_
                    refine st (v3571) rfl rfl (xr_move (v3571) rfl rfl) ?_
                    simp only [ls0, ls1]
                    refine st (.int .u64 t3530) rfl rfl (xr_move (.int .u64 t3530) rfl rfl) ?_
                    simp only [ls0, ls1]
                    obtain ⟨t3587, A3588, H⟩ := Option.bind_eq_some_iff.mp H
                    (try dsimp only at H)
                    refine st_call #[v3571, .int .u64 t3530] rfl rfl Try.func17 (by kernel_rfl) rfl rfl (by simp only [List.map_toArray, List.map_cons, List.map_nil]; first | done | rfl) ?_
                    refine (row_Table_Names.calls k3577 v3571 x3570 t3530 t3587  (fun z_ => pal [(0, 0)] (C3566 z_)) w3567 (fun _ => pal_lt rfl _) (Ft.arg HJ3572 rfl) A3588).mono ?_
                    rintro _ w3590 ⟨C3591, A3593, cp3594, rfl, hs3592, HO3595, HC3596⟩
                    refine ⟨_, rfl, ?_⟩
                    replace HO3595 := Own.res (U := [(0, 0), (5, 11)]) (j := 11) HO3595 hs3592 (by rfl) (by decide) rfl rfl
                    replace hs3592 := Step.lift (U := [(0, 0), (5, 11)]) hs3592 [] rfl rfl
                    generalize up C3566 C3591 w3567.heap.size [(0, 0), (5, 11)] = C3591_ at HO3595 hs3592
                    replace HJ3569 := HJ3569.thru hs3592 rfl
                    replace HJ3572 := HJ3572.thru hs3592 rfl
                    replace HS3568 := HS3568.trans hs3592 hc rfl
                    (try simp only [Act.put, List.setIfInBounds_toArray, ls0, ls1])
                    refine st (.slice A3593 t3587.length cp3594) rfl rfl (xr_assign (.slice A3593 t3587.length cp3594) rfl rfl) ?_
                    simp only [ls0, ls1]
                    refine wl_end ?_
                    (try simp only [Act.put, List.setIfInBounds_toArray, ls0, ls1])
                    refine hK3586 _ _ ?_
                    (try clear hK3586 K3586)
                    refine wp_seq_k fun K3597 hK3597 => ?_
                    refine wl_region ?_
                    refine st (.slice none 0 0) rfl rfl (xr_assign (.slice none 0 0) rfl rfl) ?_
                    simp only [ls0, ls1]
                    refine wl_end ?_
                    (try simp only [Act.put, List.setIfInBounds_toArray, ls0, ls1])
                    refine hK3597 _ _ ?_
                    (try clear hK3597 K3597)
                    refine wp_seq_k fun K3598 hK3598 => ?_
                    refine wp_seq_k fun K3684 hK3684 => ?_
                    refine wl_region ?_
                    refine st (.int .i64 0) rfl rfl (xr_assign (.int .i64 0) rfl rfl) ?_
                    simp only [ls0, ls1]
                    refine wl_end ?_
                    (try simp only [Act.put, List.setIfInBounds_toArray, ls0, ls1])
                    refine hK3684 _ _ ?_
                    (try clear hK3684 K3684)
                    refine wp_block ?_
                    (try simp only [Act.put, List.setIfInBounds_toArray, ls0, ls1])
                    refine wp_looped (looped_ind (fun kq3745 a_ w3744 => ∃ (C3743 : Nat → Nat) (x3741 : Int) (A3736 : Option Addr) (n3737 cp3738 : Nat) (x3735 : List (S25)) (g3742 : Nat → Value), a_ = ⟨#[(g3742 0), .slice A1 l1.length c1, (g3742 2), (g3742 3), (g3742 4), (g3742 5), (g3742 6), (g3742 7), (g3742 8), v3571, (g3742 10), (g3742 11), .int .u64 t3530, (g3742 13), (g3742 14), .slice A3593 t3587.length cp3594, .slice A3736 n3737 cp3738, .int .i64 x3741, (g3742 18), (g3742 19), (g3742 20), (g3742 21), (g3742 22), (g3742 23), (g3742 24), (g3742 25), (g3742 26), (g3742 27), (g3742 28), (g3742 29), (g3742 30), (g3742 31), (g3742 32), (g3742 33), (g3742 34), (g3742 35), (g3742 36), (g3742 37), (g3742 38), (g3742 39), (g3742 40), (g3742 41), (g3742 42), (g3742 43), (g3742 44), (g3742 45), (g3742 46), (g3742 47), (g3742 48), (g3742 49), (g3742 50), (g3742 51), (g3742 52), (g3742 53), (g3742 54), (g3742 55), (g3742 56), (g3742 57), (g3742 58), (g3742 59), (g3742 60), (g3742 61), (g3742 62), (g3742 63), (g3742 64), (g3742 65), (g3742 66), (g3742 67), (g3742 68), (g3742 69), (g3742 70), (g3742 71), (g3742 72), (g3742 73), (g3742 74), (g3742 75), (g3742 76), (g3742 77), (g3742 78), (g3742 79), (g3742 80), (g3742 81), (g3742 82), (g3742 83), (g3742 84), (g3742 85), (g3742 86), (g3742 87), (g3742 88), (g3742 89), (g3742 90), (g3742 91), (g3742 92), (g3742 93), (g3742 94), (g3742 95), (g3742 96), (g3742 97), (g3742 98), (g3742 99), (g3742 100), (g3742 101), (g3742 102), (g3742 103), (g3742 104), (g3742 105), (g3742 106), (g3742 107), (g3742 108), (g3742 109), (g3742 110), (g3742 111), (g3742 112), (g3742 113), (g3742 114), (g3742 115), (g3742 116), (g3742 117), (g3742 118), (g3742 119), (g3742 120), (g3742 121), (g3742 122), (g3742 123), (g3742 124), (g3742 125), (g3742 126), (g3742 127)], []⟩ ∧ Step c w C3743 w3744 [] ∧ kq3745 ≤ k3577 ∧ (Ft C3743 [0] w3744 (fun w_ => k25.C w_ A1 l1.length l1)) ∧ (Ft C3743 [0] w3744 (fun w_ => (Kd.ptr 91 k91).K w_ x3570 [v3571])) ∧ (Own C3743 11 w3744 Kd.string 9 (.slice A3593 t3587.length cp3594) t3587) ∧ (Own C3743 12 w3744 k25 25 (.slice A3736 n3737 cp3738) x3735) ∧ (n3737 ≤ cp3738) ∧ blazonlaw16_RowBack.l1 kq3745 l1 t3530 t3587 x3570 x3735 x3741 = some r) ?step k3577 _ _ ?init)
                    case init =>
                      exact ⟨_, 0, none, 0, 0, ([] : List (S25)), (fun q_ => List.getD [(g3574 0), undef, (g3574 2), (g3574 3), (g3574 4), (g3574 5), (g3574 6), (g3574 7), (g3574 8), undef, (g3574 10), (g3574 11), undef, (g3574 13), (g3574 14), undef, undef, undef, (g3574 18), (g3574 19), (g3574 20), (g3574 21), (g3574 22), (g3574 23), (g3574 24), (g3574 25), (g3574 26), (g3574 27), (g3574 28), (g3574 29), (g3574 30), (g3574 31), (g3574 32), (g3574 33), (g3574 34), (g3574 35), (g3574 36), (g3574 37), (g3574 38), (g3574 39), (g3574 40), (g3574 41), (g3574 42), (g3574 43), (g3574 44), (g3574 45), (g3574 46), (g3574 47), (g3574 48), (g3574 49), (g3574 50), (g3574 51), (g3574 52), (g3574 53), (g3574 54), (g3574 55), (g3574 56), (g3574 57), (g3574 58), (g3574 59), (g3574 60), (g3574 61), (g3574 62), (g3574 63), (g3574 64), (g3574 65), (g3574 66), (g3574 67), (g3574 68), (g3574 69), (g3574 70), .bool false, (g3574 72), v3571, .int .u64 t3530, .slice A3593 t3587.length cp3594, (g3574 76), (g3574 77), (g3574 78), (g3574 79), (g3574 80), (g3574 81), (g3574 82), (g3574 83), (g3574 84), (g3574 85), (g3574 86), (g3574 87), (g3574 88), (g3574 89), (g3574 90), (g3574 91), (g3574 92), (g3574 93), (g3574 94), (g3574 95), (g3574 96), (g3574 97), (g3574 98), (g3574 99), (g3574 100), (g3574 101), (g3574 102), (g3574 103), (g3574 104), (g3574 105), (g3574 106), (g3574 107), (g3574 108), (g3574 109), (g3574 110), (g3574 111), (g3574 112), (g3574 113), (g3574 114), (g3574 115), (g3574 116), (g3574 117), (g3574 118), (g3574 119), (g3574 120), (g3574 121), (g3574 122), (g3574 123), (g3574 124), (g3574 125), (g3574 126), (g3574 127)] q_ undef), rfl, HS3568, Nat.le_refl _, HJ3569, HJ3572, HO3595, (Own.nil _ _ _ _ _), (Nat.le_refl 0), H⟩
                    case step =>
                      intro kq3745 ih3748 a3749 w3744 hr3750
                      obtain ⟨C3743, x3741, A3736, n3737, cp3738, x3735, g3742, rfl, HS3746, hk3747, HJ3732, HJ3733, HJ3734, HJ3740, HC3739, H⟩ := hr3750
                      refine looped_round ?_
                      obtain rfl : n3737 = x3735.length := HJ3740.at_.1
                      cases kq3745 with
                      | zero => exact absurd H (by simp [blazonlaw16_RowBack.l1])
                      | succ k3751 =>
                        simp only [blazonlaw16_RowBack.l1] at H
                        refine wp_seq_k fun K3752 hK3752 => ?_
                        refine wp_seq_k fun K3753 hK3753 => ?_
                        refine wl_region ?_
                        refine st (.int .i64 x3741) rfl rfl (xr_move (.int .i64 x3741) rfl rfl) ?_
                        simp only [ls0, ls1]
                        refine st (.slice A3593 t3587.length cp3594) rfl rfl (xr_move (.slice A3593 t3587.length cp3594) rfl rfl) ?_
                        simp only [ls0, ls1]
                        refine st (.int .i64 (t3587.length : Int)) rfl rfl (xr_builtin #[.slice A3593 t3587.length cp3594] (.int .i64 (t3587.length : Int)) rfl (by simp only [List.map_toArray, List.map_cons, List.map_nil]; first | done | rfl) (by first | rfl | (go_simp; done) | (go_simp; rfl) | (go_simp; exact i64_w _) | (go_simp; exact i32_w _))) ?_
                        simp only [ls0, ls1]
                        refine st (.bool (decide (x3741 < (t3587.length : Int)))) rfl rfl (xr_bin (.int .i64 x3741) (.int .i64 (t3587.length : Int)) (.bool (decide (x3741 < (t3587.length : Int)))) rfl rfl rfl (B.lss_i64 x3741 (t3587.length : Int))) ?_
                        simp only [ls0, ls1]
                        refine wl_end ?_
                        (try simp only [Act.put, List.setIfInBounds_toArray, ls0, ls1])
                        refine hK3753 _ _ ?_
                        (try clear hK3753 K3753)
                        by_cases c3754 : x3741 < (t3587.length : Int)
                        · rw [if_pos c3754] at H
                          (try rw [(decide_eq_true c3754)])
                          (try simp only [Bool.not_true, Bool.not_false])
                          refine wp_cond_true rfl ?_
                          refine wp_skip ?_
                          (try simp only [Act.put, List.setIfInBounds_toArray, ls0, ls1])
                          refine hK3752 _ _ ?_
                          (try clear hK3752 K3752)
                          refine wp_seq_k fun K3755 hK3755 => ?_
                          refine wp_block ?_
                          refine wl_region ?_
                          refine st (.slice A3736 x3735.length cp3738) rfl rfl (xr_move (.slice A3736 x3735.length cp3738) rfl rfl) ?_
                          simp only [ls0, ls1]
                          refine st (.slice A3593 t3587.length cp3594) rfl rfl (xr_move (.slice A3593 t3587.length cp3594) rfl rfl) ?_
                          simp only [ls0, ls1]
                          refine st (.int .i64 x3741) rfl rfl (xr_move (.int .i64 x3741) rfl rfl) ?_
                          simp only [ls0, ls1]
                          by_cases c3756 : 0 ≤ x3741
                          · rw [if_pos c3756] at H
                            obtain ⟨g3757, hA3758⟩ := HJ3734.form (pos_of (j := x3741) (by first | assumption | decide) (by first | assumption | omega))
                            refine st (.pointer (some ((⟨g3757, 0, none⟩ : Addr).add ((x3741 : Int).toNat * 1)))) rfl rfl (xr_indexAddr (.slice A3593 t3587.length cp3594) (.int .i64 x3741) (.pointer (some ((⟨g3757, 0, none⟩ : Addr).add ((x3741 : Int).toNat * 1)))) rfl rfl rfl (index_at Try.underlying37 info9 hA3758 (by first | assumption | decide | omega) (by first | assumption | decide | omega))) ?_
                            simp only [ls0, ls1]
                            refine st (.string (rdOf ByteArray.empty t3587 x3741)) rfl rfl (xr_load (.pointer (some ((⟨g3757, 0, none⟩ : Addr).add ((x3741 : Int).toNat * 1)))) (.string (rdOf ByteArray.empty t3587 x3741)) rfl rfl (load_str Try.underlying9 rfl hA3758 (Ft.now (HJ3734.ft)) (by first | assumption | decide | omega) (by first | assumption | decide | omega))) ?_
                            simp only [ls0, ls1]
                            refine st (.agg #[.string (rdOf ByteArray.empty t3587 x3741), .int .i64 0]) rfl rfl (xr_build #[(0, .string (rdOf ByteArray.empty t3587 x3741))] (.agg #[.string (rdOf ByteArray.empty t3587 x3741), .int .i64 0]) rfl (by simp only [List.map_toArray, List.map_cons, List.map_nil]; first | done | rfl) (by first | rfl | (go_simp; done) | (go_simp; rfl) | (go_simp; exact i64_w _) | (go_simp; exact i32_w _))) ?_
                            simp only [ls0, ls1]
                            refine ev_run (w1 := w3744.alloc (.cells #[.string (rdOf ByteArray.empty t3587 x3741), .int .i64 0] 25)) (.slice (some ⟨w3744.heap.size, 0, none⟩) 1 1) rfl rfl (by first | (go_simp; done) | (go_simp; rfl)) ?_
                            (try simp only [Act.put, List.setIfInBounds_toArray, ls0, ls1])
                            by_cases c3759 : x3735.length < 5864062014805
                            · rw [if_pos c3759] at H
                              obtain ⟨y3760, A3761, H⟩ := Option.bind_eq_some_iff.mp H
                              (try dsimp only at H)
                              refine Own.append k25 (C := C3743) (i := 12) rfl (.tmp 82) (.tmp 88) 22 25 (.agg #[(.string ⟨#[]⟩), (.int .i64 0)]) 24 rfl Try.underlying22 info25 rfl (by decide) (by decide) (.slice A3736 x3735.length cp3738) x3735 (⟨rdOf ByteArray.empty t3587 x3741, 0⟩ : S25) [.string (rdOf ByteArray.empty t3587 x3741), .int .i64 0] rfl rfl (k25_mkF _ _ (⟨rdOf ByteArray.empty t3587 x3741, 0⟩ : S25)) HJ3740 (by decide) (by omega) (Option.some.inj A3761) ?_
                              intro A3762 cp3763 w3764 C3765 HO3766 HC3767 hs3768
                              replace HJ3732 := HJ3732.thru hs3768 rfl
                              replace HJ3733 := HJ3733.thru hs3768 rfl
                              replace HJ3734 := HJ3734.thru hs3768 rfl
                              replace HS3746 := HS3746.trans hs3768 hc rfl
                              (try simp only [Act.put, List.setIfInBounds_toArray, ls0, ls1])
                              refine st (.slice A3762 y3760.length cp3763) rfl rfl (xr_assign (.slice A3762 y3760.length cp3763) rfl rfl) ?_
                              simp only [ls0, ls1]
                              refine wl_end ?_
                              (try simp only [Act.put, List.setIfInBounds_toArray, ls0, ls1])
                              refine hK3755 _ _ ?_
                              (try clear hK3755 K3755)
                              refine wl_region ?_
                              refine st (.int .i64 x3741) rfl rfl (xr_move (.int .i64 x3741) rfl rfl) ?_
                              simp only [ls0, ls1]
                              refine st (.int .i64 (wrap64 (x3741 + 1))) rfl rfl (xr_bin (.int .i64 x3741) (.int .i64 1) (.int .i64 (wrap64 (x3741 + 1))) rfl rfl rfl (B.add_i64 x3741 1)) ?_
                              simp only [ls0, ls1]
                              refine st (.int .i64 (wrap64 (x3741 + 1))) rfl rfl (xr_assign (.int .i64 (wrap64 (x3741 + 1))) rfl rfl) ?_
                              simp only [ls0, ls1]
                              refine wl_end ?_
                              (try simp only [Act.put, List.setIfInBounds_toArray, ls0, ls1])
                              exact ih3748 k3751 (by omega) _ _ ⟨_, wrap64 (x3741 + 1), A3762, y3760.length, cp3763, y3760, (fun q_ => List.getD [(g3742 0), undef, (g3742 2), (g3742 3), (g3742 4), (g3742 5), (g3742 6), (g3742 7), (g3742 8), undef, (g3742 10), (g3742 11), undef, (g3742 13), (g3742 14), undef, undef, undef, (g3742 18), (g3742 19), (g3742 20), (g3742 21), (g3742 22), (g3742 23), (g3742 24), (g3742 25), (g3742 26), (g3742 27), (g3742 28), (g3742 29), (g3742 30), (g3742 31), (g3742 32), (g3742 33), (g3742 34), (g3742 35), (g3742 36), (g3742 37), (g3742 38), (g3742 39), (g3742 40), (g3742 41), (g3742 42), (g3742 43), (g3742 44), (g3742 45), (g3742 46), (g3742 47), (g3742 48), (g3742 49), (g3742 50), (g3742 51), (g3742 52), (g3742 53), (g3742 54), (g3742 55), (g3742 56), (g3742 57), (g3742 58), (g3742 59), (g3742 60), (g3742 61), (g3742 62), (g3742 63), (g3742 64), (g3742 65), (g3742 66), (g3742 67), (g3742 68), (g3742 69), (g3742 70), (g3742 71), (g3742 72), (g3742 73), (g3742 74), (g3742 75), .int .i64 x3741, .slice A3593 t3587.length cp3594, .int .i64 (t3587.length : Int), .bool true, .int .i64 x3741, .int .i64 (wrap64 (x3741 + 1)), .slice A3736 x3735.length cp3738, .slice A3593 t3587.length cp3594, .int .i64 x3741, .pointer (some ((⟨g3757, 0, none⟩ : Addr).add ((x3741 : Int).toNat * 1))), .string (rdOf ByteArray.empty t3587 x3741), .agg #[.string (rdOf ByteArray.empty t3587 x3741), .int .i64 0], .slice (some ⟨w3744.heap.size, 0, none⟩) 1 1, .slice A3762 y3760.length cp3763, (g3742 90), (g3742 91), (g3742 92), (g3742 93), (g3742 94), (g3742 95), (g3742 96), (g3742 97), (g3742 98), (g3742 99), (g3742 100), (g3742 101), (g3742 102), (g3742 103), (g3742 104), (g3742 105), (g3742 106), (g3742 107), (g3742 108), (g3742 109), (g3742 110), (g3742 111), (g3742 112), (g3742 113), (g3742 114), (g3742 115), (g3742 116), (g3742 117), (g3742 118), (g3742 119), (g3742 120), (g3742 121), (g3742 122), (g3742 123), (g3742 124), (g3742 125), (g3742 126), (g3742 127)] q_ undef), rfl, HS3746, (by omega), HJ3732, HJ3733, HJ3734, HO3766, HC3767, H⟩
                            · rw [if_neg c3759] at H
                              exact absurd H (by simp)
                          · rw [if_neg c3756] at H
                            exact absurd H (by simp)
                        · rw [if_neg c3754] at H
                          (try rw [(decide_eq_false c3754)])
                          (try simp only [Bool.not_true, Bool.not_false])
                          refine wp_cond_false rfl ?_
                          refine wp_exit ?_
                          (try simp only [Act.put, List.setIfInBounds_toArray, ls0, ls1])
                          refine hK3598 _ _ ?_
                          (try clear hK3598 K3598)
                          refine wp_seq_k fun K3769 hK3769 => ?_
                          refine wp_seq_k fun K3846 hK3846 => ?_
                          refine wl_region ?_
                          refine st (.int .i64 0) rfl rfl (xr_assign (.int .i64 0) rfl rfl) ?_
                          simp only [ls0, ls1]
                          refine wl_end ?_
                          (try simp only [Act.put, List.setIfInBounds_toArray, ls0, ls1])
                          refine hK3846 _ _ ?_
                          (try clear hK3846 K3846)
                          refine wp_block ?_
                          (try simp only [Act.put, List.setIfInBounds_toArray, ls0, ls1])
                          refine wp_looped (looped_ind (fun kq3898 a_ w3897 => ∃ (C3896 : Nat → Nat) (x3894 : Int) (g3895 : Nat → Value), a_ = ⟨#[(g3895 0), .slice A1 l1.length c1, (g3895 2), (g3895 3), (g3895 4), (g3895 5), (g3895 6), (g3895 7), (g3895 8), v3571, (g3895 10), (g3895 11), .int .u64 t3530, (g3895 13), (g3895 14), .slice A3593 t3587.length cp3594, .slice A3736 x3735.length cp3738, (g3895 17), .int .i64 x3894, (g3895 19), (g3895 20), (g3895 21), (g3895 22), (g3895 23), (g3895 24), (g3895 25), (g3895 26), (g3895 27), (g3895 28), (g3895 29), (g3895 30), (g3895 31), (g3895 32), (g3895 33), (g3895 34), (g3895 35), (g3895 36), (g3895 37), (g3895 38), (g3895 39), (g3895 40), (g3895 41), (g3895 42), (g3895 43), (g3895 44), (g3895 45), (g3895 46), (g3895 47), (g3895 48), (g3895 49), (g3895 50), (g3895 51), (g3895 52), (g3895 53), (g3895 54), (g3895 55), (g3895 56), (g3895 57), (g3895 58), (g3895 59), (g3895 60), (g3895 61), (g3895 62), (g3895 63), (g3895 64), (g3895 65), (g3895 66), (g3895 67), (g3895 68), (g3895 69), (g3895 70), (g3895 71), (g3895 72), (g3895 73), (g3895 74), (g3895 75), (g3895 76), (g3895 77), (g3895 78), (g3895 79), (g3895 80), (g3895 81), (g3895 82), (g3895 83), (g3895 84), (g3895 85), (g3895 86), (g3895 87), (g3895 88), (g3895 89), (g3895 90), (g3895 91), (g3895 92), (g3895 93), (g3895 94), (g3895 95), (g3895 96), (g3895 97), (g3895 98), (g3895 99), (g3895 100), (g3895 101), (g3895 102), (g3895 103), (g3895 104), (g3895 105), (g3895 106), (g3895 107), (g3895 108), (g3895 109), (g3895 110), (g3895 111), (g3895 112), (g3895 113), (g3895 114), (g3895 115), (g3895 116), (g3895 117), (g3895 118), (g3895 119), (g3895 120), (g3895 121), (g3895 122), (g3895 123), (g3895 124), (g3895 125), (g3895 126), (g3895 127)], []⟩ ∧ Step c w C3896 w3897 [] ∧ kq3898 ≤ k3751 ∧ (Ft C3896 [0] w3897 (fun w_ => k25.C w_ A1 l1.length l1)) ∧ (Ft C3896 [0] w3897 (fun w_ => (Kd.ptr 91 k91).K w_ x3570 [v3571])) ∧ (Own C3896 11 w3897 Kd.string 9 (.slice A3593 t3587.length cp3594) t3587) ∧ (Own C3896 12 w3897 k25 25 (.slice A3736 x3735.length cp3738) x3735) ∧ blazonlaw16_RowBack.l0 kq3898 l1 t3530 t3587 x3570 x3735 x3894 = some r) ?step k3751 _ _ ?init)
                          case init =>
                            exact ⟨_, 0, (fun q_ => List.getD [(g3742 0), undef, (g3742 2), (g3742 3), (g3742 4), (g3742 5), (g3742 6), (g3742 7), (g3742 8), undef, (g3742 10), (g3742 11), undef, (g3742 13), (g3742 14), undef, undef, .int .i64 x3741, undef, (g3742 19), (g3742 20), (g3742 21), (g3742 22), (g3742 23), (g3742 24), (g3742 25), (g3742 26), (g3742 27), (g3742 28), (g3742 29), (g3742 30), (g3742 31), (g3742 32), (g3742 33), (g3742 34), (g3742 35), (g3742 36), (g3742 37), (g3742 38), (g3742 39), (g3742 40), (g3742 41), (g3742 42), (g3742 43), (g3742 44), (g3742 45), (g3742 46), (g3742 47), (g3742 48), (g3742 49), (g3742 50), (g3742 51), (g3742 52), (g3742 53), (g3742 54), (g3742 55), (g3742 56), (g3742 57), (g3742 58), (g3742 59), (g3742 60), (g3742 61), (g3742 62), (g3742 63), (g3742 64), (g3742 65), (g3742 66), (g3742 67), (g3742 68), (g3742 69), (g3742 70), (g3742 71), (g3742 72), (g3742 73), (g3742 74), (g3742 75), .int .i64 x3741, .slice A3593 t3587.length cp3594, .int .i64 (t3587.length : Int), .bool false, (g3742 80), (g3742 81), (g3742 82), (g3742 83), (g3742 84), (g3742 85), (g3742 86), (g3742 87), (g3742 88), (g3742 89), (g3742 90), (g3742 91), (g3742 92), (g3742 93), (g3742 94), (g3742 95), (g3742 96), (g3742 97), (g3742 98), (g3742 99), (g3742 100), (g3742 101), (g3742 102), (g3742 103), (g3742 104), (g3742 105), (g3742 106), (g3742 107), (g3742 108), (g3742 109), (g3742 110), (g3742 111), (g3742 112), (g3742 113), (g3742 114), (g3742 115), (g3742 116), (g3742 117), (g3742 118), (g3742 119), (g3742 120), (g3742 121), (g3742 122), (g3742 123), (g3742 124), (g3742 125), (g3742 126), (g3742 127)] q_ undef), rfl, HS3746, Nat.le_refl _, HJ3732, HJ3733, HJ3734, HJ3740, H⟩
                          case step =>
                            intro kq3898 ih3901 a3902 w3897 hr3903
                            obtain ⟨C3896, x3894, g3895, rfl, HS3899, hk3900, HJ3890, HJ3891, HJ3892, HJ3893, H⟩ := hr3903
                            refine looped_round ?_
                            cases kq3898 with
                            | zero => exact absurd H (by simp [blazonlaw16_RowBack.l0])
                            | succ k3904 =>
                              simp only [blazonlaw16_RowBack.l0] at H
                              refine wp_seq_k fun K3905 hK3905 => ?_
                              refine wp_seq_k fun K3906 hK3906 => ?_
                              refine wl_region ?_
                              refine st (.int .i64 x3894) rfl rfl (xr_move (.int .i64 x3894) rfl rfl) ?_
                              simp only [ls0, ls1]
                              refine st (.slice A1 l1.length c1) rfl rfl (xr_move (.slice A1 l1.length c1) rfl rfl) ?_
                              simp only [ls0, ls1]
                              refine st (.int .i64 (l1.length : Int)) rfl rfl (xr_builtin #[.slice A1 l1.length c1] (.int .i64 (l1.length : Int)) rfl (by simp only [List.map_toArray, List.map_cons, List.map_nil]; first | done | rfl) (by first | rfl | (go_simp; done) | (go_simp; rfl) | (go_simp; exact i64_w _) | (go_simp; exact i32_w _))) ?_
                              simp only [ls0, ls1]
                              refine st (.bool (decide (x3894 < (l1.length : Int)))) rfl rfl (xr_bin (.int .i64 x3894) (.int .i64 (l1.length : Int)) (.bool (decide (x3894 < (l1.length : Int)))) rfl rfl rfl (B.lss_i64 x3894 (l1.length : Int))) ?_
                              simp only [ls0, ls1]
                              refine wl_end ?_
                              (try simp only [Act.put, List.setIfInBounds_toArray, ls0, ls1])
                              refine hK3906 _ _ ?_
                              (try clear hK3906 K3906)
                              by_cases c3907 : x3894 < (l1.length : Int)
                              · rw [if_pos c3907] at H
                                (try rw [(decide_eq_true c3907)])
                                (try simp only [Bool.not_true, Bool.not_false])
                                refine wp_cond_true rfl ?_
                                refine wp_skip ?_
                                (try simp only [Act.put, List.setIfInBounds_toArray, ls0, ls1])
                                refine hK3905 _ _ ?_
                                (try clear hK3905 K3905)
                                refine wp_seq_k fun K3908 hK3908 => ?_
                                refine wp_block ?_
                                refine wp_seq_k fun K3909 hK3909 => ?_
                                refine wl_region ?_
                                refine st (.slice A3593 t3587.length cp3594) rfl rfl (xr_move (.slice A3593 t3587.length cp3594) rfl rfl) ?_
                                simp only [ls0, ls1]
                                refine st (.slice A1 l1.length c1) rfl rfl (xr_move (.slice A1 l1.length c1) rfl rfl) ?_
                                simp only [ls0, ls1]
                                refine st (.int .i64 x3894) rfl rfl (xr_move (.int .i64 x3894) rfl rfl) ?_
                                simp only [ls0, ls1]
                                by_cases c3910 : 0 ≤ x3894
                                · rw [if_pos c3910] at H
                                  obtain ⟨ad3911, hA3912⟩ := c_addr (Ft.now HJ3890) (pos_of (j := x3894) (by first | assumption | decide) (by first | assumption | omega))
                                  refine st (.pointer (some (ad3911.add ((x3894 : Int).toNat * 2)))) rfl rfl (xr_indexAddr (.slice A1 l1.length c1) (.int .i64 x3894) (.pointer (some (ad3911.add ((x3894 : Int).toNat * 2)))) rfl rfl rfl (index_at Try.underlying22 info25 hA3912 (by first | assumption | decide | omega) (by first | assumption | decide | omega))) ?_
                                  simp only [ls0, ls1]
                                  refine st (.pointer (some ((ad3911.add ((x3894 : Int).toNat * 2)).add 0))) rfl rfl (xr_fieldAddr (.pointer (some (ad3911.add ((x3894 : Int).toNat * 2)))) (.pointer (some ((ad3911.add ((x3894 : Int).toNat * 2)).add 0))) rfl rfl (field_at2 Try.underlying25 rfl rfl (by kernel_rfl))) ?_
                                  simp only [ls0, ls1]
                                  refine st (.string ((rd_T25 l1 x3894).f0)) rfl rfl (xr_load (.pointer (some ((ad3911.add ((x3894 : Int).toNat * 2)).add 0))) (.string ((rd_T25 l1 x3894).f0)) rfl rfl (by obtain ⟨ad_, cs_, e_, _, hK_, hc_⟩ := Kd.C_get (Ft.now HJ3890) z25 x3894 (by first | assumption | decide | omega) (by first | assumption | decide | omega); rw [hA3912] at e_; injection e_ with e_; subst e_; obtain rfl := k25_open hK_; exact load_cell Try.underlying9 rfl (by first | (rw [add_add]; exact hc_ 0 _ rfl) | (have h_ := hc_ 0 _ rfl; rw [Nat.add_zero] at h_; exact h_)))) ?_
                                  simp only [ls0, ls1]
                                  obtain ⟨t3914, A3915, H⟩ := Option.bind_eq_some_iff.mp H
                                  (try dsimp only at H)
                                  refine st_call #[.slice A3593 t3587.length cp3594, .string ((rd_T25 l1 x3894).f0)] rfl rfl Try.func18 (by kernel_rfl) rfl rfl (by simp only [List.map_toArray, List.map_cons, List.map_nil]; first | done | rfl) ?_
                                  refine (blazonref13_Find.calls k3904 A3593 cp3594 t3587 ((rd_T25 l1 x3894).f0) t3914  (fun z_ => pal [(0, 0), (11, 0)] (C3896 z_)) w3897 (fun _ => pal_lt rfl _) (Ft.arg (HJ3892.ft) rfl) HC3596 A3915).mono ?_
                                  rintro _ w3917 ⟨C3918, rfl, hs3919⟩
                                  refine ⟨_, rfl, ?_⟩
                                  replace hs3919 := Step.lift (U := [(0, 0)]) hs3919 [] rfl rfl
                                  generalize up C3896 C3918 w3897.heap.size [(0, 0)] = C3918_ at hs3919
                                  replace HJ3890 := HJ3890.thru hs3919 rfl
                                  replace HJ3891 := HJ3891.thru hs3919 rfl
                                  replace HJ3892 := HJ3892.thru hs3919 rfl
                                  replace HJ3893 := HJ3893.thru hs3919 rfl
                                  replace HS3899 := HS3899.trans hs3919 hc rfl
                                  (try simp only [Act.put, List.setIfInBounds_toArray, ls0, ls1])
                                  refine st (.bool (decide (t3914 < 0))) rfl rfl (xr_bin (.int .i64 t3914) (.int .i64 0) (.bool (decide (t3914 < 0))) rfl rfl rfl (B.lss_i64 t3914 0)) ?_
                                  simp only [ls0, ls1]
                                  refine wl_end ?_
                                  (try simp only [Act.put, List.setIfInBounds_toArray, ls0, ls1])
                                  refine hK3909 _ _ ?_
                                  (try clear hK3909 K3909)
                                  by_cases c3920 : t3914 < 0
                                  · rw [if_pos c3920] at H
                                    (try rw [(decide_eq_true c3920)])
                                    (try simp only [Bool.not_true, Bool.not_false])
                                    refine wp_cond_true rfl ?_
                                    refine wp_seq_k fun K3921 hK3921 => ?_
                                    refine wl_region ?_
                                    refine st (.bool false) rfl rfl (xr_assign (.bool false) rfl rfl) ?_
                                    simp only [ls0, ls1]
                                    refine wl_end ?_
                                    (try simp only [Act.put, List.setIfInBounds_toArray, ls0, ls1])
                                    refine hK3921 _ _ ?_
                                    (try clear hK3921 K3921)
                                    refine wp_ret ?_
                                    (try simp only [Exit.inBlock, Exit.then, Exit.noGoto])
                                    (try simp only [Act.put, List.setIfInBounds_toArray, ls0, ls1])
                                    obtain rfl := Option.some.inj H
                                    refine bodyPost_ret (results_tmp rfl _ _ _) rfl ?_
                                    exact ⟨_, rfl, HS3899⟩
                                  · rw [if_neg c3920] at H
                                    (try rw [(decide_eq_false c3920)])
                                    (try simp only [Bool.not_true, Bool.not_false])
                                    refine wp_cond_false rfl ?_
                                    refine wp_skip ?_
                                    (try simp only [Act.put, List.setIfInBounds_toArray, ls0, ls1])
                                    refine hK3908 _ _ ?_
                                    (try clear hK3908 K3908)
                                    refine wl_region ?_
                                    refine st (.int .i64 x3894) rfl rfl (xr_move (.int .i64 x3894) rfl rfl) ?_
                                    simp only [ls0, ls1]
                                    refine st (.int .i64 (wrap64 (x3894 + 1))) rfl rfl (xr_bin (.int .i64 x3894) (.int .i64 1) (.int .i64 (wrap64 (x3894 + 1))) rfl rfl rfl (B.add_i64 x3894 1)) ?_
                                    simp only [ls0, ls1]
                                    refine st (.int .i64 (wrap64 (x3894 + 1))) rfl rfl (xr_assign (.int .i64 (wrap64 (x3894 + 1))) rfl rfl) ?_
                                    simp only [ls0, ls1]
                                    refine wl_end ?_
                                    (try simp only [Act.put, List.setIfInBounds_toArray, ls0, ls1])
                                    exact ih3901 k3904 (by omega) _ _ ⟨_, wrap64 (x3894 + 1), (fun q_ => List.getD [(g3895 0), undef, (g3895 2), (g3895 3), (g3895 4), (g3895 5), (g3895 6), (g3895 7), (g3895 8), undef, (g3895 10), (g3895 11), undef, (g3895 13), (g3895 14), undef, undef, (g3895 17), undef, (g3895 19), (g3895 20), (g3895 21), (g3895 22), (g3895 23), (g3895 24), (g3895 25), (g3895 26), (g3895 27), (g3895 28), (g3895 29), (g3895 30), (g3895 31), (g3895 32), (g3895 33), (g3895 34), (g3895 35), (g3895 36), (g3895 37), (g3895 38), (g3895 39), (g3895 40), (g3895 41), (g3895 42), (g3895 43), (g3895 44), (g3895 45), (g3895 46), (g3895 47), (g3895 48), (g3895 49), (g3895 50), (g3895 51), (g3895 52), (g3895 53), (g3895 54), (g3895 55), (g3895 56), (g3895 57), (g3895 58), (g3895 59), (g3895 60), (g3895 61), (g3895 62), (g3895 63), (g3895 64), (g3895 65), (g3895 66), (g3895 67), (g3895 68), (g3895 69), (g3895 70), (g3895 71), (g3895 72), (g3895 73), (g3895 74), (g3895 75), (g3895 76), (g3895 77), (g3895 78), (g3895 79), (g3895 80), (g3895 81), (g3895 82), (g3895 83), (g3895 84), (g3895 85), (g3895 86), (g3895 87), (g3895 88), (g3895 89), .int .i64 x3894, .slice A1 l1.length c1, .int .i64 (l1.length : Int), .bool true, .int .i64 x3894, .int .i64 (wrap64 (x3894 + 1)), .slice A3593 t3587.length cp3594, .slice A1 l1.length c1, .int .i64 x3894, .pointer (some (ad3911.add ((x3894 : Int).toNat * 2))), .pointer (some ((ad3911.add ((x3894 : Int).toNat * 2)).add 0)), .string ((rd_T25 l1 x3894).f0), .int .i64 t3914, .bool false, (g3895 104), (g3895 105), (g3895 106), (g3895 107), (g3895 108), (g3895 109), (g3895 110), (g3895 111), (g3895 112), (g3895 113), (g3895 114), (g3895 115), (g3895 116), (g3895 117), (g3895 118), (g3895 119), (g3895 120), (g3895 121), (g3895 122), (g3895 123), (g3895 124), (g3895 125), (g3895 126), (g3895 127)] q_ undef), rfl, HS3899, (by omega), HJ3890, HJ3891, HJ3892, HJ3893, H⟩
                                · rw [if_neg c3910] at H
                                  exact absurd H (by simp)
                              · rw [if_neg c3907] at H
                                (try rw [(decide_eq_false c3907)])
                                (try simp only [Bool.not_true, Bool.not_false])
                                refine wp_cond_false rfl ?_
                                refine wp_exit ?_
                                (try simp only [Act.put, List.setIfInBounds_toArray, ls0, ls1])
                                refine hK3769 _ _ ?_
                                (try clear hK3769 K3769)
                                refine wp_seq_k fun K3922 hK3922 => ?_
                                refine wl_region ?_
                                refine st (v3571) rfl rfl (xr_move (v3571) rfl rfl) ?_
                                simp only [ls0, ls1]
                                refine st (.slice A3736 x3735.length cp3738) rfl rfl (xr_move (.slice A3736 x3735.length cp3738) rfl rfl) ?_
                                simp only [ls0, ls1]
                                obtain ⟨⟨t3923, t3924, t3925⟩, A3926, H⟩ := Option.bind_eq_some_iff.mp H
                                (try dsimp only at H)
                                refine st_call #[v3571, .slice A3736 x3735.length cp3738] rfl rfl Try.func16 (by kernel_rfl) rfl rfl (by simp only [List.map_toArray, List.map_cons, List.map_nil]; first | done | rfl) ?_
                                refine (row_Table_Set.calls k3904 v3571 x3570 A3736 cp3738 x3735 t3923 t3924 t3925  (fun z_ => pal [(0, 0), (12, 0)] (C3896 z_)) w3897 (fun _ => pal_lt rfl _) (Ft.arg HJ3891 rfl) (Ft.arg (HJ3893.ft) rfl) HC3739 A3926).mono ?_
                                rintro _ w3928 ⟨C3929, rfl, hs3930⟩
                                refine ⟨_, rfl, ?_⟩
                                replace hs3930 := Step.lift (U := [(0, 0)]) hs3930 [] rfl rfl
                                generalize up C3896 C3929 w3897.heap.size [(0, 0)] = C3929_ at hs3930
                                replace HJ3892 := HJ3892.thru hs3930 rfl
                                replace HS3899 := HS3899.trans hs3930 hc rfl
                                (try simp only [Act.put, List.setIfInBounds_toArray, ls0, ls1])
                                refine st (.tuple #[.int .u64 t3923, .int .i64 t3924, .int .i64 t3925]) rfl rfl (xr_move (.tuple #[.int .u64 t3923, .int .i64 t3924, .int .i64 t3925]) rfl rfl) ?_
                                simp only [ls0, ls1]
                                refine st (.int .u64 t3923) rfl rfl (xr_extract (.tuple #[.int .u64 t3923, .int .i64 t3924, .int .i64 t3925]) (.int .u64 t3923) rfl rfl rfl) ?_
                                simp only [ls0, ls1]
                                refine st (.int .i64 t3924) rfl rfl (xr_extract (.tuple #[.int .u64 t3923, .int .i64 t3924, .int .i64 t3925]) (.int .i64 t3924) rfl rfl rfl) ?_
                                simp only [ls0, ls1]
                                refine st (.int .i64 t3925) rfl rfl (xr_extract (.tuple #[.int .u64 t3923, .int .i64 t3924, .int .i64 t3925]) (.int .i64 t3925) rfl rfl rfl) ?_
                                simp only [ls0, ls1]
                                refine st (.int .u64 t3923) rfl rfl (xr_assign (.int .u64 t3923) rfl rfl) ?_
                                simp only [ls0, ls1]
                                refine st (.int .i64 t3924) rfl rfl (xr_assign (.int .i64 t3924) rfl rfl) ?_
                                simp only [ls0, ls1]
                                refine st (.int .i64 t3925) rfl rfl (xr_assign (.int .i64 t3925) rfl rfl) ?_
                                simp only [ls0, ls1]
                                refine wl_end ?_
                                (try simp only [Act.put, List.setIfInBounds_toArray, ls0, ls1])
                                refine hK3922 _ _ ?_
                                (try clear hK3922 K3922)
                                refine wp_seq_k fun K3931 hK3931 => ?_
                                refine wl_region ?_
                                refine st (.int .u64 t3923) rfl rfl (xr_move (.int .u64 t3923) rfl rfl) ?_
                                simp only [ls0, ls1]
                                refine st (.int .u64 t3530) rfl rfl (xr_move (.int .u64 t3530) rfl rfl) ?_
                                simp only [ls0, ls1]
                                refine st (.bool (decide (t3923 = t3530))) rfl rfl (xr_bin (.int .u64 t3923) (.int .u64 t3530) (.bool (decide (t3923 = t3530))) rfl rfl rfl (B.eql_u64 t3923 t3530)) ?_
                                simp only [ls0, ls1]
                                refine st (.bool (decide (t3923 = t3530))) rfl rfl (xr_move (.bool (decide (t3923 = t3530))) rfl rfl) ?_
                                simp only [ls0, ls1]
                                by_cases c3932 : t3923 = t3530
                                · rw [if_pos c3932] at H
                                  (try rw [(decide_eq_true c3932)])
                                  (try simp only [Bool.not_true, Bool.not_false])
                                  refine on_guard (guard_on 3 true 114 rfl rfl rfl) ?_
                                  refine st (.int .i64 t3925) rfl rfl (xr_move (.int .i64 t3925) rfl rfl) ?_
                                  simp only [ls0, ls1]
                                  refine on_guard (guard_on 3 true 114 rfl rfl rfl) ?_
                                  refine st (.bool (decide (t3925 = 0))) rfl rfl (xr_bin (.int .i64 t3925) (.int .i64 0) (.bool (decide (t3925 = 0))) rfl rfl rfl (B.eql_i64 t3925 0)) ?_
                                  simp only [ls0, ls1]
                                  refine st (.bool (decide (t3925 = 0))) rfl rfl (xr_pick true (.bool (decide (t3925 = 0))) rfl rfl rfl) ?_
                                  simp only [ls0, ls1]
                                  refine st (.bool (decide (t3925 = 0))) rfl rfl (xr_move (.bool (decide (t3925 = 0))) rfl rfl) ?_
                                  simp only [ls0, ls1]
                                  by_cases c3933 : t3925 = 0
                                  · rw [if_pos c3933] at H
                                    (try rw [(decide_eq_true c3933)])
                                    (try simp only [Bool.not_true, Bool.not_false])
                                    refine on_guard (guard_on 7 true 118 rfl rfl rfl) ?_
                                    refine st (.int .u64 t3530) rfl rfl (xr_move (.int .u64 t3530) rfl rfl) ?_
                                    simp only [ls0, ls1]
                                    refine on_guard (guard_on 7 true 118 rfl rfl rfl) ?_
                                    obtain ⟨t3934, A3935, H⟩ := Option.bind_eq_some_iff.mp H
                                    (try dsimp only at H)
                                    refine st_call #[.int .u64 t3530] rfl rfl Try.func19 (by kernel_rfl) rfl rfl (by simp only [List.map_toArray, List.map_cons, List.map_nil]; first | done | rfl) ?_
                                    refine (row_Count.calls t3530 t3934  (fun z_ => pal [(0, 0)] (C3929_ z_)) w3928 (fun _ => pal_lt rfl _) A3935).mono ?_
                                    rintro _ w3937 ⟨C3938, rfl, hs3939⟩
                                    refine ⟨_, rfl, ?_⟩
                                    replace hs3939 := Step.lift (U := [(0, 0)]) hs3939 [] rfl rfl
                                    generalize up C3929_ C3938 w3928.heap.size [(0, 0)] = C3938_ at hs3939
                                    replace HJ3892 := HJ3892.thru hs3939 rfl
                                    replace HS3899 := HS3899.trans hs3939 hc rfl
                                    (try simp only [Act.put, List.setIfInBounds_toArray, ls0, ls1])
                                    refine on_guard (guard_on 7 true 118 rfl rfl rfl) ?_
                                    refine st (.slice A3593 t3587.length cp3594) rfl rfl (xr_move (.slice A3593 t3587.length cp3594) rfl rfl) ?_
                                    simp only [ls0, ls1]
                                    refine on_guard (guard_on 7 true 118 rfl rfl rfl) ?_
                                    refine st (.int .i64 (t3587.length : Int)) rfl rfl (xr_builtin #[.slice A3593 t3587.length cp3594] (.int .i64 (t3587.length : Int)) rfl (by simp only [List.map_toArray, List.map_cons, List.map_nil]; first | done | rfl) (by first | rfl | (go_simp; done) | (go_simp; rfl) | (go_simp; exact i64_w _) | (go_simp; exact i32_w _))) ?_
                                    simp only [ls0, ls1]
                                    refine on_guard (guard_on 7 true 118 rfl rfl rfl) ?_
                                    refine st (.bool (decide (t3934 = (t3587.length : Int)))) rfl rfl (xr_bin (.int .i64 t3934) (.int .i64 (t3587.length : Int)) (.bool (decide (t3934 = (t3587.length : Int)))) rfl rfl rfl (B.eql_i64 t3934 (t3587.length : Int))) ?_
                                    simp only [ls0, ls1]
                                    refine st (.bool (decide (t3934 = (t3587.length : Int)))) rfl rfl (xr_pick true (.bool (decide (t3934 = (t3587.length : Int)))) rfl rfl rfl) ?_
                                    simp only [ls0, ls1]
                                    refine st (.bool (decide (t3934 = (t3587.length : Int)))) rfl rfl (xr_move (.bool (decide (t3934 = (t3587.length : Int)))) rfl rfl) ?_
                                    simp only [ls0, ls1]
                                    by_cases c3940 : t3934 = (t3587.length : Int)
                                    · rw [if_pos c3940] at H
                                      (try rw [(decide_eq_true c3940)])
                                      (try simp only [Bool.not_true, Bool.not_false])
                                      refine on_guard (guard_on 14 true 125 rfl rfl rfl) ?_
                                      obtain ⟨t3941, A3942, H⟩ := Option.bind_eq_some_iff.mp H
                                      (try dsimp only at H)
                                      refine st_call #[] rfl rfl Try.func13 (by kernel_rfl) rfl rfl (by simp only [List.map_toArray, List.map_cons, List.map_nil]; first | done | rfl) ?_
                                      refine (blazonlaw16_awake.calls k3904 t3941  (fun z_ => pal [(0, 0)] (C3938_ z_)) w3937 (fun _ => pal_lt rfl _) A3942).mono ?_
                                      rintro _ w3944 ⟨C3945, rfl, hs3946⟩
                                      refine ⟨_, rfl, ?_⟩
                                      replace hs3946 := Step.lift (U := [(0, 0)]) hs3946 [] rfl rfl
                                      generalize up C3938_ C3945 w3937.heap.size [(0, 0)] = C3945_ at hs3946
                                      replace HS3899 := HS3899.trans hs3946 hc rfl
                                      (try simp only [Act.put, List.setIfInBounds_toArray, ls0, ls1])
                                      refine st (.bool t3941) rfl rfl (xr_pick true (.bool t3941) rfl rfl rfl) ?_
                                      simp only [ls0, ls1]
                                      refine st (.bool t3941) rfl rfl (xr_assign (.bool t3941) rfl rfl) ?_
                                      simp only [ls0, ls1]
                                      refine wl_end ?_
                                      (try simp only [Act.put, List.setIfInBounds_toArray, ls0, ls1])
                                      refine hK3931 _ _ ?_
                                      (try clear hK3931 K3931)
                                      refine wp_ret ?_
                                      (try simp only [Exit.inBlock, Exit.then, Exit.noGoto])
                                      (try simp only [Act.put, List.setIfInBounds_toArray, ls0, ls1])
                                      obtain rfl := Option.some.inj H
                                      refine bodyPost_ret (results_tmp rfl _ _ _) rfl ?_
                                      exact ⟨_, rfl, HS3899⟩
                                    · rw [if_neg c3940] at H
                                      (try rw [(decide_eq_false c3940)])
                                      (try simp only [Bool.not_true, Bool.not_false])
                                      refine sk_guard (guard_off 14 true 125 rfl rfl false (by decide) rfl) rfl ?_
                                      simp only [ls0, ls1]
                                      refine st (.bool false) rfl rfl (xr_pick false (.bool false) rfl rfl rfl) ?_
                                      simp only [ls0, ls1]
                                      refine st (.bool false) rfl rfl (xr_assign (.bool false) rfl rfl) ?_
                                      simp only [ls0, ls1]
                                      refine wl_end ?_
                                      (try simp only [Act.put, List.setIfInBounds_toArray, ls0, ls1])
                                      refine hK3931 _ _ ?_
                                      (try clear hK3931 K3931)
                                      refine wp_ret ?_
                                      (try simp only [Exit.inBlock, Exit.then, Exit.noGoto])
                                      (try simp only [Act.put, List.setIfInBounds_toArray, ls0, ls1])
                                      obtain rfl := Option.some.inj H
                                      refine bodyPost_ret (results_tmp rfl _ _ _) rfl ?_
                                      exact ⟨_, rfl, HS3899⟩
                                  · rw [if_neg c3933] at H
                                    (try rw [(decide_eq_false c3933)])
                                    (try simp only [Bool.not_true, Bool.not_false])
                                    refine sk_guard (guard_off 7 true 118 rfl rfl false (by decide) rfl) rfl ?_
                                    simp only [ls0, ls1]
                                    refine sk_guard (guard_off 7 true 118 rfl rfl false (by decide) rfl) rfl ?_
                                    simp only [ls0, ls1]
                                    refine sk_guard (guard_off 7 true 118 rfl rfl false (by decide) rfl) rfl ?_
                                    simp only [ls0, ls1]
                                    refine sk_guard (guard_off 7 true 118 rfl rfl false (by decide) rfl) rfl ?_
                                    simp only [ls0, ls1]
                                    refine sk_guard (guard_off 7 true 118 rfl rfl false (by decide) rfl) rfl ?_
                                    simp only [ls0, ls1]
                                    refine st (.bool false) rfl rfl (xr_pick false (.bool false) rfl rfl rfl) ?_
                                    simp only [ls0, ls1]
                                    refine st (.bool false) rfl rfl (xr_move (.bool false) rfl rfl) ?_
                                    simp only [ls0, ls1]
                                    refine sk_guard (guard_off 14 true 125 rfl rfl false (by decide) rfl) rfl ?_
                                    simp only [ls0, ls1]
                                    refine st (.bool false) rfl rfl (xr_pick false (.bool false) rfl rfl rfl) ?_
                                    simp only [ls0, ls1]
                                    refine st (.bool false) rfl rfl (xr_assign (.bool false) rfl rfl) ?_
                                    simp only [ls0, ls1]
                                    refine wl_end ?_
                                    (try simp only [Act.put, List.setIfInBounds_toArray, ls0, ls1])
                                    refine hK3931 _ _ ?_
                                    (try clear hK3931 K3931)
                                    refine wp_ret ?_
                                    (try simp only [Exit.inBlock, Exit.then, Exit.noGoto])
                                    (try simp only [Act.put, List.setIfInBounds_toArray, ls0, ls1])
                                    obtain rfl := Option.some.inj H
                                    refine bodyPost_ret (results_tmp rfl _ _ _) rfl ?_
                                    exact ⟨_, rfl, HS3899⟩
                                · rw [if_neg c3932] at H
                                  (try rw [(decide_eq_false c3932)])
                                  (try simp only [Bool.not_true, Bool.not_false])
                                  refine sk_guard (guard_off 3 true 114 rfl rfl false (by decide) rfl) rfl ?_
                                  simp only [ls0, ls1]
                                  refine sk_guard (guard_off 3 true 114 rfl rfl false (by decide) rfl) rfl ?_
                                  simp only [ls0, ls1]
                                  refine st (.bool false) rfl rfl (xr_pick false (.bool false) rfl rfl rfl) ?_
                                  simp only [ls0, ls1]
                                  refine st (.bool false) rfl rfl (xr_move (.bool false) rfl rfl) ?_
                                  simp only [ls0, ls1]
                                  refine sk_guard (guard_off 7 true 118 rfl rfl false (by decide) rfl) rfl ?_
                                  simp only [ls0, ls1]
                                  refine sk_guard (guard_off 7 true 118 rfl rfl false (by decide) rfl) rfl ?_
                                  simp only [ls0, ls1]
                                  refine sk_guard (guard_off 7 true 118 rfl rfl false (by decide) rfl) rfl ?_
                                  simp only [ls0, ls1]
                                  refine sk_guard (guard_off 7 true 118 rfl rfl false (by decide) rfl) rfl ?_
                                  simp only [ls0, ls1]
                                  refine sk_guard (guard_off 7 true 118 rfl rfl false (by decide) rfl) rfl ?_
                                  simp only [ls0, ls1]
                                  refine st (.bool false) rfl rfl (xr_pick false (.bool false) rfl rfl rfl) ?_
                                  simp only [ls0, ls1]
                                  refine st (.bool false) rfl rfl (xr_move (.bool false) rfl rfl) ?_
                                  simp only [ls0, ls1]
                                  refine sk_guard (guard_off 14 true 125 rfl rfl false (by decide) rfl) rfl ?_
                                  simp only [ls0, ls1]
                                  refine st (.bool false) rfl rfl (xr_pick false (.bool false) rfl rfl rfl) ?_
                                  simp only [ls0, ls1]
                                  refine st (.bool false) rfl rfl (xr_assign (.bool false) rfl rfl) ?_
                                  simp only [ls0, ls1]
                                  refine wl_end ?_
                                  (try simp only [Act.put, List.setIfInBounds_toArray, ls0, ls1])
                                  refine hK3931 _ _ ?_
                                  (try clear hK3931 K3931)
                                  refine wp_ret ?_
                                  (try simp only [Exit.inBlock, Exit.then, Exit.noGoto])
                                  (try simp only [Act.put, List.setIfInBounds_toArray, ls0, ls1])
                                  obtain rfl := Option.some.inj H
                                  refine bodyPost_ret (results_tmp rfl _ _ _) rfl ?_
                                  exact ⟨_, rfl, HS3899⟩
              refine wl_region ?_
              refine st (.int .i64 t3521) rfl rfl (xr_move (.int .i64 t3521) rfl rfl) ?_
              simp only [ls0, ls1]
              refine st (.bool (!decide (t3521 = 0))) rfl rfl (xr_bin (.int .i64 t3521) (.int .i64 0) (.bool (!decide (t3521 = 0))) rfl rfl rfl (B.neq_i64 t3521 0)) ?_
              simp only [ls0, ls1]
              refine st (.bool (!decide (t3521 = 0))) rfl rfl (xr_move (.bool (!decide (t3521 = 0))) rfl rfl) ?_
              simp only [ls0, ls1]
              by_cases c3947 : t3521 = 0
              · rw [if_pos c3947] at H
                (try rw [(decide_eq_true c3947)])
                (try simp only [Bool.not_true, Bool.not_false])
                refine on_guard (guard_on 2 false 68 rfl rfl rfl) ?_
                refine st (.int .i64 t3532) rfl rfl (xr_move (.int .i64 t3532) rfl rfl) ?_
                simp only [ls0, ls1]
                refine on_guard (guard_on 2 false 68 rfl rfl rfl) ?_
                refine st (.bool (!decide (t3532 = 0))) rfl rfl (xr_bin (.int .i64 t3532) (.int .i64 0) (.bool (!decide (t3532 = 0))) rfl rfl rfl (B.neq_i64 t3532 0)) ?_
                simp only [ls0, ls1]
                refine st (.bool (!decide (t3532 = 0))) rfl rfl (xr_pick false (.bool (!decide (t3532 = 0))) rfl rfl rfl) ?_
                simp only [ls0, ls1]
                refine wl_end ?_
                (try simp only [Act.put, List.setIfInBounds_toArray, ls0, ls1])
                exact hj3565 _ _ _ (!decide (t3532 = 0)) (v3527) (t3519) (fun q_ => List.getD [.slice A0 l0.length c0, undef, (g3512 2), (g3512 3), (g3512 4), (g3512 5), (g3512 6), (g3512 7), (g3512 8), undef, .int .i64 t3520, .int .i64 t3521, undef, .int .i64 t3531, .int .i64 t3532, (g3512 15), (g3512 16), (g3512 17), (g3512 18), (g3512 19), (g3512 20), (g3512 21), (g3512 22), (g3512 23), (g3512 24), (g3512 25), (g3512 26), (g3512 27), (g3512 28), (g3512 29), (g3512 30), (g3512 31), (g3512 32), (g3512 33), (g3512 34), (g3512 35), (g3512 36), (g3512 37), (g3512 38), (g3512 39), (g3512 40), (g3512 41), (g3512 42), (g3512 43), (g3512 44), (g3512 45), (g3512 46), (g3512 47), (g3512 48), (g3512 49), (g3512 50), (g3512 51), .bool false, .tuple #[v3527, .int .i64 t3520, .int .i64 t3521], .slice A0 l0.length c0, .tuple #[v3527, .int .i64 t3520, .int .i64 t3521], v3527, .int .i64 t3520, .int .i64 t3521, .tuple #[.int .u64 t3530, .int .i64 t3531, .int .i64 t3532], v3527, .slice A1 l1.length c1, .tuple #[.int .u64 t3530, .int .i64 t3531, .int .i64 t3532], .int .u64 t3530, .int .i64 t3531, .int .i64 t3532, .int .i64 t3521, .bool false, .bool false, .int .i64 t3532, .bool (!decide (t3532 = 0)), undef, (g3512 72), (g3512 73), (g3512 74), (g3512 75), (g3512 76), (g3512 77), (g3512 78), (g3512 79), (g3512 80), (g3512 81), (g3512 82), (g3512 83), (g3512 84), (g3512 85), (g3512 86), (g3512 87), (g3512 88), (g3512 89), (g3512 90), (g3512 91), (g3512 92), (g3512 93), (g3512 94), (g3512 95), (g3512 96), (g3512 97), (g3512 98), (g3512 99), (g3512 100), (g3512 101), (g3512 102), (g3512 103), (g3512 104), (g3512 105), (g3512 106), (g3512 107), (g3512 108), (g3512 109), (g3512 110), (g3512 111), (g3512 112), (g3512 113), (g3512 114), (g3512 115), (g3512 116), (g3512 117), (g3512 118), (g3512 119), (g3512 120), (g3512 121), (g3512 122), (g3512 123), (g3512 124), (g3512 125), (g3512 126), (g3512 127)] q_ undef)  HS3508 (by omega) HJ3510 HB3528 H
              · rw [if_neg c3947] at H
                (try rw [(decide_eq_false c3947)])
                (try simp only [Bool.not_true, Bool.not_false])
                refine sk_guard (guard_off 2 false 68 rfl rfl true (by decide) rfl) rfl ?_
                simp only [ls0, ls1]
                refine sk_guard (guard_off 2 false 68 rfl rfl true (by decide) rfl) rfl ?_
                simp only [ls0, ls1]
                refine st (.bool true) rfl rfl (xr_pick true (.bool true) rfl rfl rfl) ?_
                simp only [ls0, ls1]
                refine wl_end ?_
                (try simp only [Act.put, List.setIfInBounds_toArray, ls0, ls1])
                exact hj3565 _ _ _ (true) (v3527) (t3519) (fun q_ => List.getD [.slice A0 l0.length c0, undef, (g3512 2), (g3512 3), (g3512 4), (g3512 5), (g3512 6), (g3512 7), (g3512 8), undef, .int .i64 t3520, .int .i64 t3521, undef, .int .i64 t3531, .int .i64 t3532, (g3512 15), (g3512 16), (g3512 17), (g3512 18), (g3512 19), (g3512 20), (g3512 21), (g3512 22), (g3512 23), (g3512 24), (g3512 25), (g3512 26), (g3512 27), (g3512 28), (g3512 29), (g3512 30), (g3512 31), (g3512 32), (g3512 33), (g3512 34), (g3512 35), (g3512 36), (g3512 37), (g3512 38), (g3512 39), (g3512 40), (g3512 41), (g3512 42), (g3512 43), (g3512 44), (g3512 45), (g3512 46), (g3512 47), (g3512 48), (g3512 49), (g3512 50), (g3512 51), .bool false, .tuple #[v3527, .int .i64 t3520, .int .i64 t3521], .slice A0 l0.length c0, .tuple #[v3527, .int .i64 t3520, .int .i64 t3521], v3527, .int .i64 t3520, .int .i64 t3521, .tuple #[.int .u64 t3530, .int .i64 t3531, .int .i64 t3532], v3527, .slice A1 l1.length c1, .tuple #[.int .u64 t3530, .int .i64 t3531, .int .i64 t3532], .int .u64 t3530, .int .i64 t3531, .int .i64 t3532, .int .i64 t3521, .bool true, .bool true, undef, undef, undef, (g3512 72), (g3512 73), (g3512 74), (g3512 75), (g3512 76), (g3512 77), (g3512 78), (g3512 79), (g3512 80), (g3512 81), (g3512 82), (g3512 83), (g3512 84), (g3512 85), (g3512 86), (g3512 87), (g3512 88), (g3512 89), (g3512 90), (g3512 91), (g3512 92), (g3512 93), (g3512 94), (g3512 95), (g3512 96), (g3512 97), (g3512 98), (g3512 99), (g3512 100), (g3512 101), (g3512 102), (g3512 103), (g3512 104), (g3512 105), (g3512 106), (g3512 107), (g3512 108), (g3512 109), (g3512 110), (g3512 111), (g3512 112), (g3512 113), (g3512 114), (g3512 115), (g3512 116), (g3512 117), (g3512 118), (g3512 119), (g3512 120), (g3512 121), (g3512 122), (g3512 123), (g3512 124), (g3512 125), (g3512 126), (g3512 127)] q_ undef)  HS3508 (by omega) HJ3510 HB3528 H
        refine wl_region ?_
        refine st (.pointer none) rfl rfl (xr_move (.pointer none) rfl rfl) ?_
        simp only [ls0, ls1]
        obtain ⟨t3948, A3949, H⟩ := Option.bind_eq_some_iff.mp H
        (try dsimp only at H)
        refine st_call #[.pointer none] rfl rfl Try.func14 (by kernel_rfl) rfl rfl (by simp only [List.map_toArray, List.map_cons, List.map_nil]; first | done | rfl) ?_
        refine (row_Table_Len.calls (.pointer none) (none : Option S91) t3948  (fun z_ => pal [(0, 0)] (C3433_ z_)) w3432 (fun _ => pal_lt rfl _) (ptr_nil _ _ _ _ _) A3949).mono ?_
        rintro _ w3951 ⟨C3952, rfl, hs3953⟩
        refine ⟨_, rfl, ?_⟩
        replace hs3953 := Step.lift (U := [(0, 0)]) hs3953 [] rfl rfl
        generalize up C3433_ C3952 w3432.heap.size [(0, 0)] = C3952_ at hs3953
        replace HJ3410 := HJ3410.thru hs3953 rfl
        replace HJ3411 := HJ3411.thru hs3953 rfl
        replace HS3409 := HS3409.trans hs3953 hc rfl
        (try simp only [Act.put, List.setIfInBounds_toArray, ls0, ls1])
        refine st (.bool (!decide (t3948 = 0))) rfl rfl (xr_bin (.int .i64 t3948) (.int .i64 0) (.bool (!decide (t3948 = 0))) rfl rfl rfl (B.neq_i64 t3948 0)) ?_
        simp only [ls0, ls1]
        refine st (.bool (!decide (t3948 = 0))) rfl rfl (xr_move (.bool (!decide (t3948 = 0))) rfl rfl) ?_
        simp only [ls0, ls1]
        by_cases c3954 : t3948 = 0
        · rw [if_pos c3954] at H
          (try rw [(decide_eq_true c3954)])
          (try simp only [Bool.not_true, Bool.not_false])
          refine on_guard (guard_on 3 false 39 rfl rfl rfl) ?_
          refine st (.pointer none) rfl rfl (xr_move (.pointer none) rfl rfl) ?_
          simp only [ls0, ls1]
          refine on_guard (guard_on 3 false 39 rfl rfl rfl) ?_
          obtain ⟨t3955, A3956, H⟩ := Option.bind_eq_some_iff.mp H
          (try dsimp only at H)
          refine st_call #[.pointer none, .int .u64 7] rfl rfl Try.func17 (by kernel_rfl) rfl rfl (by simp only [List.map_toArray, List.map_cons, List.map_nil]; first | done | rfl) ?_
          refine (row_Table_Names.calls k3416 (.pointer none) (none : Option S91) 7 t3955  (fun z_ => pal [(0, 0)] (C3952_ z_)) w3951 (fun _ => pal_lt rfl _) (ptr_nil _ _ _ _ _) A3956).mono ?_
          rintro _ w3958 ⟨C3959, A3961, cp3962, rfl, hs3960, HO3963, HC3964⟩
          refine ⟨_, rfl, ?_⟩
          replace HO3963 := Own.res (U := [(0, 0), (5, 11)]) (j := 11) HO3963 hs3960 (by rfl) (by decide) rfl rfl
          replace hs3960 := Step.lift (U := [(0, 0), (5, 11)]) hs3960 [] rfl rfl
          generalize up C3952_ C3959 w3951.heap.size [(0, 0), (5, 11)] = C3959_ at HO3963 hs3960
          replace HJ3410 := HJ3410.thru hs3960 rfl
          replace HJ3411 := HJ3411.thru hs3960 rfl
          replace HS3409 := HS3409.trans hs3960 hc rfl
          (try simp only [Act.put, List.setIfInBounds_toArray, ls0, ls1])
          refine on_guard (guard_on 3 false 39 rfl rfl rfl) ?_
          refine st (.int .i64 (t3955.length : Int)) rfl rfl (xr_builtin #[.slice A3961 t3955.length cp3962] (.int .i64 (t3955.length : Int)) rfl (by simp only [List.map_toArray, List.map_cons, List.map_nil]; first | done | rfl) (by first | rfl | (go_simp; done) | (go_simp; rfl) | (go_simp; exact i64_w _) | (go_simp; exact i32_w _))) ?_
          simp only [ls0, ls1]
          refine on_guard (guard_on 3 false 39 rfl rfl rfl) ?_
          refine st (.bool (!decide ((t3955.length : Int) = 0))) rfl rfl (xr_bin (.int .i64 (t3955.length : Int)) (.int .i64 0) (.bool (!decide ((t3955.length : Int) = 0))) rfl rfl rfl (B.neq_i64 (t3955.length : Int) 0)) ?_
          simp only [ls0, ls1]
          refine st (.bool (!decide ((t3955.length : Int) = 0))) rfl rfl (xr_pick false (.bool (!decide ((t3955.length : Int) = 0))) rfl rfl rfl) ?_
          simp only [ls0, ls1]
          refine st (.bool (!decide ((t3955.length : Int) = 0))) rfl rfl (xr_move (.bool (!decide ((t3955.length : Int) = 0))) rfl rfl) ?_
          simp only [ls0, ls1]
          by_cases c3965 : (t3955.length : Int) = 0
          · rw [if_pos c3965] at H
            (try rw [(decide_eq_true c3965)])
            (try simp only [Bool.not_true, Bool.not_false])
            refine on_guard (guard_on 9 false 45 rfl rfl rfl) ?_
            refine st (.int .i64 t3429) rfl rfl (xr_move (.int .i64 t3429) rfl rfl) ?_
            simp only [ls0, ls1]
            refine on_guard (guard_on 9 false 45 rfl rfl rfl) ?_
            refine st (.bool (decide (t3429 = 0))) rfl rfl (xr_bin (.int .i64 t3429) (.int .i64 0) (.bool (decide (t3429 = 0))) rfl rfl rfl (B.eql_i64 t3429 0)) ?_
            simp only [ls0, ls1]
            refine on_guard (guard_on 9 false 45 rfl rfl rfl) ?_
            refine st (.slice A1 l1.length c1) rfl rfl (xr_move (.slice A1 l1.length c1) rfl rfl) ?_
            simp only [ls0, ls1]
            refine on_guard (guard_on 9 false 45 rfl rfl rfl) ?_
            refine st (.int .i64 (l1.length : Int)) rfl rfl (xr_builtin #[.slice A1 l1.length c1] (.int .i64 (l1.length : Int)) rfl (by simp only [List.map_toArray, List.map_cons, List.map_nil]; first | done | rfl) (by first | rfl | (go_simp; done) | (go_simp; rfl) | (go_simp; exact i64_w _) | (go_simp; exact i32_w _))) ?_
            simp only [ls0, ls1]
            refine on_guard (guard_on 9 false 45 rfl rfl rfl) ?_
            refine st (.bool (decide ((l1.length : Int) = 0))) rfl rfl (xr_bin (.int .i64 (l1.length : Int)) (.int .i64 0) (.bool (decide ((l1.length : Int) = 0))) rfl rfl rfl (B.eql_i64 (l1.length : Int) 0)) ?_
            simp only [ls0, ls1]
            refine on_guard (guard_on 9 false 45 rfl rfl rfl) ?_
            refine st (.bool (!decide ((decide (t3429 = 0)) = (decide ((l1.length : Int) = 0))))) rfl rfl (xr_bin (.bool (decide (t3429 = 0))) (.bool (decide ((l1.length : Int) = 0))) (.bool (!decide ((decide (t3429 = 0)) = (decide ((l1.length : Int) = 0))))) rfl rfl rfl (B.neq_bool Try.underlying4 (decide (t3429 = 0)) (decide ((l1.length : Int) = 0)))) ?_
            simp only [ls0, ls1]
            refine st (.bool (!decide ((decide (t3429 = 0)) = (decide ((l1.length : Int) = 0))))) rfl rfl (xr_pick false (.bool (!decide ((decide (t3429 = 0)) = (decide ((l1.length : Int) = 0))))) rfl rfl rfl) ?_
            simp only [ls0, ls1]
            refine wl_end ?_
            (try simp only [Act.put, List.setIfInBounds_toArray, ls0, ls1])
            exact hj3505 _ _ _ (!decide ((decide (t3429 = 0)) = (decide ((l1.length : Int) = 0)))) (fun q_ => List.getD [undef, undef, (g3413 2), (g3413 3), (g3413 4), .pointer none, .int .u64 t3427, .int .i64 t3428, .int .i64 t3429, (g3413 9), (g3413 10), (g3413 11), (g3413 12), (g3413 13), (g3413 14), (g3413 15), (g3413 16), (g3413 17), (g3413 18), (g3413 19), (g3413 20), (g3413 21), (g3413 22), (g3413 23), (g3413 24), (g3413 25), (g3413 26), .bool false, (g3413 28), .tuple #[.int .u64 t3427, .int .i64 t3428, .int .i64 t3429], .pointer none, .slice A1 l1.length c1, .tuple #[.int .u64 t3427, .int .i64 t3428, .int .i64 t3429], .int .u64 t3427, .int .i64 t3428, .int .i64 t3429, .pointer none, .int .i64 t3948, .bool false, .bool false, .pointer none, .slice A3961 t3955.length cp3962, .int .i64 (t3955.length : Int), .bool false, .bool false, .bool false, .int .i64 t3429, .bool (decide (t3429 = 0)), .slice A1 l1.length c1, .int .i64 (l1.length : Int), .bool (decide ((l1.length : Int) = 0)), .bool (!decide ((decide (t3429 = 0)) = (decide ((l1.length : Int) = 0)))), undef, (g3413 53), (g3413 54), (g3413 55), (g3413 56), (g3413 57), (g3413 58), (g3413 59), (g3413 60), (g3413 61), (g3413 62), (g3413 63), (g3413 64), (g3413 65), (g3413 66), (g3413 67), (g3413 68), (g3413 69), (g3413 70), (g3413 71), (g3413 72), (g3413 73), (g3413 74), (g3413 75), (g3413 76), (g3413 77), (g3413 78), (g3413 79), (g3413 80), (g3413 81), (g3413 82), (g3413 83), (g3413 84), (g3413 85), (g3413 86), (g3413 87), (g3413 88), (g3413 89), (g3413 90), (g3413 91), (g3413 92), (g3413 93), (g3413 94), (g3413 95), (g3413 96), (g3413 97), (g3413 98), (g3413 99), (g3413 100), (g3413 101), (g3413 102), (g3413 103), (g3413 104), (g3413 105), (g3413 106), (g3413 107), (g3413 108), (g3413 109), (g3413 110), (g3413 111), (g3413 112), (g3413 113), (g3413 114), (g3413 115), (g3413 116), (g3413 117), (g3413 118), (g3413 119), (g3413 120), (g3413 121), (g3413 122), (g3413 123), (g3413 124), (g3413 125), (g3413 126), (g3413 127)] q_ undef)  HS3409 (by omega) HJ3410 HJ3411 H
          · rw [if_neg c3965] at H
            (try rw [(decide_eq_false c3965)])
            (try simp only [Bool.not_true, Bool.not_false])
            refine sk_guard (guard_off 9 false 45 rfl rfl true (by decide) rfl) rfl ?_
            simp only [ls0, ls1]
            refine sk_guard (guard_off 9 false 45 rfl rfl true (by decide) rfl) rfl ?_
            simp only [ls0, ls1]
            refine sk_guard (guard_off 9 false 45 rfl rfl true (by decide) rfl) rfl ?_
            simp only [ls0, ls1]
            refine sk_guard (guard_off 9 false 45 rfl rfl true (by decide) rfl) rfl ?_
            simp only [ls0, ls1]
            refine sk_guard (guard_off 9 false 45 rfl rfl true (by decide) rfl) rfl ?_
            simp only [ls0, ls1]
            refine sk_guard (guard_off 9 false 45 rfl rfl true (by decide) rfl) rfl ?_
            simp only [ls0, ls1]
            refine st (.bool true) rfl rfl (xr_pick true (.bool true) rfl rfl rfl) ?_
            simp only [ls0, ls1]
            refine wl_end ?_
            (try simp only [Act.put, List.setIfInBounds_toArray, ls0, ls1])
            exact hj3505 _ _ _ (true) (fun q_ => List.getD [undef, undef, (g3413 2), (g3413 3), (g3413 4), .pointer none, .int .u64 t3427, .int .i64 t3428, .int .i64 t3429, (g3413 9), (g3413 10), (g3413 11), (g3413 12), (g3413 13), (g3413 14), (g3413 15), (g3413 16), (g3413 17), (g3413 18), (g3413 19), (g3413 20), (g3413 21), (g3413 22), (g3413 23), (g3413 24), (g3413 25), (g3413 26), .bool false, (g3413 28), .tuple #[.int .u64 t3427, .int .i64 t3428, .int .i64 t3429], .pointer none, .slice A1 l1.length c1, .tuple #[.int .u64 t3427, .int .i64 t3428, .int .i64 t3429], .int .u64 t3427, .int .i64 t3428, .int .i64 t3429, .pointer none, .int .i64 t3948, .bool false, .bool false, .pointer none, .slice A3961 t3955.length cp3962, .int .i64 (t3955.length : Int), .bool true, .bool true, .bool true, undef, undef, undef, undef, undef, undef, undef, (g3413 53), (g3413 54), (g3413 55), (g3413 56), (g3413 57), (g3413 58), (g3413 59), (g3413 60), (g3413 61), (g3413 62), (g3413 63), (g3413 64), (g3413 65), (g3413 66), (g3413 67), (g3413 68), (g3413 69), (g3413 70), (g3413 71), (g3413 72), (g3413 73), (g3413 74), (g3413 75), (g3413 76), (g3413 77), (g3413 78), (g3413 79), (g3413 80), (g3413 81), (g3413 82), (g3413 83), (g3413 84), (g3413 85), (g3413 86), (g3413 87), (g3413 88), (g3413 89), (g3413 90), (g3413 91), (g3413 92), (g3413 93), (g3413 94), (g3413 95), (g3413 96), (g3413 97), (g3413 98), (g3413 99), (g3413 100), (g3413 101), (g3413 102), (g3413 103), (g3413 104), (g3413 105), (g3413 106), (g3413 107), (g3413 108), (g3413 109), (g3413 110), (g3413 111), (g3413 112), (g3413 113), (g3413 114), (g3413 115), (g3413 116), (g3413 117), (g3413 118), (g3413 119), (g3413 120), (g3413 121), (g3413 122), (g3413 123), (g3413 124), (g3413 125), (g3413 126), (g3413 127)] q_ undef)  HS3409 (by omega) HJ3410 HJ3411 H
        · rw [if_neg c3954] at H
          (try rw [(decide_eq_false c3954)])
          (try simp only [Bool.not_true, Bool.not_false])
          refine sk_guard (guard_off 3 false 39 rfl rfl true (by decide) rfl) rfl ?_
          simp only [ls0, ls1]
          refine sk_guard (guard_off 3 false 39 rfl rfl true (by decide) rfl) rfl ?_
          simp only [ls0, ls1]
          refine sk_guard (guard_off 3 false 39 rfl rfl true (by decide) rfl) rfl ?_
          simp only [ls0, ls1]
          refine sk_guard (guard_off 3 false 39 rfl rfl true (by decide) rfl) rfl ?_
          simp only [ls0, ls1]
          refine st (.bool true) rfl rfl (xr_pick true (.bool true) rfl rfl rfl) ?_
          simp only [ls0, ls1]
          refine st (.bool true) rfl rfl (xr_move (.bool true) rfl rfl) ?_
          simp only [ls0, ls1]
          refine sk_guard (guard_off 9 false 45 rfl rfl true (by decide) rfl) rfl ?_
          simp only [ls0, ls1]
          refine sk_guard (guard_off 9 false 45 rfl rfl true (by decide) rfl) rfl ?_
          simp only [ls0, ls1]
          refine sk_guard (guard_off 9 false 45 rfl rfl true (by decide) rfl) rfl ?_
          simp only [ls0, ls1]
          refine sk_guard (guard_off 9 false 45 rfl rfl true (by decide) rfl) rfl ?_
          simp only [ls0, ls1]
          refine sk_guard (guard_off 9 false 45 rfl rfl true (by decide) rfl) rfl ?_
          simp only [ls0, ls1]
          refine sk_guard (guard_off 9 false 45 rfl rfl true (by decide) rfl) rfl ?_
          simp only [ls0, ls1]
          refine st (.bool true) rfl rfl (xr_pick true (.bool true) rfl rfl rfl) ?_
          simp only [ls0, ls1]
          refine wl_end ?_
          (try simp only [Act.put, List.setIfInBounds_toArray, ls0, ls1])
          exact hj3505 _ _ _ (true) (fun q_ => List.getD [undef, undef, (g3413 2), (g3413 3), (g3413 4), .pointer none, .int .u64 t3427, .int .i64 t3428, .int .i64 t3429, (g3413 9), (g3413 10), (g3413 11), (g3413 12), (g3413 13), (g3413 14), (g3413 15), (g3413 16), (g3413 17), (g3413 18), (g3413 19), (g3413 20), (g3413 21), (g3413 22), (g3413 23), (g3413 24), (g3413 25), (g3413 26), .bool false, (g3413 28), .tuple #[.int .u64 t3427, .int .i64 t3428, .int .i64 t3429], .pointer none, .slice A1 l1.length c1, .tuple #[.int .u64 t3427, .int .i64 t3428, .int .i64 t3429], .int .u64 t3427, .int .i64 t3428, .int .i64 t3429, .pointer none, .int .i64 t3948, .bool true, .bool true, undef, undef, undef, undef, .bool true, .bool true, undef, undef, undef, undef, undef, undef, undef, (g3413 53), (g3413 54), (g3413 55), (g3413 56), (g3413 57), (g3413 58), (g3413 59), (g3413 60), (g3413 61), (g3413 62), (g3413 63), (g3413 64), (g3413 65), (g3413 66), (g3413 67), (g3413 68), (g3413 69), (g3413 70), (g3413 71), (g3413 72), (g3413 73), (g3413 74), (g3413 75), (g3413 76), (g3413 77), (g3413 78), (g3413 79), (g3413 80), (g3413 81), (g3413 82), (g3413 83), (g3413 84), (g3413 85), (g3413 86), (g3413 87), (g3413 88), (g3413 89), (g3413 90), (g3413 91), (g3413 92), (g3413 93), (g3413 94), (g3413 95), (g3413 96), (g3413 97), (g3413 98), (g3413 99), (g3413 100), (g3413 101), (g3413 102), (g3413 103), (g3413 104), (g3413 105), (g3413 106), (g3413 107), (g3413 108), (g3413 109), (g3413 110), (g3413 111), (g3413 112), (g3413 113), (g3413 114), (g3413 115), (g3413 116), (g3413 117), (g3413 118), (g3413 119), (g3413 120), (g3413 121), (g3413 122), (g3413 123), (g3413 124), (g3413 125), (g3413 126), (g3413 127)] q_ undef)  HS3409 (by omega) HJ3410 HJ3411 H
  refine wl_region ?_
  refine st (.slice A0 l0.length c0) rfl rfl (xr_move (.slice A0 l0.length c0) rfl rfl) ?_
  simp only [ls0, ls1]
  obtain ⟨t3966, A3967, H⟩ := Option.bind_eq_some_iff.mp H
  (try dsimp only at H)
  refine st_call #[.slice A0 l0.length c0, .int .i64 80] rfl rfl Try.func15 (by kernel_rfl) rfl rfl (by simp only [List.map_toArray, List.map_cons, List.map_nil]; first | done | rfl) ?_
  refine (blazonref16_Great.calls k A0 c0 l0 80 t3966  (fun z_ => pal [(0, 0)] (c z_)) w (fun _ => pal_lt rfl _) (Ft.arg HP0 rfl) HCP0 A3967).mono ?_
  rintro _ w3969 ⟨C3970, rfl, hs3971⟩
  refine ⟨_, rfl, ?_⟩
  replace hs3971 := Step.lift (U := [(0, 0)]) hs3971 [] rfl rfl
  generalize up c C3970 w.heap.size [(0, 0)] = C3970_ at hs3971
  replace HP0 := HP0.thru hs3971 rfl
  replace HP1 := HP1.thru hs3971 rfl
  replace HS := HS.trans hs3971 hc rfl
  (try simp only [Act.put, List.setIfInBounds_toArray, ls0, ls1])
  refine st (.bool t3966) rfl rfl (xr_move (.bool t3966) rfl rfl) ?_
  simp only [ls0, ls1]
  by_cases c3972 : t3966 = true
  · rw [if_pos c3972] at H
    (try rw [c3972])
    (try simp only [Bool.not_true, Bool.not_false])
    refine sk_guard (guard_off 2 false 24 rfl rfl true (by decide) rfl) rfl ?_
    simp only [ls0, ls1]
    refine sk_guard (guard_off 2 false 24 rfl rfl true (by decide) rfl) rfl ?_
    simp only [ls0, ls1]
    refine st (.bool true) rfl rfl (xr_pick true (.bool true) rfl rfl rfl) ?_
    simp only [ls0, ls1]
    refine wl_end ?_
    (try simp only [Act.put, List.setIfInBounds_toArray, ls0, ls1])
    exact hj3406 _ _ _ (true) (fun q_ => List.getD [undef, undef, undef, undef, .bool false, undef, undef, undef, undef, undef, undef, undef, undef, undef, undef, undef, undef, undef, undef, undef, undef, undef, .slice A0 l0.length c0, .bool true, .bool true, undef, undef, undef, undef, undef, undef, undef, undef, undef, undef, undef, undef, undef, undef, undef, undef, undef, undef, undef, undef, undef, undef, undef, undef, undef, undef, undef, undef, undef, undef, undef, undef, undef, undef, undef, undef, undef, undef, undef, undef, undef, undef, undef, undef, undef, undef, undef, undef, undef, undef, undef, undef, undef, undef, undef, undef, undef, undef, undef, undef, undef, undef, undef, undef, undef, undef, undef, undef, undef, undef, undef, undef, undef, undef, undef, undef, undef, undef, undef, undef, undef, undef, undef, undef, undef, undef, undef, undef, undef, undef, undef, undef, undef, undef, undef, undef, undef, undef, undef, undef, undef, undef, undef] q_ undef)  HS (by omega) HP0 HP1 H
  · rw [if_neg c3972] at H
    (try rw [(Bool.eq_false_iff.mpr c3972)])
    (try simp only [Bool.not_true, Bool.not_false])
    refine on_guard (guard_on 2 false 24 rfl rfl rfl) ?_
    refine st (.slice A1 l1.length c1) rfl rfl (xr_move (.slice A1 l1.length c1) rfl rfl) ?_
    simp only [ls0, ls1]
    refine on_guard (guard_on 2 false 24 rfl rfl rfl) ?_
    obtain ⟨t3973, A3974, H⟩ := Option.bind_eq_some_iff.mp H
    (try dsimp only at H)
    refine st_call #[.slice A1 l1.length c1, .int .i64 80] rfl rfl Try.func15 (by kernel_rfl) rfl rfl (by simp only [List.map_toArray, List.map_cons, List.map_nil]; first | done | rfl) ?_
    refine (blazonref16_Great.calls k A1 c1 l1 80 t3973  (fun z_ => pal [(0, 0)] (C3970_ z_)) w3969 (fun _ => pal_lt rfl _) (Ft.arg HP1 rfl) HCP1 A3974).mono ?_
    rintro _ w3976 ⟨C3977, rfl, hs3978⟩
    refine ⟨_, rfl, ?_⟩
    replace hs3978 := Step.lift (U := [(0, 0)]) hs3978 [] rfl rfl
    generalize up C3970_ C3977 w3969.heap.size [(0, 0)] = C3977_ at hs3978
    replace HP0 := HP0.thru hs3978 rfl
    replace HP1 := HP1.thru hs3978 rfl
    replace HS := HS.trans hs3978 hc rfl
    (try simp only [Act.put, List.setIfInBounds_toArray, ls0, ls1])
    refine st (.bool t3973) rfl rfl (xr_pick false (.bool t3973) rfl rfl rfl) ?_
    simp only [ls0, ls1]
    refine wl_end ?_
    (try simp only [Act.put, List.setIfInBounds_toArray, ls0, ls1])
    exact hj3406 _ _ _ (t3973) (fun q_ => List.getD [undef, undef, undef, undef, .bool false, undef, undef, undef, undef, undef, undef, undef, undef, undef, undef, undef, undef, undef, undef, undef, undef, undef, .slice A0 l0.length c0, .bool false, .bool false, .slice A1 l1.length c1, .bool t3973, undef, undef, undef, undef, undef, undef, undef, undef, undef, undef, undef, undef, undef, undef, undef, undef, undef, undef, undef, undef, undef, undef, undef, undef, undef, undef, undef, undef, undef, undef, undef, undef, undef, undef, undef, undef, undef, undef, undef, undef, undef, undef, undef, undef, undef, undef, undef, undef, undef, undef, undef, undef, undef, undef, undef, undef, undef, undef, undef, undef, undef, undef, undef, undef, undef, undef, undef, undef, undef, undef, undef, undef, undef, undef, undef, undef, undef, undef, undef, undef, undef, undef, undef, undef, undef, undef, undef, undef, undef, undef, undef, undef, undef, undef, undef, undef, undef, undef, undef, undef, undef] q_ undef)  HS (by omega) HP0 HP1 H
/-- THE ONE PURE STATEMENT of blazonlaw16_RowBack. -/
def blazonlaw16_RowBack.Pure : Prop := ∀ (l0 : List (S25)) (l1 : List (S25)), l0.length ≤ maxLen → l0.length * 24 ≤ 140737488351232 → (∀ x_ ∈ l0, Ok25 x_) → l1.length ≤ maxLen → l1.length * 24 ≤ 140737488351232 → (∀ x_ ∈ l1, Ok25 x_) → ∃ k, blazonlaw16_RowBack.f k l0 l1 = some true

/-! ### blazonref13_Bit: function 50 -/
def blazonref13_Bit.l0 : Nat → Int → Int → Int → Option (Int)
  | 0, _, _, _ => none
  | k + 1, a0, x4026, x4027 => if x4027 < a0 then (blazonref13_Bit.l0 k a0 (IntKind.u64.wrap (2 * x4026)) (wrap64 (x4027 + 1))) else (some x4026)
def blazonref13_Bit.f (k : Nat) (a0 : Int) : Option (Int) := blazonref13_Bit.l0 k a0 1 0

set_option maxHeartbeats 2000000 in
set_option maxRecDepth 100000 in
theorem blazonref13_Bit.calls (k : Nat) (a0 : Int) (r : Int) (c : Nat → Nat) (w : World) (hc : ∀ k, c k < 10)  (H : blazonref13_Bit.f k a0 = some r) :
    Calls Try.prog 50 #[.int .i64 a0] w fun e w' => ∃ (c' : Nat → Nat) , e = .returned (.int .u64 r) ∧ Step c w c' w' [] := by
  unfold blazonref13_Bit.f at H
  have HS := Step.refl c w []
  go_enter Try.func50, Try.ntmps50
  refine wp_seq_k fun K4011 hK4011 => ?_
  refine wl_region ?_
  refine st (.int .u64 0) rfl rfl (xr_assign (.int .u64 0) rfl rfl) ?_
  simp only [ls0, ls1]
  refine wl_end ?_
  (try simp only [Act.put, List.setIfInBounds_toArray, ls0, ls1])
  refine hK4011 _ _ ?_
  (try clear hK4011 K4011)
  refine wp_seq_k fun K4012 hK4012 => ?_
  refine wl_region ?_
  refine st (.int .u64 1) rfl rfl (xr_assign (.int .u64 1) rfl rfl) ?_
  simp only [ls0, ls1]
  refine wl_end ?_
  (try simp only [Act.put, List.setIfInBounds_toArray, ls0, ls1])
  refine hK4012 _ _ ?_
  (try clear hK4012 K4012)
  refine wp_seq_k fun K4013 hK4013 => ?_
  refine wp_seq_k fun K4014 hK4014 => ?_
  refine wl_region ?_
  refine st (.int .i64 0) rfl rfl (xr_assign (.int .i64 0) rfl rfl) ?_
  simp only [ls0, ls1]
  refine wl_end ?_
  (try simp only [Act.put, List.setIfInBounds_toArray, ls0, ls1])
  refine hK4014 _ _ ?_
  (try clear hK4014 K4014)
  refine wp_block ?_
  (try simp only [Act.put, List.setIfInBounds_toArray, ls0, ls1])
  refine wp_looped (looped_ind (fun kq4031 a_ w4030 => ∃ (C4029 : Nat → Nat) (x4026 : Int) (x4027 : Int) (g4028 : Nat → Value), a_ = ⟨#[.int .i64 a0, (g4028 1), (g4028 2), .int .u64 x4026, .int .i64 x4027, (g4028 5), (g4028 6), (g4028 7), (g4028 8), (g4028 9), (g4028 10), (g4028 11), (g4028 12)], []⟩ ∧ Step c w C4029 w4030 [] ∧ kq4031 ≤ k ∧ blazonref13_Bit.l0 kq4031 a0 x4026 x4027 = some r) ?step k _ _ ?init)
  case init =>
    exact ⟨_, 1, 0, (fun q_ => List.getD [undef, undef, .int .u64 0, undef, undef, undef, undef, undef, undef, undef, undef, undef, undef] q_ undef), rfl, HS, Nat.le_refl _, H⟩
  case step =>
    intro kq4031 ih4034 a4035 w4030 hr4036
    obtain ⟨C4029, x4026, x4027, g4028, rfl, HS4032, hk4033, H⟩ := hr4036
    refine looped_round ?_
    cases kq4031 with
    | zero => exact absurd H (by simp [blazonref13_Bit.l0])
    | succ k4037 =>
      simp only [blazonref13_Bit.l0] at H
      refine wp_seq_k fun K4038 hK4038 => ?_
      refine wp_seq_k fun K4039 hK4039 => ?_
      refine wl_region ?_
      refine st (.int .i64 x4027) rfl rfl (xr_move (.int .i64 x4027) rfl rfl) ?_
      simp only [ls0, ls1]
      refine st (.int .i64 a0) rfl rfl (xr_move (.int .i64 a0) rfl rfl) ?_
      simp only [ls0, ls1]
      refine st (.bool (decide (x4027 < a0))) rfl rfl (xr_bin (.int .i64 x4027) (.int .i64 a0) (.bool (decide (x4027 < a0))) rfl rfl rfl (B.lss_i64 x4027 a0)) ?_
      simp only [ls0, ls1]
      refine wl_end ?_
      (try simp only [Act.put, List.setIfInBounds_toArray, ls0, ls1])
      refine hK4039 _ _ ?_
      (try clear hK4039 K4039)
      by_cases c4040 : x4027 < a0
      · rw [if_pos c4040] at H
        (try rw [(decide_eq_true c4040)])
        (try simp only [Bool.not_true, Bool.not_false])
        refine wp_cond_true rfl ?_
        refine wp_skip ?_
        (try simp only [Act.put, List.setIfInBounds_toArray, ls0, ls1])
        refine hK4038 _ _ ?_
        (try clear hK4038 K4038)
        refine wp_seq_k fun K4041 hK4041 => ?_
        refine wp_block ?_
        refine wl_region ?_
        refine st (.int .u64 x4026) rfl rfl (xr_move (.int .u64 x4026) rfl rfl) ?_
        simp only [ls0, ls1]
        refine st (.int .u64 (IntKind.u64.wrap (2 * x4026))) rfl rfl (xr_bin (.int .u64 2) (.int .u64 x4026) (.int .u64 (IntKind.u64.wrap (2 * x4026))) rfl rfl rfl (B.mul_u64 2 x4026)) ?_
        simp only [ls0, ls1]
        refine st (.int .u64 (IntKind.u64.wrap (2 * x4026))) rfl rfl (xr_assign (.int .u64 (IntKind.u64.wrap (2 * x4026))) rfl rfl) ?_
        simp only [ls0, ls1]
        refine wl_end ?_
        (try simp only [Act.put, List.setIfInBounds_toArray, ls0, ls1])
        refine hK4041 _ _ ?_
        (try clear hK4041 K4041)
        refine wl_region ?_
        refine st (.int .i64 x4027) rfl rfl (xr_move (.int .i64 x4027) rfl rfl) ?_
        simp only [ls0, ls1]
        refine st (.int .i64 (wrap64 (x4027 + 1))) rfl rfl (xr_bin (.int .i64 x4027) (.int .i64 1) (.int .i64 (wrap64 (x4027 + 1))) rfl rfl rfl (B.add_i64 x4027 1)) ?_
        simp only [ls0, ls1]
        refine st (.int .i64 (wrap64 (x4027 + 1))) rfl rfl (xr_assign (.int .i64 (wrap64 (x4027 + 1))) rfl rfl) ?_
        simp only [ls0, ls1]
        refine wl_end ?_
        (try simp only [Act.put, List.setIfInBounds_toArray, ls0, ls1])
        exact ih4034 k4037 (by omega) _ _ ⟨_, IntKind.u64.wrap (2 * x4026), wrap64 (x4027 + 1), (fun q_ => List.getD [undef, (g4028 1), (g4028 2), undef, undef, .int .i64 x4027, .int .i64 a0, .bool true, .int .i64 x4027, .int .i64 (wrap64 (x4027 + 1)), .int .u64 x4026, .int .u64 (IntKind.u64.wrap (2 * x4026)), (g4028 12)] q_ undef), rfl, HS4032, (by omega), H⟩
      · rw [if_neg c4040] at H
        (try rw [(decide_eq_false c4040)])
        (try simp only [Bool.not_true, Bool.not_false])
        refine wp_cond_false rfl ?_
        refine wp_exit ?_
        (try simp only [Act.put, List.setIfInBounds_toArray, ls0, ls1])
        refine hK4013 _ _ ?_
        (try clear hK4013 K4013)
        refine wp_seq_k fun K4042 hK4042 => ?_
        refine wl_region ?_
        refine st (.int .u64 x4026) rfl rfl (xr_move (.int .u64 x4026) rfl rfl) ?_
        simp only [ls0, ls1]
        refine st (.int .u64 x4026) rfl rfl (xr_assign (.int .u64 x4026) rfl rfl) ?_
        simp only [ls0, ls1]
        refine wl_end ?_
        (try simp only [Act.put, List.setIfInBounds_toArray, ls0, ls1])
        refine hK4042 _ _ ?_
        (try clear hK4042 K4042)
        refine wp_ret ?_
        (try simp only [Exit.inBlock, Exit.then, Exit.noGoto])
        (try simp only [Act.put, List.setIfInBounds_toArray, ls0, ls1])
        obtain rfl := Option.some.inj H
        refine bodyPost_ret (results_tmp rfl _ _ _) rfl ?_
        exact ⟨_, rfl, HS4032⟩

/-! ### blazonref15_Has: function 20 -/
def blazonref15_Has.f (k : Nat) (a0 : Int) (a1 : Int) : Option (Bool) := (blazonref13_Bit.f k a1).bind fun t4054 => (if t4054 = 0 then (none) else (some (decide ((Int.tmod (IntKind.u64.wrap (Int.tdiv a0 t4054)) 2) = 1))))

set_option maxHeartbeats 2000000 in
set_option maxRecDepth 100000 in
theorem blazonref15_Has.calls (k : Nat) (a0 : Int) (a1 : Int) (r : Bool) (c : Nat → Nat) (w : World) (hc : ∀ k, c k < 10)  (H : blazonref15_Has.f k a0 a1 = some r) :
    Calls Try.prog 20 #[.int .u64 a0, .int .i64 a1] w fun e w' => ∃ (c' : Nat → Nat) , e = .returned (.bool r) ∧ Step c w c' w' [] := by
  unfold blazonref15_Has.f at H
  have HS := Step.refl c w []
  go_enter Try.func20, Try.ntmps20
  refine wp_seq_k fun K4052 hK4052 => ?_
  refine wl_region ?_
  refine st (.bool false) rfl rfl (xr_assign (.bool false) rfl rfl) ?_
  simp only [ls0, ls1]
  refine wl_end ?_
  (try simp only [Act.put, List.setIfInBounds_toArray, ls0, ls1])
  refine hK4052 _ _ ?_
  (try clear hK4052 K4052)
  refine wp_seq_k fun K4053 hK4053 => ?_
  refine wl_region ?_
  refine st (.int .u64 a0) rfl rfl (xr_move (.int .u64 a0) rfl rfl) ?_
  simp only [ls0, ls1]
  refine st (.int .i64 a1) rfl rfl (xr_move (.int .i64 a1) rfl rfl) ?_
  simp only [ls0, ls1]
  obtain ⟨t4054, A4055, H⟩ := Option.bind_eq_some_iff.mp H
  (try dsimp only at H)
  refine st_call #[.int .i64 a1] rfl rfl Try.func50 (by kernel_rfl) rfl rfl (by simp only [List.map_toArray, List.map_cons, List.map_nil]; first | done | rfl) ?_
  refine (blazonref13_Bit.calls k a1 t4054  (fun z_ => pal [(0, 0)] (c z_)) w (fun _ => pal_lt rfl _) A4055).mono ?_
  rintro _ w4057 ⟨C4058, rfl, hs4059⟩
  refine ⟨_, rfl, ?_⟩
  replace hs4059 := Step.lift (U := [(0, 0)]) hs4059 [] rfl rfl
  generalize up c C4058 w.heap.size [(0, 0)] = C4058_ at hs4059
  replace HS := HS.trans hs4059 hc rfl
  (try simp only [Act.put, List.setIfInBounds_toArray, ls0, ls1])
  by_cases c4060 : t4054 = 0
  · rw [if_pos c4060] at H
    exact absurd H (by simp)
  · rw [if_neg c4060] at H
    refine st (.int .u64 (IntKind.u64.wrap (Int.tdiv a0 t4054))) rfl rfl (xr_bin (.int .u64 a0) (.int .u64 t4054) (.int .u64 (IntKind.u64.wrap (Int.tdiv a0 t4054))) rfl rfl rfl (B.quo_u64 a0 t4054 (by assumption))) ?_
    simp only [ls0, ls1]
    refine st (.int .u64 (Int.tmod (IntKind.u64.wrap (Int.tdiv a0 t4054)) 2)) rfl rfl (xr_bin (.int .u64 (IntKind.u64.wrap (Int.tdiv a0 t4054))) (.int .u64 2) (.int .u64 (Int.tmod (IntKind.u64.wrap (Int.tdiv a0 t4054)) 2)) rfl rfl rfl (B.rem_u64 (IntKind.u64.wrap (Int.tdiv a0 t4054)) 2 (by decide))) ?_
    simp only [ls0, ls1]
    refine st (.bool (decide ((Int.tmod (IntKind.u64.wrap (Int.tdiv a0 t4054)) 2) = 1))) rfl rfl (xr_bin (.int .u64 (Int.tmod (IntKind.u64.wrap (Int.tdiv a0 t4054)) 2)) (.int .u64 1) (.bool (decide ((Int.tmod (IntKind.u64.wrap (Int.tdiv a0 t4054)) 2) = 1))) rfl rfl rfl (B.eql_u64 (Int.tmod (IntKind.u64.wrap (Int.tdiv a0 t4054)) 2) 1)) ?_
    simp only [ls0, ls1]
    refine st (.bool (decide ((Int.tmod (IntKind.u64.wrap (Int.tdiv a0 t4054)) 2) = 1))) rfl rfl (xr_assign (.bool (decide ((Int.tmod (IntKind.u64.wrap (Int.tdiv a0 t4054)) 2) = 1))) rfl rfl) ?_
    simp only [ls0, ls1]
    refine wl_end ?_
    (try simp only [Act.put, List.setIfInBounds_toArray, ls0, ls1])
    refine hK4053 _ _ ?_
    (try clear hK4053 K4053)
    refine wp_ret ?_
    (try simp only [Exit.inBlock, Exit.then, Exit.noGoto])
    (try simp only [Act.put, List.setIfInBounds_toArray, ls0, ls1])
    obtain rfl := Option.some.inj H
    refine bodyPost_ret (results_tmp rfl _ _ _) rfl ?_
    exact ⟨_, rfl, HS⟩

/-! ### row_Within: function 21 -/
def row_Within.f (a0 : Int) (a1 : Int) : Option (Bool) := some (decide ((Go.bits .andNot .u64 a0 a1) = 0))
set_option maxHeartbeats 2000000 in
set_option maxRecDepth 100000 in
theorem row_Within.calls (a0 : Int) (a1 : Int) (r : Bool) (c : Nat → Nat) (w : World) (hc : ∀ k, c k < 10)  (H : row_Within.f a0 a1 = some r) :
    Calls Try.prog 21 #[.int .u64 a0, .int .u64 a1] w fun e w' => ∃ (c' : Nat → Nat) , e = .returned (.bool r) ∧ Step c w c' w' [] := by
  unfold row_Within.f at H
  have HS := Step.refl c w []
  go_enter Try.func21, Try.ntmps21
  refine wp_seq_k fun K4063 hK4063 => ?_
  refine wl_region ?_
  refine st (.bool false) rfl rfl (xr_assign (.bool false) rfl rfl) ?_
  simp only [ls0, ls1]
  refine wl_end ?_
  (try simp only [Act.put, List.setIfInBounds_toArray, ls0, ls1])
  refine hK4063 _ _ ?_
  (try clear hK4063 K4063)
  refine wp_seq_k fun K4064 hK4064 => ?_
  refine wl_region ?_
  refine st (.int .u64 a0) rfl rfl (xr_move (.int .u64 a0) rfl rfl) ?_
  simp only [ls0, ls1]
  refine st (.int .u64 a1) rfl rfl (xr_move (.int .u64 a1) rfl rfl) ?_
  simp only [ls0, ls1]
  refine st (.int .u64 (Go.bits .andNot .u64 a0 a1)) rfl rfl (xr_bin (.int .u64 a0) (.int .u64 a1) (.int .u64 (Go.bits .andNot .u64 a0 a1)) rfl rfl rfl (B.andNot_u64 a0 a1)) ?_
  simp only [ls0, ls1]
  refine st (.bool (decide ((Go.bits .andNot .u64 a0 a1) = 0))) rfl rfl (xr_bin (.int .u64 (Go.bits .andNot .u64 a0 a1)) (.int .u64 0) (.bool (decide ((Go.bits .andNot .u64 a0 a1) = 0))) rfl rfl rfl (B.eql_u64 (Go.bits .andNot .u64 a0 a1) 0)) ?_
  simp only [ls0, ls1]
  refine st (.bool (decide ((Go.bits .andNot .u64 a0 a1) = 0))) rfl rfl (xr_assign (.bool (decide ((Go.bits .andNot .u64 a0 a1) = 0))) rfl rfl) ?_
  simp only [ls0, ls1]
  refine wl_end ?_
  (try simp only [Act.put, List.setIfInBounds_toArray, ls0, ls1])
  refine hK4064 _ _ ?_
  (try clear hK4064 K4064)
  refine wp_ret ?_
  (try simp only [Exit.inBlock, Exit.then, Exit.noGoto])
  (try simp only [Act.put, List.setIfInBounds_toArray, ls0, ls1])
  obtain rfl := Option.some.inj H
  refine bodyPost_ret (results_tmp rfl _ _ _) rfl ?_
  exact ⟨_, rfl, HS⟩

end Go.Proofs.Ytnhcpdepjpfcfaa.PRow
