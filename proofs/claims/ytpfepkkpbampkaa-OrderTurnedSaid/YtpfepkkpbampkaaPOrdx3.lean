-- By cprint.py, a program of this work. Lean checks it.
import Derived.Test.YtpfepkkpbampkaaPOrdx0
namespace Go.Proofs.Ytpfepkkpbampkaa.POrd
open Go.RowKit Go.Proofs.YtpfepkkpbampkaaW.PrintWords Go.Proofs.YtpfepkkpbampkaaW.PrintLast Go.Proofs.YtpfepkkpbampkaaW.PrintMore
set_option linter.unusedVariables false
set_option linter.unusedSimpArgs false

/-! ### order_Order_close: function 19 -/
mutual
def order_Order_close.l0 : Nat → (List Int) → (List ByteArray) → Int → Int → (List Int) → Option ((List Int) × (List Int))
  | 0, _, _, _, _, _ => none
  | k + 1, a0_3, l0_0, x3853, x3921, x3924 => if x3921 < (l0_0.length : Int) then (if 0 ≤ x3921 then (if x3921 < 64 then (if 0 ≤ (IntKind.u64.wrap (x3853)) then (if (Go.bits .and .u64 (shr .u64 (List.getD x3924 ((x3921 : Int).toNat) 0) (IntKind.u64.wrap (x3853))) 1) = 1 then (if 0 ≤ x3853 then (if x3853 < 64 then ((some (List.set x3924 ((x3921 : Int).toNat) (Go.bits .or .u64 (List.getD x3924 ((x3921 : Int).toNat) 0) (List.getD x3924 ((x3853 : Int).toNat) 0)) : List Int)).bind fun y3950 => (order_Order_close.l0 k a0_3 l0_0 x3853 (wrap64 (x3921 + 1)) y3950)) else (none)) else (none)) else (order_Order_close.l0 k a0_3 l0_0 x3853 (wrap64 (x3921 + 1)) x3924)) else (none)) else (none)) else (none)) else (order_Order_close.l3 k a0_3 l0_0 (wrap64 (x3853 + 1)) x3924)
def order_Order_close.l1 : Nat → (List ByteArray) → (List Int) → Int → Int → (List Int) → Option ((List Int) × (List Int))
  | 0, _, _, _, _, _ => none
  | k + 1, l0_0, x3856, x4143, x4212, x4215 => if x4212 < (l0_0.length : Int) then (if 0 ≤ x4212 then (if x4212 < 64 then (if 0 ≤ (IntKind.u64.wrap (x4143)) then (if (Go.bits .and .u64 (shr .u64 (List.getD x3856 ((x4212 : Int).toNat) 0) (IntKind.u64.wrap (x4143))) 1) = 1 then (if 0 ≤ x4143 then (if x4143 < 64 then (if 0 ≤ (IntKind.u64.wrap (x4212)) then ((some (List.set x4215 ((x4143 : Int).toNat) (Go.bits .or .u64 (List.getD x4215 ((x4143 : Int).toNat) 0) (shl .u64 1 (IntKind.u64.wrap (x4212)))) : List Int)).bind fun y4242 => (order_Order_close.l1 k l0_0 x3856 x4143 (wrap64 (x4212 + 1)) y4242)) else (none)) else (none)) else (none)) else (order_Order_close.l1 k l0_0 x3856 x4143 (wrap64 (x4212 + 1)) x4215)) else (none)) else (none)) else (none)) else (order_Order_close.l2 k l0_0 x3856 (wrap64 (x4143 + 1)) x4215)
def order_Order_close.l2 : Nat → (List ByteArray) → (List Int) → Int → (List Int) → Option ((List Int) × (List Int))
  | 0, _, _, _, _ => none
  | k + 1, l0_0, x3856, x4143, x4146 => if x4143 < (l0_0.length : Int) then (order_Order_close.l1 k l0_0 x3856 x4143 0 x4146) else (some (x3856, x4146))
def order_Order_close.l3 : Nat → (List Int) → (List ByteArray) → Int → (List Int) → Option ((List Int) × (List Int))
  | 0, _, _, _, _ => none
  | k + 1, a0_3, l0_0, x3853, x3856 => if x3853 < (l0_0.length : Int) then (order_Order_close.l0 k a0_3 l0_0 x3853 0 x3856) else (order_Order_close.l2 k l0_0 x3856 0 a0_3)
end
def order_Order_close.f (k : Nat) (l0_0 : List ByteArray) (m0_1 : List (ByteArray × Int)) (a0_2 : List Int) (a0_3 : List Int) : Option ((List Int) × (List Int)) := order_Order_close.l3 k a0_3 l0_0 0 a0_2

set_option maxHeartbeats 2000000 in
set_option maxRecDepth 100000 in
theorem order_Order_close.calls (k : Nat) (g0 : Nat) (A0_0 : Option Addr) (c0_0 : Nat) (l0_0 : List ByteArray) (v0_1 : Value) (m0_1 : List (ByteArray × Int)) (a0_2 : List Int) (a0_3 : List Int) (r1 : List Int) (r2 : List Int) (c : Nat → Nat) (w : World) (hc : ∀ k, c k < 10) (HP0 : Bx c 1 w g0 47 ([.slice A0_0 l0_0.length c0_0, v0_1] ++ (List.map (Value.int .u64) a0_2 ++ (List.map (Value.int .u64) a0_3)))) (HP0_0 : Ft c [0] w (fun w_ => Kd.string.C w_ A0_0 l0_0.length l0_0)) (HCP0_0 : l0_0.length ≤ c0_0) (HP0_1 : Ft c [0] w (fun w_ => (Kd.mp Value.string (Value.int .i64)).K w_ m0_1 [v0_1])) (HL0_2 : a0_2.length = 64) (HL0_3 : a0_3.length = 64) (H : order_Order_close.f k l0_0 m0_1 a0_2 a0_3 = some (r1, r2)) :
    Calls Try.prog 19 #[.pointer (some ⟨g0, 0, none⟩)] w fun e w' => ∃ (c' : Nat → Nat) , e = .returned (.tuple #[]) ∧ Step c w c' w' [1] ∧ r1.length = 64 ∧ r2.length = 64 ∧ Bx c' 1 w' g0 47 ([.slice A0_0 l0_0.length c0_0, v0_1] ++ (List.map (Value.int .u64) r1 ++ (List.map (Value.int .u64) r2))) := by
  unfold order_Order_close.f at H
  have HS := Step.refl c w [1]
  go_enter Try.func19, Try.ntmps19
  refine wp_seq_k fun K3383 hK3383 => ?_
  refine wp_seq_k fun K3670 hK3670 => ?_
  refine wl_region ?_
  refine st (.pointer (some ⟨g0, 0, none⟩)) rfl rfl (xr_move (.pointer (some ⟨g0, 0, none⟩)) rfl rfl) ?_
  simp only [ls0, ls1]
  refine st (.pointer (some ⟨g0, 0, none⟩)) rfl rfl (xr_nilCheck ⟨g0, 0, none⟩ rfl rfl) ?_
  simp only [ls0, ls1]
  refine st (.pointer (some ⟨g0, 0, none⟩)) rfl rfl (xr_fieldAddr (.pointer (some ⟨g0, 0, none⟩)) (.pointer (some ⟨g0, 0, none⟩)) rfl rfl (bx_field2 Try.underlying47 rfl rfl (by kernel_rfl))) ?_
  simp only [ls0, ls1]
  refine st (.slice A0_0 l0_0.length c0_0) rfl rfl (xr_load (.pointer (some ⟨g0, 0, none⟩)) (.slice A0_0 l0_0.length c0_0) rfl rfl (load_cell Try.underlying44 rfl (bx_cell (l := ([.slice A0_0 l0_0.length c0_0, v0_1] ++ (List.map (Value.int .u64) a0_2 ++ (List.map (Value.int .u64) a0_3)))) (HP0).2 0 rfl))) ?_
  simp only [ls0, ls1]
  refine st (.int .i64 (l0_0.length : Int)) rfl rfl (xr_builtin #[.slice A0_0 l0_0.length c0_0] (.int .i64 (l0_0.length : Int)) rfl (by simp only [List.map_toArray, List.map_cons, List.map_nil]; first | done | rfl) (by first | rfl | (go_simp; done) | (go_simp; rfl) | (go_simp; exact i64_w _) | (go_simp; exact i32_w _))) ?_
  simp only [ls0, ls1]
  refine st (.int .i64 0) rfl rfl (xr_move (.int .i64 0) rfl rfl) ?_
  simp only [ls0, ls1]
  refine wl_end ?_
  (try simp only [Act.put, List.setIfInBounds_toArray, ls0, ls1])
  refine hK3670 _ _ ?_
  (try clear hK3670 K3670)
  refine wp_block ?_
  (try simp only [Act.put, List.setIfInBounds_toArray, ls0, ls1])
  refine wp_looped (looped_ind (fun kq3862 a_ w3861 => ∃ (C3860 : Nat → Nat) (x3853 : Int) (x3856 : List Int) (g3859 : Nat → Value), a_ = ⟨#[.pointer (some ⟨g0, 0, none⟩), (g3859 1), (g3859 2), (g3859 3), (g3859 4), (g3859 5), (g3859 6), (g3859 7), (g3859 8), (g3859 9), .int .i64 (l0_0.length : Int), .int .i64 x3853, (g3859 12), (g3859 13), (g3859 14), (g3859 15), (g3859 16), (g3859 17), (g3859 18), (g3859 19), (g3859 20), (g3859 21), (g3859 22), (g3859 23), (g3859 24), (g3859 25), (g3859 26), (g3859 27), (g3859 28), (g3859 29), (g3859 30), (g3859 31), (g3859 32), (g3859 33), (g3859 34), (g3859 35), (g3859 36), (g3859 37), (g3859 38), (g3859 39), (g3859 40), (g3859 41), (g3859 42), (g3859 43), (g3859 44), (g3859 45), (g3859 46), (g3859 47), (g3859 48), (g3859 49), (g3859 50), (g3859 51), (g3859 52), (g3859 53), (g3859 54), (g3859 55), (g3859 56), (g3859 57), (g3859 58), (g3859 59), (g3859 60), (g3859 61), (g3859 62), (g3859 63), (g3859 64), (g3859 65), (g3859 66), (g3859 67), (g3859 68), (g3859 69), (g3859 70), (g3859 71), (g3859 72), (g3859 73), (g3859 74), (g3859 75), (g3859 76), (g3859 77), (g3859 78), (g3859 79), (g3859 80), (g3859 81), (g3859 82), (g3859 83), (g3859 84), (g3859 85), (g3859 86), (g3859 87), (g3859 88), (g3859 89), (g3859 90), (g3859 91), (g3859 92)], []⟩ ∧ Step c w C3860 w3861 [1] ∧ kq3862 ≤ k ∧ (Ft C3860 [0] w3861 (fun w_ => Kd.string.C w_ A0_0 l0_0.length l0_0)) ∧ (Ft C3860 [0] w3861 (fun w_ => (Kd.mp Value.string (Value.int .i64)).K w_ m0_1 [v0_1])) ∧ (x3856.length = 64) ∧ (Bx C3860 1 w3861 g0 47 ([.slice A0_0 l0_0.length c0_0, v0_1] ++ (List.map (Value.int .u64) x3856 ++ (List.map (Value.int .u64) a0_3)))) ∧ order_Order_close.l3 kq3862 a0_3 l0_0 x3853 x3856 = some (r1, r2)) ?step k _ _ ?init)
  case init =>
    exact ⟨_, 0, a0_2, (fun q_ => List.getD [undef, undef, undef, undef, undef, undef, .pointer (some ⟨g0, 0, none⟩), .pointer (some ⟨g0, 0, none⟩), .pointer (some ⟨g0, 0, none⟩), .slice A0_0 l0_0.length c0_0, undef, undef, undef, undef, undef, undef, undef, undef, undef, undef, undef, undef, undef, undef, undef, undef, undef, undef, undef, undef, undef, undef, undef, undef, undef, undef, undef, undef, undef, undef, undef, undef, undef, undef, undef, undef, undef, undef, undef, undef, undef, undef, undef, undef, undef, undef, undef, undef, undef, undef, undef, undef, undef, undef, undef, undef, undef, undef, undef, undef, undef, undef, undef, undef, undef, undef, undef, undef, undef, undef, undef, undef, undef, undef, undef, undef, undef, undef, undef, undef, undef, undef, undef] q_ undef), rfl, HS, Nat.le_refl _, HP0_0, HP0_1, HL0_2, HP0, H⟩
  case step =>
    intro kq3862 ih3865 a3866 w3861 hr3867
    obtain ⟨C3860, x3853, x3856, g3859, rfl, HS3863, hk3864, HJ3854, HJ3855, HL3857, HJ3858, H⟩ := hr3867
    refine looped_round ?_
    cases kq3862 with
    | zero => exact absurd H (by simp [order_Order_close.l3])
    | succ k3868 =>
      simp only [order_Order_close.l3] at H
      refine wp_seq_k fun K3869 hK3869 => ?_
      refine wl_region ?_
      refine st (.bool (decide (x3853 < (l0_0.length : Int)))) rfl rfl (xr_bin (.int .i64 x3853) (.int .i64 (l0_0.length : Int)) (.bool (decide (x3853 < (l0_0.length : Int)))) rfl rfl rfl (B.lss_i64 x3853 (l0_0.length : Int))) ?_
      simp only [ls0, ls1]
      refine wl_end ?_
      (try simp only [Act.put, List.setIfInBounds_toArray, ls0, ls1])
      refine hK3869 _ _ ?_
      (try clear hK3869 K3869)
      refine wp_seq_k fun K3870 hK3870 => ?_
      by_cases c3871 : x3853 < (l0_0.length : Int)
      · rw [if_pos c3871] at H
        (try rw [(decide_eq_true c3871)])
        (try simp only [Bool.not_true, Bool.not_false])
        refine wp_cond_true rfl ?_
        refine wp_skip ?_
        (try simp only [Act.put, List.setIfInBounds_toArray, ls0, ls1])
        refine hK3870 _ _ ?_
        (try clear hK3870 K3870)
        refine wp_seq_k fun K3872 hK3872 => ?_
        refine wp_block ?_
        refine wp_seq_k fun K3873 hK3873 => ?_
        refine wl_region ?_
        refine st (.int .i64 x3853) rfl rfl (xr_move (.int .i64 x3853) rfl rfl) ?_
        simp only [ls0, ls1]
        refine st (.int .i64 x3853) rfl rfl (xr_assign (.int .i64 x3853) rfl rfl) ?_
        simp only [ls0, ls1]
        refine wl_end ?_
        (try simp only [Act.put, List.setIfInBounds_toArray, ls0, ls1])
        refine hK3873 _ _ ?_
        (try clear hK3873 K3873)
        refine wp_seq_k fun K3874 hK3874 => ?_
        refine wl_region ?_
        refine st (.pointer (some ⟨g0, 0, none⟩)) rfl rfl (xr_move (.pointer (some ⟨g0, 0, none⟩)) rfl rfl) ?_
        simp only [ls0, ls1]
        refine st (.pointer (some ⟨g0, 0, none⟩)) rfl rfl (xr_nilCheck ⟨g0, 0, none⟩ rfl rfl) ?_
        simp only [ls0, ls1]
        refine st (.pointer (some ⟨g0, 0, none⟩)) rfl rfl (xr_fieldAddr (.pointer (some ⟨g0, 0, none⟩)) (.pointer (some ⟨g0, 0, none⟩)) rfl rfl (bx_field2 Try.underlying47 rfl rfl (by kernel_rfl))) ?_
        simp only [ls0, ls1]
        refine st (.slice A0_0 l0_0.length c0_0) rfl rfl (xr_load (.pointer (some ⟨g0, 0, none⟩)) (.slice A0_0 l0_0.length c0_0) rfl rfl (load_cell Try.underlying44 rfl (bx_cell (l := ([.slice A0_0 l0_0.length c0_0, v0_1] ++ (List.map (Value.int .u64) x3856 ++ (List.map (Value.int .u64) a0_3)))) (HJ3858).2 0 rfl))) ?_
        simp only [ls0, ls1]
        refine st (.int .i64 (l0_0.length : Int)) rfl rfl (xr_builtin #[.slice A0_0 l0_0.length c0_0] (.int .i64 (l0_0.length : Int)) rfl (by simp only [List.map_toArray, List.map_cons, List.map_nil]; first | done | rfl) (by first | rfl | (go_simp; done) | (go_simp; rfl) | (go_simp; exact i64_w _) | (go_simp; exact i32_w _))) ?_
        simp only [ls0, ls1]
        refine st (.int .i64 0) rfl rfl (xr_move (.int .i64 0) rfl rfl) ?_
        simp only [ls0, ls1]
        refine wl_end ?_
        (try simp only [Act.put, List.setIfInBounds_toArray, ls0, ls1])
        refine hK3874 _ _ ?_
        (try clear hK3874 K3874)
        refine wp_block ?_
        (try simp only [Act.put, List.setIfInBounds_toArray, ls0, ls1])
        refine wp_looped (looped_ind (fun kq3930 a_ w3929 => ∃ (C3928 : Nat → Nat) (x3921 : Int) (x3924 : List Int) (g3927 : Nat → Value), a_ = ⟨#[.pointer (some ⟨g0, 0, none⟩), (g3927 1), .int .i64 x3853, (g3927 3), (g3927 4), (g3927 5), (g3927 6), (g3927 7), (g3927 8), (g3927 9), .int .i64 (l0_0.length : Int), .int .i64 x3853, (g3927 12), (g3927 13), (g3927 14), (g3927 15), (g3927 16), (g3927 17), .int .i64 (l0_0.length : Int), .int .i64 x3921, (g3927 20), (g3927 21), (g3927 22), (g3927 23), (g3927 24), (g3927 25), (g3927 26), (g3927 27), (g3927 28), (g3927 29), (g3927 30), (g3927 31), (g3927 32), (g3927 33), (g3927 34), (g3927 35), (g3927 36), (g3927 37), (g3927 38), (g3927 39), (g3927 40), (g3927 41), (g3927 42), (g3927 43), (g3927 44), (g3927 45), (g3927 46), (g3927 47), (g3927 48), (g3927 49), (g3927 50), (g3927 51), (g3927 52), (g3927 53), (g3927 54), (g3927 55), (g3927 56), (g3927 57), (g3927 58), (g3927 59), (g3927 60), (g3927 61), (g3927 62), (g3927 63), (g3927 64), (g3927 65), (g3927 66), (g3927 67), (g3927 68), (g3927 69), (g3927 70), (g3927 71), (g3927 72), (g3927 73), (g3927 74), (g3927 75), (g3927 76), (g3927 77), (g3927 78), (g3927 79), (g3927 80), (g3927 81), (g3927 82), (g3927 83), (g3927 84), (g3927 85), (g3927 86), (g3927 87), (g3927 88), (g3927 89), (g3927 90), (g3927 91), (g3927 92)], []⟩ ∧ Step c w C3928 w3929 [1] ∧ kq3930 ≤ k3868 ∧ (Ft C3928 [0] w3929 (fun w_ => Kd.string.C w_ A0_0 l0_0.length l0_0)) ∧ (Ft C3928 [0] w3929 (fun w_ => (Kd.mp Value.string (Value.int .i64)).K w_ m0_1 [v0_1])) ∧ (x3924.length = 64) ∧ (Bx C3928 1 w3929 g0 47 ([.slice A0_0 l0_0.length c0_0, v0_1] ++ (List.map (Value.int .u64) x3924 ++ (List.map (Value.int .u64) a0_3)))) ∧ order_Order_close.l0 kq3930 a0_3 l0_0 x3853 x3921 x3924 = some (r1, r2)) ?step k3868 _ _ ?init)
        case init =>
          exact ⟨_, 0, x3856, (fun q_ => List.getD [undef, (g3859 1), undef, (g3859 3), (g3859 4), (g3859 5), (g3859 6), (g3859 7), (g3859 8), (g3859 9), undef, undef, .bool true, .int .i64 x3853, .pointer (some ⟨g0, 0, none⟩), .pointer (some ⟨g0, 0, none⟩), .pointer (some ⟨g0, 0, none⟩), .slice A0_0 l0_0.length c0_0, undef, undef, (g3859 20), (g3859 21), (g3859 22), (g3859 23), (g3859 24), (g3859 25), (g3859 26), (g3859 27), (g3859 28), (g3859 29), (g3859 30), (g3859 31), (g3859 32), (g3859 33), (g3859 34), (g3859 35), (g3859 36), (g3859 37), (g3859 38), (g3859 39), (g3859 40), (g3859 41), (g3859 42), (g3859 43), (g3859 44), (g3859 45), (g3859 46), (g3859 47), (g3859 48), (g3859 49), (g3859 50), (g3859 51), (g3859 52), (g3859 53), (g3859 54), (g3859 55), (g3859 56), (g3859 57), (g3859 58), (g3859 59), (g3859 60), (g3859 61), (g3859 62), (g3859 63), (g3859 64), (g3859 65), (g3859 66), (g3859 67), (g3859 68), (g3859 69), (g3859 70), (g3859 71), (g3859 72), (g3859 73), (g3859 74), (g3859 75), (g3859 76), (g3859 77), (g3859 78), (g3859 79), (g3859 80), (g3859 81), (g3859 82), (g3859 83), (g3859 84), (g3859 85), (g3859 86), (g3859 87), (g3859 88), (g3859 89), (g3859 90), (g3859 91), (g3859 92)] q_ undef), rfl, HS3863, Nat.le_refl _, HJ3854, HJ3855, HL3857, HJ3858, H⟩
        case step =>
          intro kq3930 ih3933 a3934 w3929 hr3935
          obtain ⟨C3928, x3921, x3924, g3927, rfl, HS3931, hk3932, HJ3922, HJ3923, HL3925, HJ3926, H⟩ := hr3935
          refine looped_round ?_
          cases kq3930 with
          | zero => exact absurd H (by simp [order_Order_close.l0])
          | succ k3936 =>
            simp only [order_Order_close.l0] at H
            refine wp_seq_k fun K3937 hK3937 => ?_
            refine wl_region ?_
            refine st (.bool (decide (x3921 < (l0_0.length : Int)))) rfl rfl (xr_bin (.int .i64 x3921) (.int .i64 (l0_0.length : Int)) (.bool (decide (x3921 < (l0_0.length : Int)))) rfl rfl rfl (B.lss_i64 x3921 (l0_0.length : Int))) ?_
            simp only [ls0, ls1]
            refine wl_end ?_
            (try simp only [Act.put, List.setIfInBounds_toArray, ls0, ls1])
            refine hK3937 _ _ ?_
            (try clear hK3937 K3937)
            refine wp_seq_k fun K3938 hK3938 => ?_
            by_cases c3939 : x3921 < (l0_0.length : Int)
            · rw [if_pos c3939] at H
              (try rw [(decide_eq_true c3939)])
              (try simp only [Bool.not_true, Bool.not_false])
              refine wp_cond_true rfl ?_
              refine wp_skip ?_
              (try simp only [Act.put, List.setIfInBounds_toArray, ls0, ls1])
              refine hK3938 _ _ ?_
              (try clear hK3938 K3938)
              refine wp_seq_k fun K3940 hK3940 => ?_
              refine wp_block ?_
              refine wp_seq_k fun K3941 hK3941 => ?_
              refine wl_region ?_
              refine st (.int .i64 x3921) rfl rfl (xr_move (.int .i64 x3921) rfl rfl) ?_
              simp only [ls0, ls1]
              refine st (.int .i64 x3921) rfl rfl (xr_assign (.int .i64 x3921) rfl rfl) ?_
              simp only [ls0, ls1]
              refine wl_end ?_
              (try simp only [Act.put, List.setIfInBounds_toArray, ls0, ls1])
              refine hK3941 _ _ ?_
              (try clear hK3941 K3941)
              refine wp_seq_k fun K3942 hK3942 => ?_
              refine wl_region ?_
              refine st (.pointer (some ⟨g0, 0, none⟩)) rfl rfl (xr_move (.pointer (some ⟨g0, 0, none⟩)) rfl rfl) ?_
              simp only [ls0, ls1]
              refine st (.int .i64 x3921) rfl rfl (xr_move (.int .i64 x3921) rfl rfl) ?_
              simp only [ls0, ls1]
              refine st (.pointer (some ⟨g0, 0, none⟩)) rfl rfl (xr_nilCheck ⟨g0, 0, none⟩ rfl rfl) ?_
              simp only [ls0, ls1]
              refine st (.pointer (some ⟨g0, 2, none⟩)) rfl rfl (xr_fieldAddr (.pointer (some ⟨g0, 0, none⟩)) (.pointer (some ⟨g0, 2, none⟩)) rfl rfl (bx_field2 Try.underlying47 rfl rfl (by kernel_rfl))) ?_
              simp only [ls0, ls1]
              by_cases c3943 : 0 ≤ x3921
              · rw [if_pos c3943] at H
                by_cases c3944 : x3921 < 64
                · rw [if_pos c3944] at H
                  refine st (.pointer (some ⟨g0, 2 + ((x3921 : Int).toNat), none⟩)) rfl rfl (xr_indexAddr (.pointer (some ⟨g0, 2, none⟩)) (.int .i64 x3921) (.pointer (some ⟨g0, 2 + ((x3921 : Int).toNat), none⟩)) rfl rfl rfl (arr_index (sz := 1) Try.underlying45 (by kernel_rfl) (by first | assumption | decide | omega) (by first | assumption | decide | omega) (by omega))) ?_
                  simp only [ls0, ls1]
                  refine st (.int .u64 (List.getD x3924 ((x3921 : Int).toNat) 0)) rfl rfl (xr_load (.pointer (some ⟨g0, 2 + ((x3921 : Int).toNat), none⟩)) (.int .u64 (List.getD x3924 ((x3921 : Int).toNat) 0)) rfl rfl (arr_load (o := 2) (N := 64) (pre := [.slice A0_0 l0_0.length c0_0, v0_1]) (post := List.map (Value.int .u64) a0_3) (enc := (Value.int .u64)) (l := x3924) (i := (x3921 : Int).toNat) 0 Try.underlying40 rfl (HJ3926).2 (by first | (simp only [List.append_assoc, List.cons_append, List.nil_append, List.append_nil]; done) | rfl) (by simp []) HL3925 (by omega) (by omega))) ?_
                  simp only [ls0, ls1]
                  refine st (.int .i64 x3853) rfl rfl (xr_move (.int .i64 x3853) rfl rfl) ?_
                  simp only [ls0, ls1]
                  refine st (.int .u64 (IntKind.u64.wrap (x3853))) rfl rfl (xr_conv (.int .i64 x3853) (.int .u64 (IntKind.u64.wrap (x3853))) rfl rfl (by first | rfl | (go_simp; done) | (go_simp; rfl) | (go_simp; exact i64_w _) | (go_simp; exact i32_w _))) ?_
                  simp only [ls0, ls1]
                  by_cases c3945 : 0 ≤ (IntKind.u64.wrap (x3853))
                  · rw [if_pos c3945] at H
                    refine st (.int .u64 (shr .u64 (List.getD x3924 ((x3921 : Int).toNat) 0) (IntKind.u64.wrap (x3853)))) rfl rfl (xr_bin (.int .u64 (List.getD x3924 ((x3921 : Int).toNat) 0)) (.int .u64 (IntKind.u64.wrap (x3853))) (.int .u64 (shr .u64 (List.getD x3924 ((x3921 : Int).toNat) 0) (IntKind.u64.wrap (x3853)))) rfl rfl rfl (B.shr_u64_u64 (List.getD x3924 ((x3921 : Int).toNat) 0) (IntKind.u64.wrap (x3853)) (by assumption))) ?_
                    simp only [ls0, ls1]
                    refine st (.int .u64 (Go.bits .and .u64 (shr .u64 (List.getD x3924 ((x3921 : Int).toNat) 0) (IntKind.u64.wrap (x3853))) 1)) rfl rfl (xr_bin (.int .u64 (shr .u64 (List.getD x3924 ((x3921 : Int).toNat) 0) (IntKind.u64.wrap (x3853)))) (.int .u64 1) (.int .u64 (Go.bits .and .u64 (shr .u64 (List.getD x3924 ((x3921 : Int).toNat) 0) (IntKind.u64.wrap (x3853))) 1)) rfl rfl rfl (B.and_u64 (shr .u64 (List.getD x3924 ((x3921 : Int).toNat) 0) (IntKind.u64.wrap (x3853))) 1)) ?_
                    simp only [ls0, ls1]
                    refine st (.bool (decide ((Go.bits .and .u64 (shr .u64 (List.getD x3924 ((x3921 : Int).toNat) 0) (IntKind.u64.wrap (x3853))) 1) = 1))) rfl rfl (xr_bin (.int .u64 (Go.bits .and .u64 (shr .u64 (List.getD x3924 ((x3921 : Int).toNat) 0) (IntKind.u64.wrap (x3853))) 1)) (.int .u64 1) (.bool (decide ((Go.bits .and .u64 (shr .u64 (List.getD x3924 ((x3921 : Int).toNat) 0) (IntKind.u64.wrap (x3853))) 1) = 1))) rfl rfl rfl (B.eql_u64 (Go.bits .and .u64 (shr .u64 (List.getD x3924 ((x3921 : Int).toNat) 0) (IntKind.u64.wrap (x3853))) 1) 1)) ?_
                    simp only [ls0, ls1]
                    refine wl_end ?_
                    (try simp only [Act.put, List.setIfInBounds_toArray, ls0, ls1])
                    refine hK3942 _ _ ?_
                    (try clear hK3942 K3942)
                    by_cases c3946 : (Go.bits .and .u64 (shr .u64 (List.getD x3924 ((x3921 : Int).toNat) 0) (IntKind.u64.wrap (x3853))) 1) = 1
                    · rw [if_pos c3946] at H
                      (try rw [(decide_eq_true c3946)])
                      (try simp only [Bool.not_true, Bool.not_false])
                      refine wp_cond_true rfl ?_
                      (try simp only [Act.put, List.setIfInBounds_toArray, ls0, ls1])
                      refine al_start #[false, false, false, false, false, false, false, false, false, false, false, false, false, false, false, false, false] rfl rfl rfl (fun w_ => w_.heap[g0]? = some (.cells (List.toArray ([.slice A0_0 l0_0.length c0_0, v0_1] ++ (List.map (Value.int .u64) x3924 ++ (List.map (Value.int .u64) a0_3)))) 47 (0, 0))) (HJ3926.drew).2 [16] ?_
                      replace HJ3926 := HJ3926.drew
                      replace HJ3922 := HJ3922.drew
                      replace HJ3923 := HJ3923.drew
                      replace HS3931 := Step.ofDrew HS3931
                      generalize w3929.drew = w3947 at *
                      refine al_pure 0 33 (.pointer (some ⟨g0, 0, none⟩)) #[true, false, false, false, false, false, false, false, false, false, false, false, false, false, false, false, false] rfl rfl (by kernel_rfl) (fun _ _ _ h_ => h_) rfl (fun w_ => xr_move (.pointer (some ⟨g0, 0, none⟩)) rfl rfl) ?_
                      simp only [ls0, ls1]
                      refine al_pure 1 34 (.int .i64 x3921) #[true, true, false, false, false, false, false, false, false, false, false, false, false, false, false, false, false] rfl rfl (by kernel_rfl) (fun _ _ _ h_ => h_) rfl (fun w_ => xr_move (.int .i64 x3921) rfl rfl) ?_
                      simp only [ls0, ls1]
                      refine al_pure 2 35 (.pointer (some ⟨g0, 0, none⟩)) #[true, true, true, false, false, false, false, false, false, false, false, false, false, false, false, false, false] rfl rfl (by kernel_rfl) (fun _ _ _ h_ => h_) rfl (fun w_ => xr_nilCheck ⟨g0, 0, none⟩ rfl rfl) ?_
                      simp only [ls0, ls1]
                      refine al_pure 3 36 (.pointer (some ⟨g0, 2, none⟩)) #[true, true, true, true, false, false, false, false, false, false, false, false, false, false, false, false, false] rfl rfl (by kernel_rfl) (fun _ _ _ h_ => h_) rfl (fun w_ => xr_fieldAddr (.pointer (some ⟨g0, 0, none⟩)) (.pointer (some ⟨g0, 2, none⟩)) rfl rfl (bx_field2 Try.underlying47 rfl rfl (by kernel_rfl))) ?_
                      simp only [ls0, ls1]
                      refine al_pure 4 37 (.pointer (some ⟨g0, 2 + ((x3921 : Int).toNat), none⟩)) #[true, true, true, true, true, false, false, false, false, false, false, false, false, false, false, false, false] rfl rfl (by kernel_rfl) (fun _ _ _ h_ => h_) rfl (fun w_ => xr_indexAddr (.pointer (some ⟨g0, 2, none⟩)) (.int .i64 x3921) (.pointer (some ⟨g0, 2 + ((x3921 : Int).toNat), none⟩)) rfl rfl rfl (arr_index (sz := 1) Try.underlying45 (by kernel_rfl) (by first | assumption | decide | omega) (by first | assumption | decide | omega) (by omega))) ?_
                      simp only [ls0, ls1]
                      refine al_pure 6 39 (.pointer (some ⟨g0, 0, none⟩)) #[true, true, true, true, true, false, true, false, false, false, false, false, false, false, false, false, false] rfl rfl (by kernel_rfl) (fun _ _ _ h_ => h_) rfl (fun w_ => xr_move (.pointer (some ⟨g0, 0, none⟩)) rfl rfl) ?_
                      simp only [ls0, ls1]
                      refine al_pure 7 40 (.int .i64 x3853) #[true, true, true, true, true, false, true, true, false, false, false, false, false, false, false, false, false] rfl rfl (by kernel_rfl) (fun _ _ _ h_ => h_) rfl (fun w_ => xr_move (.int .i64 x3853) rfl rfl) ?_
                      simp only [ls0, ls1]
                      refine al_pure 8 41 (.pointer (some ⟨g0, 0, none⟩)) #[true, true, true, true, true, false, true, true, true, false, false, false, false, false, false, false, false] rfl rfl (by kernel_rfl) (fun _ _ _ h_ => h_) rfl (fun w_ => xr_nilCheck ⟨g0, 0, none⟩ rfl rfl) ?_
                      simp only [ls0, ls1]
                      refine al_pure 9 42 (.pointer (some ⟨g0, 2, none⟩)) #[true, true, true, true, true, false, true, true, true, true, false, false, false, false, false, false, false] rfl rfl (by kernel_rfl) (fun _ _ _ h_ => h_) rfl (fun w_ => xr_fieldAddr (.pointer (some ⟨g0, 0, none⟩)) (.pointer (some ⟨g0, 2, none⟩)) rfl rfl (bx_field2 Try.underlying47 rfl rfl (by kernel_rfl))) ?_
                      simp only [ls0, ls1]
                      by_cases c3948 : 0 ≤ x3853
                      · rw [if_pos c3948] at H
                        by_cases c3949 : x3853 < 64
                        · rw [if_pos c3949] at H
                          refine al_pure 10 43 (.pointer (some ⟨g0, 2 + ((x3853 : Int).toNat), none⟩)) #[true, true, true, true, true, false, true, true, true, true, true, false, false, false, false, false, false] rfl rfl (by kernel_rfl) (fun _ _ _ h_ => h_) rfl (fun w_ => xr_indexAddr (.pointer (some ⟨g0, 2, none⟩)) (.int .i64 x3853) (.pointer (some ⟨g0, 2 + ((x3853 : Int).toNat), none⟩)) rfl rfl rfl (arr_index (sz := 1) Try.underlying45 (by kernel_rfl) (by first | assumption | decide | omega) (by first | assumption | decide | omega) (by omega))) ?_
                          simp only [ls0, ls1]
                          refine al_pure 13 46 (.pointer (some ⟨g0, 0, none⟩)) #[true, true, true, true, true, false, true, true, true, true, true, false, false, true, false, false, false] rfl rfl (by kernel_rfl) (fun _ _ _ h_ => h_) rfl (fun w_ => xr_nilCheck ⟨g0, 0, none⟩ rfl rfl) ?_
                          simp only [ls0, ls1]
                          refine al_pure 14 47 (.pointer (some ⟨g0, 2, none⟩)) #[true, true, true, true, true, false, true, true, true, true, true, false, false, true, true, false, false] rfl rfl (by kernel_rfl) (fun _ _ _ h_ => h_) rfl (fun w_ => xr_fieldAddr (.pointer (some ⟨g0, 0, none⟩)) (.pointer (some ⟨g0, 2, none⟩)) rfl rfl (bx_field2 Try.underlying47 rfl rfl (by kernel_rfl))) ?_
                          simp only [ls0, ls1]
                          refine al_take 5 38 (.int .u64 (List.getD x3924 ((x3921 : Int).toNat) 0)) #[true, true, true, true, true, true, true, true, true, true, true, false, false, true, true, false, false] rfl rfl (by kernel_rfl) (fun _ _ _ h_ => h_) rfl (fun w_ hS_ => xr_load (.pointer (some ⟨g0, 2 + ((x3921 : Int).toNat), none⟩)) (.int .u64 (List.getD x3924 ((x3921 : Int).toNat) 0)) rfl rfl (arr_load (o := 2) (N := 64) (pre := [.slice A0_0 l0_0.length c0_0, v0_1]) (post := List.map (Value.int .u64) a0_3) (enc := (Value.int .u64)) (l := x3924) (i := (x3921 : Int).toNat) 0 Try.underlying40 rfl hS_ (by first | (simp only [List.append_assoc, List.cons_append, List.nil_append, List.append_nil]; done) | rfl) (by simp []) HL3925 (by omega) (by omega))) (HJ3926).2 ?_
                          simp only [ls0, ls1]
                          refine al_take 11 44 (.int .u64 (List.getD x3924 ((x3853 : Int).toNat) 0)) #[true, true, true, true, true, true, true, true, true, true, true, true, false, true, true, false, false] rfl rfl (by kernel_rfl) (fun _ _ _ h_ => h_) rfl (fun w_ hS_ => xr_load (.pointer (some ⟨g0, 2 + ((x3853 : Int).toNat), none⟩)) (.int .u64 (List.getD x3924 ((x3853 : Int).toNat) 0)) rfl rfl (arr_load (o := 2) (N := 64) (pre := [.slice A0_0 l0_0.length c0_0, v0_1]) (post := List.map (Value.int .u64) a0_3) (enc := (Value.int .u64)) (l := x3924) (i := (x3853 : Int).toNat) 0 Try.underlying40 rfl hS_ (by first | (simp only [List.append_assoc, List.cons_append, List.nil_append, List.append_nil]; done) | rfl) (by simp []) HL3925 (by omega) (by omega))) (HJ3926).2 ?_
                          simp only [ls0, ls1]
                          refine al_pure 12 45 (.int .u64 (Go.bits .or .u64 (List.getD x3924 ((x3921 : Int).toNat) 0) (List.getD x3924 ((x3853 : Int).toNat) 0))) #[true, true, true, true, true, true, true, true, true, true, true, true, true, true, true, false, false] rfl rfl (by kernel_rfl) (fun _ _ _ h_ => h_) rfl (fun w_ => xr_bin (.int .u64 (List.getD x3924 ((x3921 : Int).toNat) 0)) (.int .u64 (List.getD x3924 ((x3853 : Int).toNat) 0)) (.int .u64 (Go.bits .or .u64 (List.getD x3924 ((x3921 : Int).toNat) 0) (List.getD x3924 ((x3853 : Int).toNat) 0))) rfl rfl rfl (B.or_u64 (List.getD x3924 ((x3921 : Int).toNat) 0) (List.getD x3924 ((x3853 : Int).toNat) 0))) ?_
                          simp only [ls0, ls1]
                          refine al_pure 15 48 (.pointer (some ⟨g0, 2 + ((x3921 : Int).toNat), none⟩)) #[true, true, true, true, true, true, true, true, true, true, true, true, true, true, true, true, false] rfl rfl (by kernel_rfl) (fun _ _ _ h_ => h_) rfl (fun w_ => xr_indexAddr (.pointer (some ⟨g0, 2, none⟩)) (.int .i64 x3921) (.pointer (some ⟨g0, 2 + ((x3921 : Int).toNat), none⟩)) rfl rfl rfl (arr_index (sz := 1) Try.underlying45 (by kernel_rfl) (by first | assumption | decide | omega) (by first | assumption | decide | omega) (by omega))) ?_
                          simp only [ls0, ls1]
                          obtain ⟨y3950, A3951, H⟩ := Option.bind_eq_some_iff.mp H
                          (try dsimp only at H)
                          refine al_last 16 #[true, true, true, true, true, true, true, true, true, true, true, true, true, true, true, true, true] rfl rfl (by kernel_rfl) rfl (fun K_ hK_ => ?_)
                          refine arr_store_step (C := C3928) (z := 1) (g := g0) (tb := 47) (of := 2) (N := 64) (pre := [.slice A0_0 l0_0.length c0_0, v0_1]) (post := List.map (Value.int .u64) a0_3) (enc := (Value.int .u64)) (l0 := x3924) (i := (x3921 : Int).toNat) (Go.bits .or .u64 (List.getD x3924 ((x3921 : Int).toNat) 0) (List.getD x3924 ((x3853 : Int).toNat) 0)) rfl rfl rfl rfl rfl rfl (by kernel_rfl) rfl HJ3926 (by first | (simp only [List.append_assoc, List.cons_append, List.nil_append, List.append_nil]; done) | rfl) (by simp []) HL3925 (by omega) (by omega) (Option.some.inj A3951) (xs' := [.slice A0_0 l0_0.length c0_0, v0_1] ++ (List.map (Value.int .u64) y3950 ++ (List.map (Value.int .u64) a0_3))) (by first | (simp only [List.append_assoc, List.cons_append, List.nil_append, List.append_nil]; done) | rfl) ?_
                          intro w3952 HX3953 HL3955 hs3954
                          replace HJ3922 := HJ3922.thru hs3954 rfl
                          replace HJ3923 := HJ3923.thru hs3954 rfl
                          replace HS3931 := HS3931.trans hs3954 hc rfl
                          refine hK_ _ _ ?_
                          clear hK_ K_
                          (try simp only [Act.put, List.setIfInBounds_toArray, ls0, ls1])
                          refine al_end (by kernel_rfl) ?_
                          (try simp only [Act.put, List.setIfInBounds_toArray, ls0, ls1])
                          refine hK3940 _ _ ?_
                          (try clear hK3940 K3940)
                          refine wl_region ?_
                          refine st (.int .i64 (wrap64 (x3921 + 1))) rfl rfl (xr_bin (.int .i64 x3921) (.int .i64 1) (.int .i64 (wrap64 (x3921 + 1))) rfl rfl rfl (B.add_i64 x3921 1)) ?_
                          simp only [ls0, ls1]
                          refine st (.int .i64 (wrap64 (x3921 + 1))) rfl rfl (xr_move (.int .i64 (wrap64 (x3921 + 1))) rfl rfl) ?_
                          simp only [ls0, ls1]
                          refine wl_end ?_
                          (try simp only [Act.put, List.setIfInBounds_toArray, ls0, ls1])
                          exact ih3933 k3936 (by omega) _ _ ⟨_, wrap64 (x3921 + 1), y3950, (fun q_ => List.getD [undef, (g3927 1), undef, .int .i64 x3921, (g3927 4), (g3927 5), (g3927 6), (g3927 7), (g3927 8), (g3927 9), undef, undef, (g3927 12), (g3927 13), (g3927 14), (g3927 15), (g3927 16), (g3927 17), undef, undef, .bool true, .int .i64 x3921, .pointer (some ⟨g0, 0, none⟩), .int .i64 x3921, .pointer (some ⟨g0, 0, none⟩), .pointer (some ⟨g0, 2, none⟩), .pointer (some ⟨g0, 2 + ((x3921 : Int).toNat), none⟩), .int .u64 (List.getD x3924 ((x3921 : Int).toNat) 0), .int .i64 x3853, .int .u64 (IntKind.u64.wrap (x3853)), .int .u64 (shr .u64 (List.getD x3924 ((x3921 : Int).toNat) 0) (IntKind.u64.wrap (x3853))), .int .u64 (Go.bits .and .u64 (shr .u64 (List.getD x3924 ((x3921 : Int).toNat) 0) (IntKind.u64.wrap (x3853))) 1), .bool true, .pointer (some ⟨g0, 0, none⟩), .int .i64 x3921, .pointer (some ⟨g0, 0, none⟩), .pointer (some ⟨g0, 2, none⟩), .pointer (some ⟨g0, 2 + ((x3921 : Int).toNat), none⟩), .int .u64 (List.getD x3924 ((x3921 : Int).toNat) 0), .pointer (some ⟨g0, 0, none⟩), .int .i64 x3853, .pointer (some ⟨g0, 0, none⟩), .pointer (some ⟨g0, 2, none⟩), .pointer (some ⟨g0, 2 + ((x3853 : Int).toNat), none⟩), .int .u64 (List.getD x3924 ((x3853 : Int).toNat) 0), .int .u64 (Go.bits .or .u64 (List.getD x3924 ((x3921 : Int).toNat) 0) (List.getD x3924 ((x3853 : Int).toNat) 0)), .pointer (some ⟨g0, 0, none⟩), .pointer (some ⟨g0, 2, none⟩), .pointer (some ⟨g0, 2 + ((x3921 : Int).toNat), none⟩), .int .i64 (wrap64 (x3921 + 1)), (g3927 50), (g3927 51), (g3927 52), (g3927 53), (g3927 54), (g3927 55), (g3927 56), (g3927 57), (g3927 58), (g3927 59), (g3927 60), (g3927 61), (g3927 62), (g3927 63), (g3927 64), (g3927 65), (g3927 66), (g3927 67), (g3927 68), (g3927 69), (g3927 70), (g3927 71), (g3927 72), (g3927 73), (g3927 74), (g3927 75), (g3927 76), (g3927 77), (g3927 78), (g3927 79), (g3927 80), (g3927 81), (g3927 82), (g3927 83), (g3927 84), (g3927 85), (g3927 86), (g3927 87), (g3927 88), (g3927 89), (g3927 90), (g3927 91), (g3927 92)] q_ undef), rfl, HS3931, (by omega), HJ3922, HJ3923, HL3955, HX3953, H⟩
                        · rw [if_neg c3949] at H
                          exact absurd H (by simp)
                      · rw [if_neg c3948] at H
                        exact absurd H (by simp)
                    · rw [if_neg c3946] at H
                      (try rw [(decide_eq_false c3946)])
                      (try simp only [Bool.not_true, Bool.not_false])
                      refine wp_cond_false rfl ?_
                      refine wp_skip ?_
                      (try simp only [Act.put, List.setIfInBounds_toArray, ls0, ls1])
                      refine hK3940 _ _ ?_
                      (try clear hK3940 K3940)
                      refine wl_region ?_
                      refine st (.int .i64 (wrap64 (x3921 + 1))) rfl rfl (xr_bin (.int .i64 x3921) (.int .i64 1) (.int .i64 (wrap64 (x3921 + 1))) rfl rfl rfl (B.add_i64 x3921 1)) ?_
                      simp only [ls0, ls1]
                      refine st (.int .i64 (wrap64 (x3921 + 1))) rfl rfl (xr_move (.int .i64 (wrap64 (x3921 + 1))) rfl rfl) ?_
                      simp only [ls0, ls1]
                      refine wl_end ?_
                      (try simp only [Act.put, List.setIfInBounds_toArray, ls0, ls1])
                      exact ih3933 k3936 (by omega) _ _ ⟨_, wrap64 (x3921 + 1), x3924, (fun q_ => List.getD [undef, (g3927 1), undef, .int .i64 x3921, (g3927 4), (g3927 5), (g3927 6), (g3927 7), (g3927 8), (g3927 9), undef, undef, (g3927 12), (g3927 13), (g3927 14), (g3927 15), (g3927 16), (g3927 17), undef, undef, .bool true, .int .i64 x3921, .pointer (some ⟨g0, 0, none⟩), .int .i64 x3921, .pointer (some ⟨g0, 0, none⟩), .pointer (some ⟨g0, 2, none⟩), .pointer (some ⟨g0, 2 + ((x3921 : Int).toNat), none⟩), .int .u64 (List.getD x3924 ((x3921 : Int).toNat) 0), .int .i64 x3853, .int .u64 (IntKind.u64.wrap (x3853)), .int .u64 (shr .u64 (List.getD x3924 ((x3921 : Int).toNat) 0) (IntKind.u64.wrap (x3853))), .int .u64 (Go.bits .and .u64 (shr .u64 (List.getD x3924 ((x3921 : Int).toNat) 0) (IntKind.u64.wrap (x3853))) 1), .bool false, (g3927 33), (g3927 34), (g3927 35), (g3927 36), (g3927 37), (g3927 38), (g3927 39), (g3927 40), (g3927 41), (g3927 42), (g3927 43), (g3927 44), (g3927 45), (g3927 46), (g3927 47), (g3927 48), .int .i64 (wrap64 (x3921 + 1)), (g3927 50), (g3927 51), (g3927 52), (g3927 53), (g3927 54), (g3927 55), (g3927 56), (g3927 57), (g3927 58), (g3927 59), (g3927 60), (g3927 61), (g3927 62), (g3927 63), (g3927 64), (g3927 65), (g3927 66), (g3927 67), (g3927 68), (g3927 69), (g3927 70), (g3927 71), (g3927 72), (g3927 73), (g3927 74), (g3927 75), (g3927 76), (g3927 77), (g3927 78), (g3927 79), (g3927 80), (g3927 81), (g3927 82), (g3927 83), (g3927 84), (g3927 85), (g3927 86), (g3927 87), (g3927 88), (g3927 89), (g3927 90), (g3927 91), (g3927 92)] q_ undef), rfl, HS3931, (by omega), HJ3922, HJ3923, HL3925, HJ3926, H⟩
                  · rw [if_neg c3945] at H
                    exact absurd H (by simp)
                · rw [if_neg c3944] at H
                  exact absurd H (by simp)
              · rw [if_neg c3943] at H
                exact absurd H (by simp)
            · rw [if_neg c3939] at H
              (try rw [(decide_eq_false c3939)])
              (try simp only [Bool.not_true, Bool.not_false])
              refine wp_cond_false rfl ?_
              refine wp_exit ?_
              (try simp only [Act.put, List.setIfInBounds_toArray, ls0, ls1])
              refine hK3872 _ _ ?_
              (try clear hK3872 K3872)
              refine wl_region ?_
              refine st (.int .i64 (wrap64 (x3853 + 1))) rfl rfl (xr_bin (.int .i64 x3853) (.int .i64 1) (.int .i64 (wrap64 (x3853 + 1))) rfl rfl rfl (B.add_i64 x3853 1)) ?_
              simp only [ls0, ls1]
              refine st (.int .i64 (wrap64 (x3853 + 1))) rfl rfl (xr_move (.int .i64 (wrap64 (x3853 + 1))) rfl rfl) ?_
              simp only [ls0, ls1]
              refine wl_end ?_
              (try simp only [Act.put, List.setIfInBounds_toArray, ls0, ls1])
              exact ih3865 k3936 (by omega) _ _ ⟨_, wrap64 (x3853 + 1), x3924, (fun q_ => List.getD [undef, (g3927 1), .int .i64 x3853, (g3927 3), (g3927 4), (g3927 5), (g3927 6), (g3927 7), (g3927 8), (g3927 9), undef, undef, (g3927 12), (g3927 13), (g3927 14), (g3927 15), (g3927 16), (g3927 17), .int .i64 (l0_0.length : Int), .int .i64 x3921, .bool false, (g3927 21), (g3927 22), (g3927 23), (g3927 24), (g3927 25), (g3927 26), (g3927 27), (g3927 28), (g3927 29), (g3927 30), (g3927 31), (g3927 32), (g3927 33), (g3927 34), (g3927 35), (g3927 36), (g3927 37), (g3927 38), (g3927 39), (g3927 40), (g3927 41), (g3927 42), (g3927 43), (g3927 44), (g3927 45), (g3927 46), (g3927 47), (g3927 48), (g3927 49), .int .i64 (wrap64 (x3853 + 1)), (g3927 51), (g3927 52), (g3927 53), (g3927 54), (g3927 55), (g3927 56), (g3927 57), (g3927 58), (g3927 59), (g3927 60), (g3927 61), (g3927 62), (g3927 63), (g3927 64), (g3927 65), (g3927 66), (g3927 67), (g3927 68), (g3927 69), (g3927 70), (g3927 71), (g3927 72), (g3927 73), (g3927 74), (g3927 75), (g3927 76), (g3927 77), (g3927 78), (g3927 79), (g3927 80), (g3927 81), (g3927 82), (g3927 83), (g3927 84), (g3927 85), (g3927 86), (g3927 87), (g3927 88), (g3927 89), (g3927 90), (g3927 91), (g3927 92)] q_ undef), rfl, HS3931, (by omega), HJ3922, HJ3923, HL3925, HJ3926, H⟩
      · rw [if_neg c3871] at H
        (try rw [(decide_eq_false c3871)])
        (try simp only [Bool.not_true, Bool.not_false])
        refine wp_cond_false rfl ?_
        refine wp_exit ?_
        (try simp only [Act.put, List.setIfInBounds_toArray, ls0, ls1])
        refine hK3383 _ _ ?_
        (try clear hK3383 K3383)
        refine wp_seq_k fun K3956 hK3956 => ?_
        refine wl_region ?_
        refine st (.pointer (some ⟨g0, 0, none⟩)) rfl rfl (xr_move (.pointer (some ⟨g0, 0, none⟩)) rfl rfl) ?_
        simp only [ls0, ls1]
        refine st (.pointer (some ⟨g0, 0, none⟩)) rfl rfl (xr_nilCheck ⟨g0, 0, none⟩ rfl rfl) ?_
        simp only [ls0, ls1]
        refine st (.pointer (some ⟨g0, 0, none⟩)) rfl rfl (xr_fieldAddr (.pointer (some ⟨g0, 0, none⟩)) (.pointer (some ⟨g0, 0, none⟩)) rfl rfl (bx_field2 Try.underlying47 rfl rfl (by kernel_rfl))) ?_
        simp only [ls0, ls1]
        refine st (.slice A0_0 l0_0.length c0_0) rfl rfl (xr_load (.pointer (some ⟨g0, 0, none⟩)) (.slice A0_0 l0_0.length c0_0) rfl rfl (load_cell Try.underlying44 rfl (bx_cell (l := ([.slice A0_0 l0_0.length c0_0, v0_1] ++ (List.map (Value.int .u64) x3856 ++ (List.map (Value.int .u64) a0_3)))) (HJ3858).2 0 rfl))) ?_
        simp only [ls0, ls1]
        refine st (.int .i64 (l0_0.length : Int)) rfl rfl (xr_builtin #[.slice A0_0 l0_0.length c0_0] (.int .i64 (l0_0.length : Int)) rfl (by simp only [List.map_toArray, List.map_cons, List.map_nil]; first | done | rfl) (by first | rfl | (go_simp; done) | (go_simp; rfl) | (go_simp; exact i64_w _) | (go_simp; exact i32_w _))) ?_
        simp only [ls0, ls1]
        refine st (.int .i64 0) rfl rfl (xr_move (.int .i64 0) rfl rfl) ?_
        simp only [ls0, ls1]
        refine wl_end ?_
        (try simp only [Act.put, List.setIfInBounds_toArray, ls0, ls1])
        refine hK3956 _ _ ?_
        (try clear hK3956 K3956)
        refine wp_block ?_
        (try simp only [Act.put, List.setIfInBounds_toArray, ls0, ls1])
        refine wp_looped (looped_ind (fun kq4152 a_ w4151 => ∃ (C4150 : Nat → Nat) (x4143 : Int) (x4146 : List Int) (g4149 : Nat → Value), a_ = ⟨#[.pointer (some ⟨g0, 0, none⟩), (g4149 1), (g4149 2), (g4149 3), (g4149 4), (g4149 5), (g4149 6), (g4149 7), (g4149 8), (g4149 9), (g4149 10), (g4149 11), (g4149 12), (g4149 13), (g4149 14), (g4149 15), (g4149 16), (g4149 17), (g4149 18), (g4149 19), (g4149 20), (g4149 21), (g4149 22), (g4149 23), (g4149 24), (g4149 25), (g4149 26), (g4149 27), (g4149 28), (g4149 29), (g4149 30), (g4149 31), (g4149 32), (g4149 33), (g4149 34), (g4149 35), (g4149 36), (g4149 37), (g4149 38), (g4149 39), (g4149 40), (g4149 41), (g4149 42), (g4149 43), (g4149 44), (g4149 45), (g4149 46), (g4149 47), (g4149 48), (g4149 49), (g4149 50), (g4149 51), (g4149 52), (g4149 53), (g4149 54), .int .i64 (l0_0.length : Int), .int .i64 x4143, (g4149 57), (g4149 58), (g4149 59), (g4149 60), (g4149 61), (g4149 62), (g4149 63), (g4149 64), (g4149 65), (g4149 66), (g4149 67), (g4149 68), (g4149 69), (g4149 70), (g4149 71), (g4149 72), (g4149 73), (g4149 74), (g4149 75), (g4149 76), (g4149 77), (g4149 78), (g4149 79), (g4149 80), (g4149 81), (g4149 82), (g4149 83), (g4149 84), (g4149 85), (g4149 86), (g4149 87), (g4149 88), (g4149 89), (g4149 90), (g4149 91), (g4149 92)], []⟩ ∧ Step c w C4150 w4151 [1] ∧ kq4152 ≤ k3868 ∧ (Ft C4150 [0] w4151 (fun w_ => Kd.string.C w_ A0_0 l0_0.length l0_0)) ∧ (Ft C4150 [0] w4151 (fun w_ => (Kd.mp Value.string (Value.int .i64)).K w_ m0_1 [v0_1])) ∧ (x4146.length = 64) ∧ (Bx C4150 1 w4151 g0 47 ([.slice A0_0 l0_0.length c0_0, v0_1] ++ (List.map (Value.int .u64) x3856 ++ (List.map (Value.int .u64) x4146)))) ∧ order_Order_close.l2 kq4152 l0_0 x3856 x4143 x4146 = some (r1, r2)) ?step k3868 _ _ ?init)
        case init =>
          exact ⟨_, 0, a0_3, (fun q_ => List.getD [undef, (g3859 1), (g3859 2), (g3859 3), (g3859 4), (g3859 5), (g3859 6), (g3859 7), (g3859 8), (g3859 9), .int .i64 (l0_0.length : Int), .int .i64 x3853, .bool false, (g3859 13), (g3859 14), (g3859 15), (g3859 16), (g3859 17), (g3859 18), (g3859 19), (g3859 20), (g3859 21), (g3859 22), (g3859 23), (g3859 24), (g3859 25), (g3859 26), (g3859 27), (g3859 28), (g3859 29), (g3859 30), (g3859 31), (g3859 32), (g3859 33), (g3859 34), (g3859 35), (g3859 36), (g3859 37), (g3859 38), (g3859 39), (g3859 40), (g3859 41), (g3859 42), (g3859 43), (g3859 44), (g3859 45), (g3859 46), (g3859 47), (g3859 48), (g3859 49), (g3859 50), .pointer (some ⟨g0, 0, none⟩), .pointer (some ⟨g0, 0, none⟩), .pointer (some ⟨g0, 0, none⟩), .slice A0_0 l0_0.length c0_0, undef, undef, (g3859 57), (g3859 58), (g3859 59), (g3859 60), (g3859 61), (g3859 62), (g3859 63), (g3859 64), (g3859 65), (g3859 66), (g3859 67), (g3859 68), (g3859 69), (g3859 70), (g3859 71), (g3859 72), (g3859 73), (g3859 74), (g3859 75), (g3859 76), (g3859 77), (g3859 78), (g3859 79), (g3859 80), (g3859 81), (g3859 82), (g3859 83), (g3859 84), (g3859 85), (g3859 86), (g3859 87), (g3859 88), (g3859 89), (g3859 90), (g3859 91), (g3859 92)] q_ undef), rfl, HS3863, Nat.le_refl _, HJ3854, HJ3855, HL0_3, HJ3858, H⟩
        case step =>
          intro kq4152 ih4155 a4156 w4151 hr4157
          obtain ⟨C4150, x4143, x4146, g4149, rfl, HS4153, hk4154, HJ4144, HJ4145, HL4147, HJ4148, H⟩ := hr4157
          refine looped_round ?_
          cases kq4152 with
          | zero => exact absurd H (by simp [order_Order_close.l2])
          | succ k4158 =>
            simp only [order_Order_close.l2] at H
            refine wp_seq_k fun K4159 hK4159 => ?_
            refine wl_region ?_
            refine st (.bool (decide (x4143 < (l0_0.length : Int)))) rfl rfl (xr_bin (.int .i64 x4143) (.int .i64 (l0_0.length : Int)) (.bool (decide (x4143 < (l0_0.length : Int)))) rfl rfl rfl (B.lss_i64 x4143 (l0_0.length : Int))) ?_
            simp only [ls0, ls1]
            refine wl_end ?_
            (try simp only [Act.put, List.setIfInBounds_toArray, ls0, ls1])
            refine hK4159 _ _ ?_
            (try clear hK4159 K4159)
            refine wp_seq_k fun K4160 hK4160 => ?_
            by_cases c4161 : x4143 < (l0_0.length : Int)
            · rw [if_pos c4161] at H
              (try rw [(decide_eq_true c4161)])
              (try simp only [Bool.not_true, Bool.not_false])
              refine wp_cond_true rfl ?_
              refine wp_skip ?_
              (try simp only [Act.put, List.setIfInBounds_toArray, ls0, ls1])
              refine hK4160 _ _ ?_
              (try clear hK4160 K4160)
              refine wp_seq_k fun K4162 hK4162 => ?_
              refine wp_block ?_
              refine wp_seq_k fun K4163 hK4163 => ?_
              refine wl_region ?_
              refine st (.int .i64 x4143) rfl rfl (xr_move (.int .i64 x4143) rfl rfl) ?_
              simp only [ls0, ls1]
              refine st (.int .i64 x4143) rfl rfl (xr_assign (.int .i64 x4143) rfl rfl) ?_
              simp only [ls0, ls1]
              refine wl_end ?_
              (try simp only [Act.put, List.setIfInBounds_toArray, ls0, ls1])
              refine hK4163 _ _ ?_
              (try clear hK4163 K4163)
              refine wp_seq_k fun K4164 hK4164 => ?_
              refine wl_region ?_
              refine st (.pointer (some ⟨g0, 0, none⟩)) rfl rfl (xr_move (.pointer (some ⟨g0, 0, none⟩)) rfl rfl) ?_
              simp only [ls0, ls1]
              refine st (.pointer (some ⟨g0, 0, none⟩)) rfl rfl (xr_nilCheck ⟨g0, 0, none⟩ rfl rfl) ?_
              simp only [ls0, ls1]
              refine st (.pointer (some ⟨g0, 0, none⟩)) rfl rfl (xr_fieldAddr (.pointer (some ⟨g0, 0, none⟩)) (.pointer (some ⟨g0, 0, none⟩)) rfl rfl (bx_field2 Try.underlying47 rfl rfl (by kernel_rfl))) ?_
              simp only [ls0, ls1]
              refine st (.slice A0_0 l0_0.length c0_0) rfl rfl (xr_load (.pointer (some ⟨g0, 0, none⟩)) (.slice A0_0 l0_0.length c0_0) rfl rfl (load_cell Try.underlying44 rfl (bx_cell (l := ([.slice A0_0 l0_0.length c0_0, v0_1] ++ (List.map (Value.int .u64) x3856 ++ (List.map (Value.int .u64) x4146)))) (HJ4148).2 0 rfl))) ?_
              simp only [ls0, ls1]
              refine st (.int .i64 (l0_0.length : Int)) rfl rfl (xr_builtin #[.slice A0_0 l0_0.length c0_0] (.int .i64 (l0_0.length : Int)) rfl (by simp only [List.map_toArray, List.map_cons, List.map_nil]; first | done | rfl) (by first | rfl | (go_simp; done) | (go_simp; rfl) | (go_simp; exact i64_w _) | (go_simp; exact i32_w _))) ?_
              simp only [ls0, ls1]
              refine st (.int .i64 0) rfl rfl (xr_move (.int .i64 0) rfl rfl) ?_
              simp only [ls0, ls1]
              refine wl_end ?_
              (try simp only [Act.put, List.setIfInBounds_toArray, ls0, ls1])
              refine hK4164 _ _ ?_
              (try clear hK4164 K4164)
              refine wp_block ?_
              (try simp only [Act.put, List.setIfInBounds_toArray, ls0, ls1])
              refine wp_looped (looped_ind (fun kq4221 a_ w4220 => ∃ (C4219 : Nat → Nat) (x4212 : Int) (x4215 : List Int) (g4218 : Nat → Value), a_ = ⟨#[.pointer (some ⟨g0, 0, none⟩), (g4218 1), (g4218 2), (g4218 3), .int .i64 x4143, (g4218 5), (g4218 6), (g4218 7), (g4218 8), (g4218 9), (g4218 10), (g4218 11), (g4218 12), (g4218 13), (g4218 14), (g4218 15), (g4218 16), (g4218 17), (g4218 18), (g4218 19), (g4218 20), (g4218 21), (g4218 22), (g4218 23), (g4218 24), (g4218 25), (g4218 26), (g4218 27), (g4218 28), (g4218 29), (g4218 30), (g4218 31), (g4218 32), (g4218 33), (g4218 34), (g4218 35), (g4218 36), (g4218 37), (g4218 38), (g4218 39), (g4218 40), (g4218 41), (g4218 42), (g4218 43), (g4218 44), (g4218 45), (g4218 46), (g4218 47), (g4218 48), (g4218 49), (g4218 50), (g4218 51), (g4218 52), (g4218 53), (g4218 54), .int .i64 (l0_0.length : Int), .int .i64 x4143, (g4218 57), (g4218 58), (g4218 59), (g4218 60), (g4218 61), (g4218 62), .int .i64 (l0_0.length : Int), .int .i64 x4212, (g4218 65), (g4218 66), (g4218 67), (g4218 68), (g4218 69), (g4218 70), (g4218 71), (g4218 72), (g4218 73), (g4218 74), (g4218 75), (g4218 76), (g4218 77), (g4218 78), (g4218 79), (g4218 80), (g4218 81), (g4218 82), (g4218 83), (g4218 84), (g4218 85), (g4218 86), (g4218 87), (g4218 88), (g4218 89), (g4218 90), (g4218 91), (g4218 92)], []⟩ ∧ Step c w C4219 w4220 [1] ∧ kq4221 ≤ k4158 ∧ (Ft C4219 [0] w4220 (fun w_ => Kd.string.C w_ A0_0 l0_0.length l0_0)) ∧ (Ft C4219 [0] w4220 (fun w_ => (Kd.mp Value.string (Value.int .i64)).K w_ m0_1 [v0_1])) ∧ (x4215.length = 64) ∧ (Bx C4219 1 w4220 g0 47 ([.slice A0_0 l0_0.length c0_0, v0_1] ++ (List.map (Value.int .u64) x3856 ++ (List.map (Value.int .u64) x4215)))) ∧ order_Order_close.l1 kq4221 l0_0 x3856 x4143 x4212 x4215 = some (r1, r2)) ?step k4158 _ _ ?init)
              case init =>
                exact ⟨_, 0, x4146, (fun q_ => List.getD [undef, (g4149 1), (g4149 2), (g4149 3), undef, (g4149 5), (g4149 6), (g4149 7), (g4149 8), (g4149 9), (g4149 10), (g4149 11), (g4149 12), (g4149 13), (g4149 14), (g4149 15), (g4149 16), (g4149 17), (g4149 18), (g4149 19), (g4149 20), (g4149 21), (g4149 22), (g4149 23), (g4149 24), (g4149 25), (g4149 26), (g4149 27), (g4149 28), (g4149 29), (g4149 30), (g4149 31), (g4149 32), (g4149 33), (g4149 34), (g4149 35), (g4149 36), (g4149 37), (g4149 38), (g4149 39), (g4149 40), (g4149 41), (g4149 42), (g4149 43), (g4149 44), (g4149 45), (g4149 46), (g4149 47), (g4149 48), (g4149 49), (g4149 50), (g4149 51), (g4149 52), (g4149 53), (g4149 54), undef, undef, .bool true, .int .i64 x4143, .pointer (some ⟨g0, 0, none⟩), .pointer (some ⟨g0, 0, none⟩), .pointer (some ⟨g0, 0, none⟩), .slice A0_0 l0_0.length c0_0, undef, undef, (g4149 65), (g4149 66), (g4149 67), (g4149 68), (g4149 69), (g4149 70), (g4149 71), (g4149 72), (g4149 73), (g4149 74), (g4149 75), (g4149 76), (g4149 77), (g4149 78), (g4149 79), (g4149 80), (g4149 81), (g4149 82), (g4149 83), (g4149 84), (g4149 85), (g4149 86), (g4149 87), (g4149 88), (g4149 89), (g4149 90), (g4149 91), (g4149 92)] q_ undef), rfl, HS4153, Nat.le_refl _, HJ4144, HJ4145, HL4147, HJ4148, H⟩
              case step =>
                intro kq4221 ih4224 a4225 w4220 hr4226
                obtain ⟨C4219, x4212, x4215, g4218, rfl, HS4222, hk4223, HJ4213, HJ4214, HL4216, HJ4217, H⟩ := hr4226
                refine looped_round ?_
                cases kq4221 with
                | zero => exact absurd H (by simp [order_Order_close.l1])
                | succ k4227 =>
                  simp only [order_Order_close.l1] at H
                  refine wp_seq_k fun K4228 hK4228 => ?_
                  refine wl_region ?_
                  refine st (.bool (decide (x4212 < (l0_0.length : Int)))) rfl rfl (xr_bin (.int .i64 x4212) (.int .i64 (l0_0.length : Int)) (.bool (decide (x4212 < (l0_0.length : Int)))) rfl rfl rfl (B.lss_i64 x4212 (l0_0.length : Int))) ?_
                  simp only [ls0, ls1]
                  refine wl_end ?_
                  (try simp only [Act.put, List.setIfInBounds_toArray, ls0, ls1])
                  refine hK4228 _ _ ?_
                  (try clear hK4228 K4228)
                  refine wp_seq_k fun K4229 hK4229 => ?_
                  by_cases c4230 : x4212 < (l0_0.length : Int)
                  · rw [if_pos c4230] at H
                    (try rw [(decide_eq_true c4230)])
                    (try simp only [Bool.not_true, Bool.not_false])
                    refine wp_cond_true rfl ?_
                    refine wp_skip ?_
                    (try simp only [Act.put, List.setIfInBounds_toArray, ls0, ls1])
                    refine hK4229 _ _ ?_
                    (try clear hK4229 K4229)
                    refine wp_seq_k fun K4231 hK4231 => ?_
                    refine wp_block ?_
                    refine wp_seq_k fun K4232 hK4232 => ?_
                    refine wl_region ?_
                    refine st (.int .i64 x4212) rfl rfl (xr_move (.int .i64 x4212) rfl rfl) ?_
                    simp only [ls0, ls1]
                    refine st (.int .i64 x4212) rfl rfl (xr_assign (.int .i64 x4212) rfl rfl) ?_
                    simp only [ls0, ls1]
                    refine wl_end ?_
                    (try simp only [Act.put, List.setIfInBounds_toArray, ls0, ls1])
                    refine hK4232 _ _ ?_
                    (try clear hK4232 K4232)
                    refine wp_seq_k fun K4233 hK4233 => ?_
                    refine wl_region ?_
                    refine st (.pointer (some ⟨g0, 0, none⟩)) rfl rfl (xr_move (.pointer (some ⟨g0, 0, none⟩)) rfl rfl) ?_
                    simp only [ls0, ls1]
                    refine st (.int .i64 x4212) rfl rfl (xr_move (.int .i64 x4212) rfl rfl) ?_
                    simp only [ls0, ls1]
                    refine st (.pointer (some ⟨g0, 0, none⟩)) rfl rfl (xr_nilCheck ⟨g0, 0, none⟩ rfl rfl) ?_
                    simp only [ls0, ls1]
                    refine st (.pointer (some ⟨g0, 2, none⟩)) rfl rfl (xr_fieldAddr (.pointer (some ⟨g0, 0, none⟩)) (.pointer (some ⟨g0, 2, none⟩)) rfl rfl (bx_field2 Try.underlying47 rfl rfl (by kernel_rfl))) ?_
                    simp only [ls0, ls1]
                    by_cases c4234 : 0 ≤ x4212
                    · rw [if_pos c4234] at H
                      by_cases c4235 : x4212 < 64
                      · rw [if_pos c4235] at H
                        refine st (.pointer (some ⟨g0, 2 + ((x4212 : Int).toNat), none⟩)) rfl rfl (xr_indexAddr (.pointer (some ⟨g0, 2, none⟩)) (.int .i64 x4212) (.pointer (some ⟨g0, 2 + ((x4212 : Int).toNat), none⟩)) rfl rfl rfl (arr_index (sz := 1) Try.underlying45 (by kernel_rfl) (by first | assumption | decide | omega) (by first | assumption | decide | omega) (by omega))) ?_
                        simp only [ls0, ls1]
                        refine st (.int .u64 (List.getD x3856 ((x4212 : Int).toNat) 0)) rfl rfl (xr_load (.pointer (some ⟨g0, 2 + ((x4212 : Int).toNat), none⟩)) (.int .u64 (List.getD x3856 ((x4212 : Int).toNat) 0)) rfl rfl (arr_load (o := 2) (N := 64) (pre := [.slice A0_0 l0_0.length c0_0, v0_1]) (post := List.map (Value.int .u64) x4215) (enc := (Value.int .u64)) (l := x3856) (i := (x4212 : Int).toNat) 0 Try.underlying40 rfl (HJ4217).2 (by first | (simp only [List.append_assoc, List.cons_append, List.nil_append, List.append_nil]; done) | rfl) (by simp []) HL3857 (by omega) (by omega))) ?_
                        simp only [ls0, ls1]
                        refine st (.int .i64 x4143) rfl rfl (xr_move (.int .i64 x4143) rfl rfl) ?_
                        simp only [ls0, ls1]
                        refine st (.int .u64 (IntKind.u64.wrap (x4143))) rfl rfl (xr_conv (.int .i64 x4143) (.int .u64 (IntKind.u64.wrap (x4143))) rfl rfl (by first | rfl | (go_simp; done) | (go_simp; rfl) | (go_simp; exact i64_w _) | (go_simp; exact i32_w _))) ?_
                        simp only [ls0, ls1]
                        by_cases c4236 : 0 ≤ (IntKind.u64.wrap (x4143))
                        · rw [if_pos c4236] at H
                          refine st (.int .u64 (shr .u64 (List.getD x3856 ((x4212 : Int).toNat) 0) (IntKind.u64.wrap (x4143)))) rfl rfl (xr_bin (.int .u64 (List.getD x3856 ((x4212 : Int).toNat) 0)) (.int .u64 (IntKind.u64.wrap (x4143))) (.int .u64 (shr .u64 (List.getD x3856 ((x4212 : Int).toNat) 0) (IntKind.u64.wrap (x4143)))) rfl rfl rfl (B.shr_u64_u64 (List.getD x3856 ((x4212 : Int).toNat) 0) (IntKind.u64.wrap (x4143)) (by assumption))) ?_
                          simp only [ls0, ls1]
                          refine st (.int .u64 (Go.bits .and .u64 (shr .u64 (List.getD x3856 ((x4212 : Int).toNat) 0) (IntKind.u64.wrap (x4143))) 1)) rfl rfl (xr_bin (.int .u64 (shr .u64 (List.getD x3856 ((x4212 : Int).toNat) 0) (IntKind.u64.wrap (x4143)))) (.int .u64 1) (.int .u64 (Go.bits .and .u64 (shr .u64 (List.getD x3856 ((x4212 : Int).toNat) 0) (IntKind.u64.wrap (x4143))) 1)) rfl rfl rfl (B.and_u64 (shr .u64 (List.getD x3856 ((x4212 : Int).toNat) 0) (IntKind.u64.wrap (x4143))) 1)) ?_
                          simp only [ls0, ls1]
                          refine st (.bool (decide ((Go.bits .and .u64 (shr .u64 (List.getD x3856 ((x4212 : Int).toNat) 0) (IntKind.u64.wrap (x4143))) 1) = 1))) rfl rfl (xr_bin (.int .u64 (Go.bits .and .u64 (shr .u64 (List.getD x3856 ((x4212 : Int).toNat) 0) (IntKind.u64.wrap (x4143))) 1)) (.int .u64 1) (.bool (decide ((Go.bits .and .u64 (shr .u64 (List.getD x3856 ((x4212 : Int).toNat) 0) (IntKind.u64.wrap (x4143))) 1) = 1))) rfl rfl rfl (B.eql_u64 (Go.bits .and .u64 (shr .u64 (List.getD x3856 ((x4212 : Int).toNat) 0) (IntKind.u64.wrap (x4143))) 1) 1)) ?_
                          simp only [ls0, ls1]
                          refine wl_end ?_
                          (try simp only [Act.put, List.setIfInBounds_toArray, ls0, ls1])
                          refine hK4233 _ _ ?_
                          (try clear hK4233 K4233)
                          by_cases c4237 : (Go.bits .and .u64 (shr .u64 (List.getD x3856 ((x4212 : Int).toNat) 0) (IntKind.u64.wrap (x4143))) 1) = 1
                          · rw [if_pos c4237] at H
                            (try rw [(decide_eq_true c4237)])
                            (try simp only [Bool.not_true, Bool.not_false])
                            refine wp_cond_true rfl ?_
                            (try simp only [Act.put, List.setIfInBounds_toArray, ls0, ls1])
                            refine al_start #[false, false, false, false, false, false, false, false, false, false, false, false, false, false] rfl rfl rfl (fun w_ => w_.heap[g0]? = some (.cells (List.toArray ([.slice A0_0 l0_0.length c0_0, v0_1] ++ (List.map (Value.int .u64) x3856 ++ (List.map (Value.int .u64) x4215)))) 47 (0, 0))) (HJ4217.drew).2 [13] ?_
                            replace HJ4217 := HJ4217.drew
                            replace HJ4213 := HJ4213.drew
                            replace HJ4214 := HJ4214.drew
                            replace HS4222 := Step.ofDrew HS4222
                            generalize w4220.drew = w4238 at *
                            refine al_pure 0 78 (.pointer (some ⟨g0, 0, none⟩)) #[true, false, false, false, false, false, false, false, false, false, false, false, false, false] rfl rfl (by kernel_rfl) (fun _ _ _ h_ => h_) rfl (fun w_ => xr_move (.pointer (some ⟨g0, 0, none⟩)) rfl rfl) ?_
                            simp only [ls0, ls1]
                            refine al_pure 1 79 (.int .i64 x4143) #[true, true, false, false, false, false, false, false, false, false, false, false, false, false] rfl rfl (by kernel_rfl) (fun _ _ _ h_ => h_) rfl (fun w_ => xr_move (.int .i64 x4143) rfl rfl) ?_
                            simp only [ls0, ls1]
                            refine al_pure 2 80 (.pointer (some ⟨g0, 0, none⟩)) #[true, true, true, false, false, false, false, false, false, false, false, false, false, false] rfl rfl (by kernel_rfl) (fun _ _ _ h_ => h_) rfl (fun w_ => xr_nilCheck ⟨g0, 0, none⟩ rfl rfl) ?_
                            simp only [ls0, ls1]
                            refine al_pure 3 81 (.pointer (some ⟨g0, 66, none⟩)) #[true, true, true, true, false, false, false, false, false, false, false, false, false, false] rfl rfl (by kernel_rfl) (fun _ _ _ h_ => h_) rfl (fun w_ => xr_fieldAddr (.pointer (some ⟨g0, 0, none⟩)) (.pointer (some ⟨g0, 66, none⟩)) rfl rfl (bx_field2 Try.underlying47 rfl rfl (by kernel_rfl))) ?_
                            simp only [ls0, ls1]
                            by_cases c4239 : 0 ≤ x4143
                            · rw [if_pos c4239] at H
                              by_cases c4240 : x4143 < 64
                              · rw [if_pos c4240] at H
                                refine al_pure 4 82 (.pointer (some ⟨g0, 66 + ((x4143 : Int).toNat), none⟩)) #[true, true, true, true, true, false, false, false, false, false, false, false, false, false] rfl rfl (by kernel_rfl) (fun _ _ _ h_ => h_) rfl (fun w_ => xr_indexAddr (.pointer (some ⟨g0, 66, none⟩)) (.int .i64 x4143) (.pointer (some ⟨g0, 66 + ((x4143 : Int).toNat), none⟩)) rfl rfl rfl (arr_index (sz := 1) Try.underlying45 (by kernel_rfl) (by first | assumption | decide | omega) (by first | assumption | decide | omega) (by omega))) ?_
                                simp only [ls0, ls1]
                                refine al_pure 6 84 (.int .i64 x4212) #[true, true, true, true, true, false, true, false, false, false, false, false, false, false] rfl rfl (by kernel_rfl) (fun _ _ _ h_ => h_) rfl (fun w_ => xr_move (.int .i64 x4212) rfl rfl) ?_
                                simp only [ls0, ls1]
                                refine al_pure 7 85 (.int .u64 (IntKind.u64.wrap (x4212))) #[true, true, true, true, true, false, true, true, false, false, false, false, false, false] rfl rfl (by kernel_rfl) (fun _ _ _ h_ => h_) rfl (fun w_ => xr_conv (.int .i64 x4212) (.int .u64 (IntKind.u64.wrap (x4212))) rfl rfl (by first | rfl | (go_simp; done) | (go_simp; rfl) | (go_simp; exact i64_w _) | (go_simp; exact i32_w _))) ?_
                                simp only [ls0, ls1]
                                by_cases c4241 : 0 ≤ (IntKind.u64.wrap (x4212))
                                · rw [if_pos c4241] at H
                                  refine al_pure 8 86 (.int .u64 (shl .u64 1 (IntKind.u64.wrap (x4212)))) #[true, true, true, true, true, false, true, true, true, false, false, false, false, false] rfl rfl (by kernel_rfl) (fun _ _ _ h_ => h_) rfl (fun w_ => xr_bin (.int .u64 1) (.int .u64 (IntKind.u64.wrap (x4212))) (.int .u64 (shl .u64 1 (IntKind.u64.wrap (x4212)))) rfl rfl rfl (B.shl_u64_u64 1 (IntKind.u64.wrap (x4212)) (by assumption))) ?_
                                  simp only [ls0, ls1]
                                  refine al_pure 10 88 (.pointer (some ⟨g0, 0, none⟩)) #[true, true, true, true, true, false, true, true, true, false, true, false, false, false] rfl rfl (by kernel_rfl) (fun _ _ _ h_ => h_) rfl (fun w_ => xr_nilCheck ⟨g0, 0, none⟩ rfl rfl) ?_
                                  simp only [ls0, ls1]
                                  refine al_pure 11 89 (.pointer (some ⟨g0, 66, none⟩)) #[true, true, true, true, true, false, true, true, true, false, true, true, false, false] rfl rfl (by kernel_rfl) (fun _ _ _ h_ => h_) rfl (fun w_ => xr_fieldAddr (.pointer (some ⟨g0, 0, none⟩)) (.pointer (some ⟨g0, 66, none⟩)) rfl rfl (bx_field2 Try.underlying47 rfl rfl (by kernel_rfl))) ?_
                                  simp only [ls0, ls1]
                                  refine al_take 5 83 (.int .u64 (List.getD x4215 ((x4143 : Int).toNat) 0)) #[true, true, true, true, true, true, true, true, true, false, true, true, false, false] rfl rfl (by kernel_rfl) (fun _ _ _ h_ => h_) rfl (fun w_ hS_ => xr_load (.pointer (some ⟨g0, 66 + ((x4143 : Int).toNat), none⟩)) (.int .u64 (List.getD x4215 ((x4143 : Int).toNat) 0)) rfl rfl (arr_load (o := 66) (N := 64) (pre := [.slice A0_0 l0_0.length c0_0, v0_1] ++ (List.map (Value.int .u64) x3856)) (post := []) (enc := (Value.int .u64)) (l := x4215) (i := (x4143 : Int).toNat) 0 Try.underlying40 rfl hS_ (by first | (simp only [List.append_assoc, List.cons_append, List.nil_append, List.append_nil]; done) | rfl) (by simp [HL3857]) HL4216 (by omega) (by omega))) (HJ4217).2 ?_
                                  simp only [ls0, ls1]
                                  refine al_pure 9 87 (.int .u64 (Go.bits .or .u64 (List.getD x4215 ((x4143 : Int).toNat) 0) (shl .u64 1 (IntKind.u64.wrap (x4212))))) #[true, true, true, true, true, true, true, true, true, true, true, true, false, false] rfl rfl (by kernel_rfl) (fun _ _ _ h_ => h_) rfl (fun w_ => xr_bin (.int .u64 (List.getD x4215 ((x4143 : Int).toNat) 0)) (.int .u64 (shl .u64 1 (IntKind.u64.wrap (x4212)))) (.int .u64 (Go.bits .or .u64 (List.getD x4215 ((x4143 : Int).toNat) 0) (shl .u64 1 (IntKind.u64.wrap (x4212))))) rfl rfl rfl (B.or_u64 (List.getD x4215 ((x4143 : Int).toNat) 0) (shl .u64 1 (IntKind.u64.wrap (x4212))))) ?_
                                  simp only [ls0, ls1]
                                  refine al_pure 12 90 (.pointer (some ⟨g0, 66 + ((x4143 : Int).toNat), none⟩)) #[true, true, true, true, true, true, true, true, true, true, true, true, true, false] rfl rfl (by kernel_rfl) (fun _ _ _ h_ => h_) rfl (fun w_ => xr_indexAddr (.pointer (some ⟨g0, 66, none⟩)) (.int .i64 x4143) (.pointer (some ⟨g0, 66 + ((x4143 : Int).toNat), none⟩)) rfl rfl rfl (arr_index (sz := 1) Try.underlying45 (by kernel_rfl) (by first | assumption | decide | omega) (by first | assumption | decide | omega) (by omega))) ?_
                                  simp only [ls0, ls1]
                                  obtain ⟨y4242, A4243, H⟩ := Option.bind_eq_some_iff.mp H
                                  (try dsimp only at H)
                                  refine al_last 13 #[true, true, true, true, true, true, true, true, true, true, true, true, true, true] rfl rfl (by kernel_rfl) rfl (fun K_ hK_ => ?_)
                                  refine arr_store_step (C := C4219) (z := 1) (g := g0) (tb := 47) (of := 66) (N := 64) (pre := [.slice A0_0 l0_0.length c0_0, v0_1] ++ (List.map (Value.int .u64) x3856)) (post := []) (enc := (Value.int .u64)) (l0 := x4215) (i := (x4143 : Int).toNat) (Go.bits .or .u64 (List.getD x4215 ((x4143 : Int).toNat) 0) (shl .u64 1 (IntKind.u64.wrap (x4212)))) rfl rfl rfl rfl rfl rfl (by kernel_rfl) rfl HJ4217 (by first | (simp only [List.append_assoc, List.cons_append, List.nil_append, List.append_nil]; done) | rfl) (by simp [HL3857]) HL4216 (by omega) (by omega) (Option.some.inj A4243) (xs' := [.slice A0_0 l0_0.length c0_0, v0_1] ++ (List.map (Value.int .u64) x3856 ++ (List.map (Value.int .u64) y4242))) (by first | (simp only [List.append_assoc, List.cons_append, List.nil_append, List.append_nil]; done) | rfl) ?_
                                  intro w4244 HX4245 HL4247 hs4246
                                  replace HJ4213 := HJ4213.thru hs4246 rfl
                                  replace HJ4214 := HJ4214.thru hs4246 rfl
                                  replace HS4222 := HS4222.trans hs4246 hc rfl
                                  refine hK_ _ _ ?_
                                  clear hK_ K_
                                  (try simp only [Act.put, List.setIfInBounds_toArray, ls0, ls1])
                                  refine al_end (by kernel_rfl) ?_
                                  (try simp only [Act.put, List.setIfInBounds_toArray, ls0, ls1])
                                  refine hK4231 _ _ ?_
                                  (try clear hK4231 K4231)
                                  refine wl_region ?_
                                  refine st (.int .i64 (wrap64 (x4212 + 1))) rfl rfl (xr_bin (.int .i64 x4212) (.int .i64 1) (.int .i64 (wrap64 (x4212 + 1))) rfl rfl rfl (B.add_i64 x4212 1)) ?_
                                  simp only [ls0, ls1]
                                  refine st (.int .i64 (wrap64 (x4212 + 1))) rfl rfl (xr_move (.int .i64 (wrap64 (x4212 + 1))) rfl rfl) ?_
                                  simp only [ls0, ls1]
                                  refine wl_end ?_
                                  (try simp only [Act.put, List.setIfInBounds_toArray, ls0, ls1])
                                  exact ih4224 k4227 (by omega) _ _ ⟨_, wrap64 (x4212 + 1), y4242, (fun q_ => List.getD [undef, (g4218 1), (g4218 2), (g4218 3), undef, .int .i64 x4212, (g4218 6), (g4218 7), (g4218 8), (g4218 9), (g4218 10), (g4218 11), (g4218 12), (g4218 13), (g4218 14), (g4218 15), (g4218 16), (g4218 17), (g4218 18), (g4218 19), (g4218 20), (g4218 21), (g4218 22), (g4218 23), (g4218 24), (g4218 25), (g4218 26), (g4218 27), (g4218 28), (g4218 29), (g4218 30), (g4218 31), (g4218 32), (g4218 33), (g4218 34), (g4218 35), (g4218 36), (g4218 37), (g4218 38), (g4218 39), (g4218 40), (g4218 41), (g4218 42), (g4218 43), (g4218 44), (g4218 45), (g4218 46), (g4218 47), (g4218 48), (g4218 49), (g4218 50), (g4218 51), (g4218 52), (g4218 53), (g4218 54), undef, undef, (g4218 57), (g4218 58), (g4218 59), (g4218 60), (g4218 61), (g4218 62), undef, undef, .bool true, .int .i64 x4212, .pointer (some ⟨g0, 0, none⟩), .int .i64 x4212, .pointer (some ⟨g0, 0, none⟩), .pointer (some ⟨g0, 2, none⟩), .pointer (some ⟨g0, 2 + ((x4212 : Int).toNat), none⟩), .int .u64 (List.getD x3856 ((x4212 : Int).toNat) 0), .int .i64 x4143, .int .u64 (IntKind.u64.wrap (x4143)), .int .u64 (shr .u64 (List.getD x3856 ((x4212 : Int).toNat) 0) (IntKind.u64.wrap (x4143))), .int .u64 (Go.bits .and .u64 (shr .u64 (List.getD x3856 ((x4212 : Int).toNat) 0) (IntKind.u64.wrap (x4143))) 1), .bool true, .pointer (some ⟨g0, 0, none⟩), .int .i64 x4143, .pointer (some ⟨g0, 0, none⟩), .pointer (some ⟨g0, 66, none⟩), .pointer (some ⟨g0, 66 + ((x4143 : Int).toNat), none⟩), .int .u64 (List.getD x4215 ((x4143 : Int).toNat) 0), .int .i64 x4212, .int .u64 (IntKind.u64.wrap (x4212)), .int .u64 (shl .u64 1 (IntKind.u64.wrap (x4212))), .int .u64 (Go.bits .or .u64 (List.getD x4215 ((x4143 : Int).toNat) 0) (shl .u64 1 (IntKind.u64.wrap (x4212)))), .pointer (some ⟨g0, 0, none⟩), .pointer (some ⟨g0, 66, none⟩), .pointer (some ⟨g0, 66 + ((x4143 : Int).toNat), none⟩), .int .i64 (wrap64 (x4212 + 1)), (g4218 92)] q_ undef), rfl, HS4222, (by omega), HJ4213, HJ4214, HL4247, HX4245, H⟩
                                · rw [if_neg c4241] at H
                                  exact absurd H (by simp)
                              · rw [if_neg c4240] at H
                                exact absurd H (by simp)
                            · rw [if_neg c4239] at H
                              exact absurd H (by simp)
                          · rw [if_neg c4237] at H
                            (try rw [(decide_eq_false c4237)])
                            (try simp only [Bool.not_true, Bool.not_false])
                            refine wp_cond_false rfl ?_
                            refine wp_skip ?_
                            (try simp only [Act.put, List.setIfInBounds_toArray, ls0, ls1])
                            refine hK4231 _ _ ?_
                            (try clear hK4231 K4231)
                            refine wl_region ?_
                            refine st (.int .i64 (wrap64 (x4212 + 1))) rfl rfl (xr_bin (.int .i64 x4212) (.int .i64 1) (.int .i64 (wrap64 (x4212 + 1))) rfl rfl rfl (B.add_i64 x4212 1)) ?_
                            simp only [ls0, ls1]
                            refine st (.int .i64 (wrap64 (x4212 + 1))) rfl rfl (xr_move (.int .i64 (wrap64 (x4212 + 1))) rfl rfl) ?_
                            simp only [ls0, ls1]
                            refine wl_end ?_
                            (try simp only [Act.put, List.setIfInBounds_toArray, ls0, ls1])
                            exact ih4224 k4227 (by omega) _ _ ⟨_, wrap64 (x4212 + 1), x4215, (fun q_ => List.getD [undef, (g4218 1), (g4218 2), (g4218 3), undef, .int .i64 x4212, (g4218 6), (g4218 7), (g4218 8), (g4218 9), (g4218 10), (g4218 11), (g4218 12), (g4218 13), (g4218 14), (g4218 15), (g4218 16), (g4218 17), (g4218 18), (g4218 19), (g4218 20), (g4218 21), (g4218 22), (g4218 23), (g4218 24), (g4218 25), (g4218 26), (g4218 27), (g4218 28), (g4218 29), (g4218 30), (g4218 31), (g4218 32), (g4218 33), (g4218 34), (g4218 35), (g4218 36), (g4218 37), (g4218 38), (g4218 39), (g4218 40), (g4218 41), (g4218 42), (g4218 43), (g4218 44), (g4218 45), (g4218 46), (g4218 47), (g4218 48), (g4218 49), (g4218 50), (g4218 51), (g4218 52), (g4218 53), (g4218 54), undef, undef, (g4218 57), (g4218 58), (g4218 59), (g4218 60), (g4218 61), (g4218 62), undef, undef, .bool true, .int .i64 x4212, .pointer (some ⟨g0, 0, none⟩), .int .i64 x4212, .pointer (some ⟨g0, 0, none⟩), .pointer (some ⟨g0, 2, none⟩), .pointer (some ⟨g0, 2 + ((x4212 : Int).toNat), none⟩), .int .u64 (List.getD x3856 ((x4212 : Int).toNat) 0), .int .i64 x4143, .int .u64 (IntKind.u64.wrap (x4143)), .int .u64 (shr .u64 (List.getD x3856 ((x4212 : Int).toNat) 0) (IntKind.u64.wrap (x4143))), .int .u64 (Go.bits .and .u64 (shr .u64 (List.getD x3856 ((x4212 : Int).toNat) 0) (IntKind.u64.wrap (x4143))) 1), .bool false, (g4218 78), (g4218 79), (g4218 80), (g4218 81), (g4218 82), (g4218 83), (g4218 84), (g4218 85), (g4218 86), (g4218 87), (g4218 88), (g4218 89), (g4218 90), .int .i64 (wrap64 (x4212 + 1)), (g4218 92)] q_ undef), rfl, HS4222, (by omega), HJ4213, HJ4214, HL4216, HJ4217, H⟩
                        · rw [if_neg c4236] at H
                          exact absurd H (by simp)
                      · rw [if_neg c4235] at H
                        exact absurd H (by simp)
                    · rw [if_neg c4234] at H
                      exact absurd H (by simp)
                  · rw [if_neg c4230] at H
                    (try rw [(decide_eq_false c4230)])
                    (try simp only [Bool.not_true, Bool.not_false])
                    refine wp_cond_false rfl ?_
                    refine wp_exit ?_
                    (try simp only [Act.put, List.setIfInBounds_toArray, ls0, ls1])
                    refine hK4162 _ _ ?_
                    (try clear hK4162 K4162)
                    refine wl_region ?_
                    refine st (.int .i64 (wrap64 (x4143 + 1))) rfl rfl (xr_bin (.int .i64 x4143) (.int .i64 1) (.int .i64 (wrap64 (x4143 + 1))) rfl rfl rfl (B.add_i64 x4143 1)) ?_
                    simp only [ls0, ls1]
                    refine st (.int .i64 (wrap64 (x4143 + 1))) rfl rfl (xr_move (.int .i64 (wrap64 (x4143 + 1))) rfl rfl) ?_
                    simp only [ls0, ls1]
                    refine wl_end ?_
                    (try simp only [Act.put, List.setIfInBounds_toArray, ls0, ls1])
                    exact ih4155 k4227 (by omega) _ _ ⟨_, wrap64 (x4143 + 1), x4215, (fun q_ => List.getD [undef, (g4218 1), (g4218 2), (g4218 3), .int .i64 x4143, (g4218 5), (g4218 6), (g4218 7), (g4218 8), (g4218 9), (g4218 10), (g4218 11), (g4218 12), (g4218 13), (g4218 14), (g4218 15), (g4218 16), (g4218 17), (g4218 18), (g4218 19), (g4218 20), (g4218 21), (g4218 22), (g4218 23), (g4218 24), (g4218 25), (g4218 26), (g4218 27), (g4218 28), (g4218 29), (g4218 30), (g4218 31), (g4218 32), (g4218 33), (g4218 34), (g4218 35), (g4218 36), (g4218 37), (g4218 38), (g4218 39), (g4218 40), (g4218 41), (g4218 42), (g4218 43), (g4218 44), (g4218 45), (g4218 46), (g4218 47), (g4218 48), (g4218 49), (g4218 50), (g4218 51), (g4218 52), (g4218 53), (g4218 54), undef, undef, (g4218 57), (g4218 58), (g4218 59), (g4218 60), (g4218 61), (g4218 62), .int .i64 (l0_0.length : Int), .int .i64 x4212, .bool false, (g4218 66), (g4218 67), (g4218 68), (g4218 69), (g4218 70), (g4218 71), (g4218 72), (g4218 73), (g4218 74), (g4218 75), (g4218 76), (g4218 77), (g4218 78), (g4218 79), (g4218 80), (g4218 81), (g4218 82), (g4218 83), (g4218 84), (g4218 85), (g4218 86), (g4218 87), (g4218 88), (g4218 89), (g4218 90), (g4218 91), .int .i64 (wrap64 (x4143 + 1))] q_ undef), rfl, HS4222, (by omega), HJ4213, HJ4214, HL4216, HJ4217, H⟩
            · rw [if_neg c4161] at H
              (try rw [(decide_eq_false c4161)])
              (try simp only [Bool.not_true, Bool.not_false])
              refine wp_cond_false rfl ?_
              refine wp_exit ?_
              (try simp only [Exit.inBlock, Exit.then, Exit.noGoto, if_true, if_pos])
              (try simp only [Act.put, List.setIfInBounds_toArray, ls0, ls1])
              simp only [Option.some.injEq, Prod.mk.injEq] at H
              obtain ⟨rfl, rfl⟩ := H
              refine bodyPost_end (results_none rfl _ _ _) rfl ?_
              exact ⟨_, rfl, HS4153, HL3857, HL4147, HJ4148⟩

end Go.Proofs.Ytpfepkkpbampkaa.POrd
