-- By cprint.py, a program of this work. Lean checks it.
import Derived.Test.YteoccoklbmjiaaaPStnx0
namespace Go.Proofs.Yteoccoklbmjiaaa.PStn
open Go.RowKit Go.Proofs.YteoccoklbmjiaaaW.PrintWords Go.Proofs.YteoccoklbmjiaaaW.PrintLast Go.Proofs.YteoccoklbmjiaaaW.PrintMore
set_option linter.unusedVariables false
set_option linter.unusedSimpArgs false

/-! ### lex_letter: function 73 -/
def lex_letter.f (a0 : Int) : Option (Bool) := if (Go.bits .or .u8 a0 32) ≥ 97 then (if (Go.bits .or .u8 a0 32) ≤ 122 then (some true) else (some (decide (a0 = 95)))) else (some (decide (a0 = 95)))
set_option maxHeartbeats 8000000 in
set_option maxRecDepth 100000 in
theorem lex_letter.calls (a0 : Int) (r : Bool) (c : Nat → Nat) (w : World) (hc : ∀ k, c k < 10)  (H : lex_letter.f a0 = some r) :
    Calls Try.prog 73 #[.int .u8 a0] w fun e w' => ∃ (c' : Nat → Nat) , e = .returned (.bool r) ∧ Step c w c' w' [] := by
 unfold lex_letter.f at H
 have HS := Step.refl c w []
 go_enter Try.func73, Try.ntmps73
 refine wp_seq_k fun K5 hK5 => ?_
 refine wl_region ?_
 refine st (.bool false) rfl rfl (xr_assign _ rfl rfl) ?_
 refine wl_end ?_
 (try simp only [ls0, ls1])
 refine hK5 _ _ ?_
 (try clear hK5 K5)
 refine wp_seq_k fun K6 hK6 => ?_
 refine wl_region ?_
 refine mv_ rfl ?_
 refine st (.int .u8 (Go.bits .or .u8 a0 32)) rfl rfl (xr_bin _ _ _ rfl rfl rfl (B.or_u8 _ _)) ?_
 refine st (.bool (decide ((Go.bits .or .u8 a0 32) ≥ 97))) rfl rfl (xr_bin _ _ _ rfl rfl rfl (B.geq_u8 _ _)) ?_
 refine mv_ rfl ?_
 simp only [ls0, ls1]
 by_cases c7 : (Go.bits .or .u8 a0 32) ≥ 97
 ·rw [if_pos c7] at H
  (try rw [(decide_eq_true c7)])
  refine on_guard (guard_on 3 true 6 rfl rfl rfl) ?_
  refine mv_ rfl ?_
  refine on_guard (guard_on 3 true 6 rfl rfl rfl) ?_
  refine st (.int .u8 (Go.bits .or .u8 a0 32)) rfl rfl (xr_bin _ _ _ rfl rfl rfl (B.or_u8 _ _)) ?_
  refine on_guard (guard_on 3 true 6 rfl rfl rfl) ?_
  refine st (.bool (decide ((Go.bits .or .u8 a0 32) ≤ 122))) rfl rfl (xr_bin _ _ _ rfl rfl rfl (B.leq_u8 _ _)) ?_
  refine st (.bool (decide ((Go.bits .or .u8 a0 32) ≤ 122))) rfl rfl (xr_pick true _ rfl rfl rfl) ?_
  simp only [ls0, ls1]
  refine mv_ rfl ?_
  by_cases c8 : (Go.bits .or .u8 a0 32) ≤ 122
  ·rw [if_pos c8] at H
   (try rw [(decide_eq_true c8)])
   refine sk_guard (guard_off 8 false 11 rfl rfl true (by decide) rfl) rfl ?_
   refine sk_guard (guard_off 8 false 11 rfl rfl true (by decide) rfl) rfl ?_
   refine st (.bool true) rfl rfl (xr_pick true _ rfl rfl rfl) ?_
   simp only [ls0, ls1]
   refine as_ rfl ?_
   refine wl_end ?_
   (try simp only [ls0, ls1])
   refine hK6 _ _ ?_
   (try clear hK6 K6)
   refine wp_ret ?_
   (try simp only [Exit.inBlock, Exit.then, Exit.noGoto])
   (try simp only [ls0, ls1])
   obtain rfl := Option.some.inj H
   refine bodyPost_ret (results_tmp rfl _ _ _) rfl ?_
   exact ⟨_, rfl, HS⟩
  rw [if_neg c8] at H
  (try rw [(decide_eq_false c8)])
  refine on_guard (guard_on 8 false 11 rfl rfl rfl) ?_
  refine mv_ rfl ?_
  refine on_guard (guard_on 8 false 11 rfl rfl rfl) ?_
  refine st (.bool (decide (a0 = 95))) rfl rfl (xr_bin _ _ _ rfl rfl rfl (B.eql_u8 _ _)) ?_
  refine st (.bool (decide (a0 = 95))) rfl rfl (xr_pick false _ rfl rfl rfl) ?_
  refine as_ rfl ?_
  simp only [ls0, ls1]
  refine wl_end ?_
  (try simp only [ls0, ls1])
  refine hK6 _ _ ?_
  (try clear hK6 K6)
  refine wp_ret ?_
  (try simp only [Exit.inBlock, Exit.then, Exit.noGoto])
  (try simp only [ls0, ls1])
  obtain rfl := Option.some.inj H
  refine bodyPost_ret (results_tmp rfl _ _ _) rfl ?_
  exact ⟨_, rfl, HS⟩
 rw [if_neg c7] at H
 (try rw [(decide_eq_false c7)])
 refine sk_guard (guard_off 3 true 6 rfl rfl false (by decide) rfl) rfl ?_
 refine sk_guard (guard_off 3 true 6 rfl rfl false (by decide) rfl) rfl ?_
 refine sk_guard (guard_off 3 true 6 rfl rfl false (by decide) rfl) rfl ?_
 refine st (.bool false) rfl rfl (xr_pick false _ rfl rfl rfl) ?_
 simp only [ls0, ls1]
 refine mv_ rfl ?_
 refine on_guard (guard_on 8 false 11 rfl rfl rfl) ?_
 refine mv_ rfl ?_
 refine on_guard (guard_on 8 false 11 rfl rfl rfl) ?_
 refine st (.bool (decide (a0 = 95))) rfl rfl (xr_bin _ _ _ rfl rfl rfl (B.eql_u8 _ _)) ?_
 refine st (.bool (decide (a0 = 95))) rfl rfl (xr_pick false _ rfl rfl rfl) ?_
 simp only [ls0, ls1]
 refine as_ rfl ?_
 refine wl_end ?_
 (try simp only [ls0, ls1])
 refine hK6 _ _ ?_
 (try clear hK6 K6)
 refine wp_ret ?_
 (try simp only [Exit.inBlock, Exit.then, Exit.noGoto])
 (try simp only [ls0, ls1])
 obtain rfl := Option.some.inj H
 refine bodyPost_ret (results_tmp rfl _ _ _) rfl ?_
 exact ⟨_, rfl, HS⟩

/-! ### lex_digit: function 76 -/
def lex_digit.f (a0 : Int) : Option (Bool) := if a0 ≥ 48 then (some (decide (a0 ≤ 57))) else (some false)
set_option maxHeartbeats 8000000 in
set_option maxRecDepth 100000 in
theorem lex_digit.calls (a0 : Int) (r : Bool) (c : Nat → Nat) (w : World) (hc : ∀ k, c k < 10)  (H : lex_digit.f a0 = some r) :
    Calls Try.prog 76 #[.int .u8 a0] w fun e w' => ∃ (c' : Nat → Nat) , e = .returned (.bool r) ∧ Step c w c' w' [] := by
 unfold lex_digit.f at H
 have HS := Step.refl c w []
 go_enter Try.func76, Try.ntmps76
 refine wp_seq_k fun K4 hK4 => ?_
 refine wl_region ?_
 refine st (.bool false) rfl rfl (xr_assign _ rfl rfl) ?_
 refine wl_end ?_
 (try simp only [ls0, ls1])
 refine hK4 _ _ ?_
 (try clear hK4 K4)
 refine wp_seq_k fun K5 hK5 => ?_
 refine wl_region ?_
 refine mv_ rfl ?_
 refine st (.bool (decide (a0 ≥ 48))) rfl rfl (xr_bin _ _ _ rfl rfl rfl (B.geq_u8 _ _)) ?_
 refine mv_ rfl ?_
 by_cases c6 : a0 ≥ 48
 ·rw [if_pos c6] at H
  (try rw [(decide_eq_true c6)])
  refine on_guard (guard_on 2 true 5 rfl rfl rfl) ?_
  refine mv_ rfl ?_
  simp only [ls0, ls1]
  refine on_guard (guard_on 2 true 5 rfl rfl rfl) ?_
  refine st (.bool (decide (a0 ≤ 57))) rfl rfl (xr_bin _ _ _ rfl rfl rfl (B.leq_u8 _ _)) ?_
  refine st (.bool (decide (a0 ≤ 57))) rfl rfl (xr_pick true _ rfl rfl rfl) ?_
  refine as_ rfl ?_
  refine wl_end ?_
  (try simp only [ls0, ls1])
  refine hK5 _ _ ?_
  (try clear hK5 K5)
  refine wp_ret ?_
  (try simp only [Exit.inBlock, Exit.then, Exit.noGoto])
  (try simp only [ls0, ls1])
  obtain rfl := Option.some.inj H
  refine bodyPost_ret (results_tmp rfl _ _ _) rfl ?_
  exact ⟨_, rfl, HS⟩
 rw [if_neg c6] at H
 (try rw [(decide_eq_false c6)])
 refine sk_guard (guard_off 2 true 5 rfl rfl false (by decide) rfl) rfl ?_
 refine sk_guard (guard_off 2 true 5 rfl rfl false (by decide) rfl) rfl ?_
 refine st (.bool false) rfl rfl (xr_pick false _ rfl rfl rfl) ?_
 refine as_ rfl ?_
 simp only [ls0, ls1]
 refine wl_end ?_
 (try simp only [ls0, ls1])
 refine hK5 _ _ ?_
 (try clear hK5 K5)
 refine wp_ret ?_
 (try simp only [Exit.inBlock, Exit.then, Exit.noGoto])
 (try simp only [ls0, ls1])
 obtain rfl := Option.some.inj H
 refine bodyPost_ret (results_tmp rfl _ _ _) rfl ?_
 exact ⟨_, rfl, HS⟩

/-! ### lex_blank: function 93 -/
def lex_blank.f (a0 : Int) : Option (Bool) := if a0 = 32 then (some true) else (if a0 = 9 then (some true) else (if a0 = 10 then (some true) else (some (decide (a0 = 13)))))
set_option maxHeartbeats 8000000 in
set_option maxRecDepth 100000 in
theorem lex_blank.calls (a0 : Int) (r : Bool) (c : Nat → Nat) (w : World) (hc : ∀ k, c k < 10)  (H : lex_blank.f a0 = some r) :
    Calls Try.prog 93 #[.int .u8 a0] w fun e w' => ∃ (c' : Nat → Nat) , e = .returned (.bool r) ∧ Step c w c' w' [] := by
 unfold lex_blank.f at H
 have HS := Step.refl c w []
 go_enter Try.func93, Try.ntmps93
 refine wp_seq_k fun K6 hK6 => ?_
 refine wl_region ?_
 refine st (.bool false) rfl rfl (xr_assign _ rfl rfl) ?_
 refine wl_end ?_
 (try simp only [ls0, ls1])
 refine hK6 _ _ ?_
 (try clear hK6 K6)
 refine wp_seq_k fun K7 hK7 => ?_
 refine wl_region ?_
 refine mv_ rfl ?_
 refine st (.bool (decide (a0 = 32))) rfl rfl (xr_bin _ _ _ rfl rfl rfl (B.eql_u8 _ _)) ?_
 refine mv_ rfl ?_
 by_cases c8 : a0 = 32
 ·rw [if_pos c8] at H
  (try rw [(decide_eq_true c8)])
  refine sk_guard (guard_off 2 false 5 rfl rfl true (by decide) rfl) rfl ?_
  simp only [ls0, ls1]
  refine sk_guard (guard_off 2 false 5 rfl rfl true (by decide) rfl) rfl ?_
  refine st (.bool true) rfl rfl (xr_pick true _ rfl rfl rfl) ?_
  refine mv_ rfl ?_
  refine sk_guard (guard_off 6 false 9 rfl rfl true (by decide) rfl) rfl ?_
  simp only [ls0, ls1]
  refine sk_guard (guard_off 6 false 9 rfl rfl true (by decide) rfl) rfl ?_
  refine st (.bool true) rfl rfl (xr_pick true _ rfl rfl rfl) ?_
  refine mv_ rfl ?_
  refine sk_guard (guard_off 10 false 13 rfl rfl true (by decide) rfl) rfl ?_
  simp only [ls0, ls1]
  refine sk_guard (guard_off 10 false 13 rfl rfl true (by decide) rfl) rfl ?_
  refine st (.bool true) rfl rfl (xr_pick true _ rfl rfl rfl) ?_
  refine as_ rfl ?_
  refine wl_end ?_
  (try simp only [ls0, ls1])
  refine hK7 _ _ ?_
  (try clear hK7 K7)
  refine wp_ret ?_
  (try simp only [Exit.inBlock, Exit.then, Exit.noGoto])
  (try simp only [ls0, ls1])
  obtain rfl := Option.some.inj H
  refine bodyPost_ret (results_tmp rfl _ _ _) rfl ?_
  exact ⟨_, rfl, HS⟩
 rw [if_neg c8] at H
 (try rw [(decide_eq_false c8)])
 refine on_guard (guard_on 2 false 5 rfl rfl rfl) ?_
 refine mv_ rfl ?_
 refine on_guard (guard_on 2 false 5 rfl rfl rfl) ?_
 refine st (.bool (decide (a0 = 9))) rfl rfl (xr_bin _ _ _ rfl rfl rfl (B.eql_u8 _ _)) ?_
 refine st (.bool (decide (a0 = 9))) rfl rfl (xr_pick false _ rfl rfl rfl) ?_
 refine mv_ rfl ?_
 simp only [ls0, ls1]
 by_cases c9 : a0 = 9
 ·rw [if_pos c9] at H
  (try rw [(decide_eq_true c9)])
  refine sk_guard (guard_off 6 false 9 rfl rfl true (by decide) rfl) rfl ?_
  refine sk_guard (guard_off 6 false 9 rfl rfl true (by decide) rfl) rfl ?_
  refine st (.bool true) rfl rfl (xr_pick true _ rfl rfl rfl) ?_
  refine mv_ rfl ?_
  simp only [ls0, ls1]
  refine sk_guard (guard_off 10 false 13 rfl rfl true (by decide) rfl) rfl ?_
  refine sk_guard (guard_off 10 false 13 rfl rfl true (by decide) rfl) rfl ?_
  refine st (.bool true) rfl rfl (xr_pick true _ rfl rfl rfl) ?_
  refine as_ rfl ?_
  simp only [ls0, ls1]
  refine wl_end ?_
  (try simp only [ls0, ls1])
  refine hK7 _ _ ?_
  (try clear hK7 K7)
  refine wp_ret ?_
  (try simp only [Exit.inBlock, Exit.then, Exit.noGoto])
  (try simp only [ls0, ls1])
  obtain rfl := Option.some.inj H
  refine bodyPost_ret (results_tmp rfl _ _ _) rfl ?_
  exact ⟨_, rfl, HS⟩
 rw [if_neg c9] at H
 (try rw [(decide_eq_false c9)])
 refine on_guard (guard_on 6 false 9 rfl rfl rfl) ?_
 refine mv_ rfl ?_
 refine on_guard (guard_on 6 false 9 rfl rfl rfl) ?_
 refine st (.bool (decide (a0 = 10))) rfl rfl (xr_bin _ _ _ rfl rfl rfl (B.eql_u8 _ _)) ?_
 refine st (.bool (decide (a0 = 10))) rfl rfl (xr_pick false _ rfl rfl rfl) ?_
 refine mv_ rfl ?_
 simp only [ls0, ls1]
 by_cases c10 : a0 = 10
 ·rw [if_pos c10] at H
  (try rw [(decide_eq_true c10)])
  refine sk_guard (guard_off 10 false 13 rfl rfl true (by decide) rfl) rfl ?_
  refine sk_guard (guard_off 10 false 13 rfl rfl true (by decide) rfl) rfl ?_
  refine st (.bool true) rfl rfl (xr_pick true _ rfl rfl rfl) ?_
  refine as_ rfl ?_
  simp only [ls0, ls1]
  refine wl_end ?_
  (try simp only [ls0, ls1])
  refine hK7 _ _ ?_
  (try clear hK7 K7)
  refine wp_ret ?_
  (try simp only [Exit.inBlock, Exit.then, Exit.noGoto])
  (try simp only [ls0, ls1])
  obtain rfl := Option.some.inj H
  refine bodyPost_ret (results_tmp rfl _ _ _) rfl ?_
  exact ⟨_, rfl, HS⟩
 rw [if_neg c10] at H
 (try rw [(decide_eq_false c10)])
 refine on_guard (guard_on 10 false 13 rfl rfl rfl) ?_
 refine mv_ rfl ?_
 refine on_guard (guard_on 10 false 13 rfl rfl rfl) ?_
 refine st (.bool (decide (a0 = 13))) rfl rfl (xr_bin _ _ _ rfl rfl rfl (B.eql_u8 _ _)) ?_
 refine st (.bool (decide (a0 = 13))) rfl rfl (xr_pick false _ rfl rfl rfl) ?_
 refine as_ rfl ?_
 simp only [ls0, ls1]
 refine wl_end ?_
 (try simp only [ls0, ls1])
 refine hK7 _ _ ?_
 (try clear hK7 K7)
 refine wp_ret ?_
 (try simp only [Exit.inBlock, Exit.then, Exit.noGoto])
 (try simp only [ls0, ls1])
 obtain rfl := Option.some.inj H
 refine bodyPost_ret (results_tmp rfl _ _ _) rfl ?_
 exact ⟨_, rfl, HS⟩

/-! ### slices_Index_string_string: function 112 -/
def slices_Index_string_string.l0 : Nat → ByteArray → (List ByteArray) → Int → Option (Int)
  | 0, _, _, _ => none
  | k + 1, a1, l0, x81 => if x81 < (l0.length : Int) then (if 0 ≤ x81 then (if a1 = (rdOf ByteArray.empty l0 x81) then (some x81) else (slices_Index_string_string.l0 k a1 l0 (wrap64 (x81 + 1)))) else (none)) else (some (-1))
def slices_Index_string_string.f (k : Nat) (l0 : List ByteArray) (a1 : ByteArray) : Option (Int) := slices_Index_string_string.l0 k a1 l0 0

set_option maxHeartbeats 8000000 in
set_option maxRecDepth 100000 in
theorem slices_Index_string_string.calls (k : Nat) (A0 : Option Addr) (c0 : Nat) (l0 : List ByteArray) (a1 : ByteArray) (r : Int) (c : Nat → Nat) (w : World) (hc : ∀ k, c k < 10) (HP0 : Ft c [0] w (fun w_ => Kd.string.C w_ A0 l0.length l0)) (HCP0 : l0.length ≤ c0) (H : slices_Index_string_string.f k l0 a1 = some r) :
    Calls Try.prog 112 #[.slice A0 l0.length c0, .string a1] w fun e w' => ∃ (c' : Nat → Nat) , e = .returned (.int .i64 r) ∧ Step c w c' w' [] := by
 unfold slices_Index_string_string.f at H
 have HS := Step.refl c w []
 go_enter Try.func112, Try.ntmps112
 refine wp_seq_k fun K52 hK52 => ?_
 refine wl_region ?_
 refine st (.int .i64 0) rfl rfl (xr_assign _ rfl rfl) ?_
 refine wl_end ?_
 (try simp only [ls0, ls1])
 refine hK52 _ _ ?_
 (try clear hK52 K52)
 refine wp_seq_k fun K53 hK53 => ?_
 refine wp_seq_k fun K54 hK54 => ?_
 refine wl_region ?_
 refine mv_ rfl ?_
 refine st (.int .i64 (l0.length : Int)) rfl rfl (xr_builtin #[.slice A0 l0.length c0] (.int .i64 (l0.length : Int)) rfl (mp_ rfl) (by first | rfl | (go_simp; done) | (go_simp; rfl) | (go_simp; exact i64_w _) | (go_simp; exact i32_w _))) ?_
 refine st (.int .i64 0) rfl rfl (xr_move _ rfl rfl) ?_
 refine wl_end ?_
 (try simp only [ls0, ls1])
 refine hK54 _ _ ?_
 (try clear hK54 K54)
 refine wp_block ?_
 (try simp only [ls0, ls1])
 refine wp_looped (looped_fin (fun kq84 a_ w83 => ∃ (C82 : Nat → Nat) (x81 : Int) (g_ : Nat → Value), a_ = ⟨#[.slice A0 l0.length c0, .string a1, (g_ 2), (g_ 3), (g_ 4), (g_ 5), (g_ 6), .int .i64 (l0.length : Int), .int .i64 x81, (g_ 9), (g_ 10), (g_ 11), (g_ 12), (g_ 13), (g_ 14), (g_ 15), (g_ 16), (g_ 17), (g_ 18)], []⟩ ∧ Step c w C82 w83 [] ∧ kq84 ≤ k ∧ (Ft C82 [0] w83 (fun w_ => Kd.string.C w_ A0 l0.length l0)) ∧ slices_Index_string_string.l0 kq84 a1 l0 x81 = some r) ?step fun hL_ => ?init)
 case init =>
  exact jmpL (fun a_ h_ => hL_ k a_ _ h_) (fun g_ => ⟨_, 0, g_, rfl, HS, Nat.le_refl _, HP0, H⟩) rfl
 case step =>
  intro kq84 ih87 a88 w83 hr89
  obtain ⟨C82, x81, g_, rfl, HS85, hk86, HJ80, H⟩ := hr89
  refine looped_round ?_
  cases kq84 with
  | zero => exact absurd H (by simp [slices_Index_string_string.l0])
  | succ k90 =>
   simp only [slices_Index_string_string.l0] at H
   refine wp_seq_k fun K91 hK91 => ?_
   refine wl_region ?_
   refine st (.bool (decide (x81 < (l0.length : Int)))) rfl rfl (xr_bin _ _ _ rfl rfl rfl (B.lss_i64 _ _)) ?_
   refine wl_end ?_
   (try simp only [ls0, ls1])
   refine hK91 _ _ ?_
   (try clear hK91 K91)
   refine wp_seq_k fun K92 hK92 => ?_
   by_cases c93 : x81 < (l0.length : Int)
   ·rw [if_pos c93] at H
    (try rw [(decide_eq_true c93)])
    refine wp_cond_true rfl ?_
    refine wp_skip ?_
    (try simp only [ls0, ls1])
    refine hK92 _ _ ?_
    (try clear hK92 K92)
    refine wp_seq_k fun K94 hK94 => ?_
    refine wp_block ?_
    refine wp_seq_k fun K95 hK95 => ?_
    refine wl_region ?_
    refine mv_ rfl ?_
    refine as_ rfl ?_
    refine wl_end ?_
    (try simp only [ls0, ls1])
    refine hK95 _ _ ?_
    (try clear hK95 K95)
    refine wp_seq_k fun K96 hK96 => ?_
    refine wl_region ?_
    refine mv_ rfl ?_
    refine mv_ rfl ?_
    refine mv_ rfl ?_
    obtain ⟨c97, H⟩ := if_some H
    obtain ⟨ad98, hA99⟩ := c_addr (Ft.now HJ80) (pos_of (j := x81) (by first | assumption | decide) (by first | assumption | omega))
    refine st (.pointer (some (ad98.add ((x81 : Int).toNat * 1)))) rfl rfl (xr_indexAddr _ _ _ rfl rfl rfl (index_at Try.underlying105 info9 hA99 (by first | assumption | decide | omega) (by first | assumption | decide | omega))) ?_
    simp only [ls0, ls1]
    refine st (.string (rdOf ByteArray.empty l0 x81)) rfl rfl (xr_load _ _ rfl rfl (load_str Try.underlying9 rfl hA99 (Ft.now HJ80) (by first | assumption | decide | omega) (by first | assumption | decide | omega))) ?_
    refine st (.bool (decide (a1 = (rdOf ByteArray.empty l0 x81)))) rfl rfl (xr_bin _ _ _ rfl rfl rfl (B.eql_str _ _)) ?_
    refine wl_end ?_
    (try simp only [ls0, ls1])
    refine hK96 _ _ ?_
    (try clear hK96 K96)
    by_cases c100 : a1 = (rdOf ByteArray.empty l0 x81)
    ·rw [if_pos c100] at H
     (try rw [(decide_eq_true c100)])
     refine wp_cond_true rfl ?_
     refine wp_seq_k fun K101 hK101 => ?_
     refine wl_region ?_
     refine mv_ rfl ?_
     refine as_ rfl ?_
     refine wl_end ?_
     (try simp only [ls0, ls1])
     refine hK101 _ _ ?_
     (try clear hK101 K101)
     refine wp_ret ?_
     (try simp only [Exit.inBlock, Exit.then, Exit.noGoto])
     (try simp only [ls0, ls1])
     obtain rfl := Option.some.inj H
     refine bodyPost_ret (results_tmp rfl _ _ _) rfl ?_
     exact ⟨_, rfl, HS85⟩
    rw [if_neg c100] at H
    (try rw [(decide_eq_false c100)])
    refine wp_cond_false rfl ?_
    refine wp_skip ?_
    (try simp only [ls0, ls1])
    refine hK94 _ _ ?_
    (try clear hK94 K94)
    refine wl_region ?_
    refine st (.int .i64 (wrap64 (x81 + 1))) rfl rfl (xr_bin _ _ _ rfl rfl rfl (B.add_i64 _ _)) ?_
    refine mv_ rfl ?_
    refine wl_end ?_
    (try simp only [ls0, ls1])
    exact jmpL (fun a_ h_ => ih87 k90 (by omega) a_ _ h_) (fun g_ => ⟨_, wrap64 (x81 + 1), g_, rfl, HS85, (by omega), HJ80, H⟩) rfl
   rw [if_neg c93] at H
   (try rw [(decide_eq_false c93)])
   refine wp_cond_false rfl ?_
   refine wp_exit ?_
   (try simp only [ls0, ls1])
   refine hK53 _ _ ?_
   (try clear hK53 K53)
   refine wp_seq_k fun K102 hK102 => ?_
   refine wl_region ?_
   refine st (.int .i64 (-1)) rfl rfl (xr_assign _ rfl rfl) ?_
   refine wl_end ?_
   (try simp only [ls0, ls1])
   refine hK102 _ _ ?_
   (try clear hK102 K102)
   refine wp_ret ?_
   (try simp only [Exit.inBlock, Exit.then, Exit.noGoto])
   (try simp only [ls0, ls1])
   obtain rfl := Option.some.inj H
   refine bodyPost_ret (results_tmp rfl _ _ _) rfl ?_
   exact ⟨_, rfl, HS85⟩

/-! ### slices_Contains_string_string: function 96 -/
def slices_Contains_string_string.f (k : Nat) (l0 : List ByteArray) (a1 : ByteArray) : Option (Bool) := (slices_Index_string_string.f k l0 a1).bind fun t11 => (some (decide (t11 ≥ 0)))

set_option maxHeartbeats 8000000 in
set_option maxRecDepth 100000 in
theorem slices_Contains_string_string.calls (k : Nat) (A0 : Option Addr) (c0 : Nat) (l0 : List ByteArray) (a1 : ByteArray) (r : Bool) (c : Nat → Nat) (w : World) (hc : ∀ k, c k < 10) (HP0 : Ft c [0] w (fun w_ => Kd.string.C w_ A0 l0.length l0)) (HCP0 : l0.length ≤ c0) (H : slices_Contains_string_string.f k l0 a1 = some r) :
    Calls Try.prog 96 #[.slice A0 l0.length c0, .string a1] w fun e w' => ∃ (c' : Nat → Nat) , e = .returned (.bool r) ∧ Step c w c' w' [] := by
 unfold slices_Contains_string_string.f at H
 have HS := Step.refl c w []
 go_enter Try.func96, Try.ntmps96
 refine wp_seq_k fun K9 hK9 => ?_
 refine wl_region ?_
 refine st (.bool false) rfl rfl (xr_assign _ rfl rfl) ?_
 refine wl_end ?_
 (try simp only [ls0, ls1])
 refine hK9 _ _ ?_
 (try clear hK9 K9)
 refine wp_seq_k fun K10 hK10 => ?_
 refine wl_region ?_
 refine mv_ rfl ?_
 refine mv_ rfl ?_
 obtain ⟨t11, A12, H⟩ := bnd H
 refine st_call #[.slice A0 l0.length c0, .string a1] rfl rfl Try.func112 (by kernel_rfl) rfl rfl (mp_ rfl) ?_
 refine (slices_Index_string_string.calls k A0 c0 l0 a1 t11  (fun z_ => pal [(0, 0)] (c z_)) w (fun _ => pal_lt rfl _) (Ft.arg HP0 rfl) HCP0 A12).mono ?_
 rintro _ w14 ⟨C15, rfl, hs16⟩
 refine ⟨_, rfl, ?_⟩
 replace hs16 := Step.lift (U := [(0, 0)]) hs16 [] rfl rfl
 generalize up c C15 w.heap.size [(0, 0)] = C15_ at hs16
 replace HS := HS.trans hs16 hc rfl
 (try simp only [ls0, ls1])
 refine st (.bool (decide (t11 ≥ 0))) rfl rfl (xr_bin _ _ _ rfl rfl rfl (B.geq_i64 _ _)) ?_
 refine as_ rfl ?_
 refine wl_end ?_
 (try simp only [ls0, ls1])
 refine hK10 _ _ ?_
 (try clear hK10 K10)
 refine wp_ret ?_
 (try simp only [Exit.inBlock, Exit.then, Exit.noGoto])
 (try simp only [ls0, ls1])
 obtain rfl := Option.some.inj H
 refine bodyPost_ret (results_tmp rfl _ _ _) rfl ?_
 exact ⟨_, rfl, HS⟩

/-! ### strings_IndexByte: function 97 -/
def strings_IndexByte.f (a0 : ByteArray) (a1 : Int) : Option (Int) := some (Lib.indexByte a0.data.toList a1.toNat.toUInt8)
theorem strings_IndexByte.calls (a0 : ByteArray) (a1 : Int) (r : Int) (c : Nat → Nat) (w : World) (hc : ∀ k, c k < 10) (H : strings_IndexByte.f a0 a1 = some r) :
    Calls Try.prog 97 #[.string a0, .int .u8 a1] w fun e w' => ∃ (c' : Nat → Nat), e = .returned (.int .i64 r) ∧ Step c w c' w' [] := by
  unfold strings_IndexByte.f at H
  obtain rfl := Option.some.inj H
  exact (Try.strings_IndexByte a0 a1 w).mono fun e w' ⟨he, hw⟩ => ⟨c, he, hw ▸ Step.refl _ _ _⟩

/-! ### lex_run_lex_blank: function 74 -/
mutual
def lex_run_lex_blank.j0 : Nat → (List Int) → Int → Bool → Option (Int)
  | 0, _, _, _ => none
  | k + 1, l0, x186, x213 => if x213 = true then (lex_run_lex_blank.l0 k l0 (wrap64 (x186 + 1))) else (some x186)
def lex_run_lex_blank.l0 : Nat → (List Int) → Int → Option (Int)
  | 0, _, _ => none
  | k + 1, l0, x186 => if x186 < (l0.length : Int) then (if 0 ≤ x186 then ((lex_blank.f (rd l0 x186)).bind fun t223 => (lex_run_lex_blank.j0 k l0 x186 t223)) else (none)) else (lex_run_lex_blank.j0 k l0 x186 false)
end
def lex_run_lex_blank.f (k : Nat) (l0 : List Int) : Option (Int) := lex_run_lex_blank.l0 k l0 0

set_option maxHeartbeats 8000000 in
set_option maxRecDepth 100000 in
theorem lex_run_lex_blank.calls (k : Nat) (A0 : Option Addr) (c0 : Nat) (l0 : List Int) (r : Int) (c : Nat → Nat) (w : World) (hc : ∀ k, c k < 10) (HP0 : Ft c [0] w (fun w_ => (Kd.int .u8).C w_ A0 l0.length l0)) (HCP0 : l0.length ≤ c0) (H : lex_run_lex_blank.f k l0 = some r) :
    Calls Try.prog 74 #[.slice A0 l0.length c0, .func (.func 93) #[] #[]] w fun e w' => ∃ (c' : Nat → Nat) , e = .returned (.int .i64 r) ∧ Step c w c' w' [] := by
 unfold lex_run_lex_blank.f at H
 have HS := Step.refl c w []
 go_enter Try.func74, Try.ntmps74
 refine wp_seq_k fun K115 hK115 => ?_
 refine wl_region ?_
 refine st (.int .i64 0) rfl rfl (xr_assign _ rfl rfl) ?_
 refine wl_end ?_
 (try simp only [ls0, ls1])
 refine hK115 _ _ ?_
 (try clear hK115 K115)
 refine wp_seq_k fun K116 hK116 => ?_
 refine wl_region ?_
 refine st (.int .i64 0) rfl rfl (xr_assign _ rfl rfl) ?_
 refine wl_end ?_
 (try simp only [ls0, ls1])
 refine hK116 _ _ ?_
 (try clear hK116 K116)
 refine wp_seq_k fun K117 hK117 => ?_
 refine wp_block ?_
 (try simp only [ls0, ls1])
 refine wp_looped (looped_fin (fun kq189 a_ w188 => ∃ (C187 : Nat → Nat) (x186 : Int) (g_ : Nat → Value), a_ = ⟨#[.slice A0 l0.length c0, .func (.func 93) #[] #[], (g_ 2), (g_ 3), (g_ 4), .int .i64 x186, (g_ 6), (g_ 7), (g_ 8), (g_ 9), (g_ 10), (g_ 11), (g_ 12), (g_ 13), (g_ 14), (g_ 15), (g_ 16), (g_ 17), (g_ 18), (g_ 19), (g_ 20)], []⟩ ∧ Step c w C187 w188 [] ∧ kq189 ≤ k ∧ (Ft C187 [0] w188 (fun w_ => (Kd.int .u8).C w_ A0 l0.length l0)) ∧ lex_run_lex_blank.l0 kq189 l0 x186 = some r) ?step fun hL_ => ?init)
 case init =>
  exact jmpL (fun a_ h_ => hL_ k a_ _ h_) (fun g_ => ⟨_, 0, g_, rfl, HS, Nat.le_refl _, HP0, H⟩) rfl
 case step =>
  intro kq189 ih192 a193 w188 hr194
  obtain ⟨C187, x186, g_, rfl, HS190, hk191, HJ185, H⟩ := hr194
  refine looped_round ?_
  cases kq189 with
  | zero => exact absurd H (by simp [lex_run_lex_blank.l0])
  | succ k195 =>
   simp only [lex_run_lex_blank.l0] at H
   refine wp_seq_k fun K196 hK196 => ?_
   refine wp_seq_k fun K197 hK197 => ?_
   have hj208 : ∀ (kq214 : Nat) (C209 : Nat → Nat) (w210 : World) (x213 : Bool) (g_ : Nat → Value), Step c w C209 w210 [] → kq214 ≤ k195 → (Ft C209 [0] w210 (fun w_ => (Kd.int .u8).C w_ A0 l0.length l0)) → lex_run_lex_blank.j0 kq214 l0 x186 x213 = some r → K197 ⟨#[.slice A0 l0.length c0, .func (.func 93) #[] #[], (g_ 2), (g_ 3), (g_ 4), .int .i64 x186, (g_ 6), (g_ 7), (g_ 8), (g_ 9), (g_ 10), (g_ 11), (g_ 12), (g_ 13), (g_ 14), (g_ 15), (g_ 16), .bool x213, (g_ 18), (g_ 19), (g_ 20)], []⟩ w210 := by
    intro kq214 C209 w210 x213 g_ HS211 hk215 HJ212 H
    cases kq214 with
    | zero => exact absurd H (by simp [lex_run_lex_blank.j0])
    | succ k216 =>
     simp only [lex_run_lex_blank.j0] at H
     refine hK197 _ _ ?_
     (try clear hK197)
     by_cases c217 : x213 = true
     ·rw [if_pos c217] at H
      (try rw [c217])
      refine wp_cond_true rfl ?_
      refine wp_skip ?_
      (try simp only [ls0, ls1])
      refine hK196 _ _ ?_
      (try clear hK196 K196)
      refine wp_block ?_
      refine wl_region ?_
      refine mv_ rfl ?_
      refine st (.int .i64 (wrap64 (x186 + 1))) rfl rfl (xr_bin _ _ _ rfl rfl rfl (B.add_i64 _ _)) ?_
      refine as_ rfl ?_
      refine wl_end ?_
      (try simp only [ls0, ls1])
      exact jmpL (fun a_ h_ => ih192 k216 (by omega) a_ _ h_) (fun g_ => ⟨_, wrap64 (x186 + 1), g_, rfl, HS211, (by omega), HJ212, H⟩) rfl
     rw [if_neg c217] at H
     (try rw [(Bool.eq_false_iff.mpr c217)])
     refine wp_cond_false rfl ?_
     refine wp_exit ?_
     (try simp only [ls0, ls1])
     refine hK117 _ _ ?_
     (try clear hK117 K117)
     refine wp_seq_k fun K218 hK218 => ?_
     refine wl_region ?_
     refine mv_ rfl ?_
     refine as_ rfl ?_
     refine wl_end ?_
     (try simp only [ls0, ls1])
     refine hK218 _ _ ?_
     (try clear hK218 K218)
     refine wp_ret ?_
     (try simp only [Exit.inBlock, Exit.then, Exit.noGoto])
     (try simp only [ls0, ls1])
     obtain rfl := Option.some.inj H
     refine bodyPost_ret (results_tmp rfl _ _ _) rfl ?_
     exact ⟨_, rfl, HS211⟩
   refine wl_region ?_
   refine mv_ rfl ?_
   refine mv_ rfl ?_
   refine st (.int .i64 (l0.length : Int)) rfl rfl (xr_builtin #[.slice A0 l0.length c0] (.int .i64 (l0.length : Int)) rfl (mp_ rfl) (by first | rfl | (go_simp; done) | (go_simp; rfl) | (go_simp; exact i64_w _) | (go_simp; exact i32_w _))) ?_
   refine st (.bool (decide (x186 < (l0.length : Int)))) rfl rfl (xr_bin _ _ _ rfl rfl rfl (B.lss_i64 _ _)) ?_
   simp only [ls0, ls1]
   refine mv_ rfl ?_
   by_cases c219 : x186 < (l0.length : Int)
   ·rw [if_pos c219] at H
    (try rw [(decide_eq_true c219)])
    refine on_guard (guard_on 4 true 10 rfl rfl rfl) ?_
    refine mv_ rfl ?_
    refine on_guard (guard_on 4 true 10 rfl rfl rfl) ?_
    refine mv_ rfl ?_
    refine on_guard (guard_on 4 true 10 rfl rfl rfl) ?_
    refine mv_ rfl ?_
    simp only [ls0, ls1]
    refine on_guard (guard_on 4 true 10 rfl rfl rfl) ?_
    obtain ⟨c220, H⟩ := if_some H
    obtain ⟨ad221, hA222⟩ := c_addr (Ft.now HJ185) (pos_of (j := x186) (by first | assumption | decide) (by first | assumption | omega))
    refine st (.pointer (some (ad221.add ((x186 : Int).toNat * 1)))) rfl rfl (xr_indexAddr _ _ _ rfl rfl rfl (index_at Try.underlying22 info5 hA222 (by first | assumption | decide | omega) (by first | assumption | decide | omega))) ?_
    refine on_guard (guard_on 4 true 10 rfl rfl rfl) ?_
    refine st (.int .u8 (rd l0 x186)) rfl rfl (xr_load _ _ rfl rfl (load_int Try.underlying5 rfl hA222 (Ft.now HJ185) (by first | assumption | decide | omega) (by first | assumption | decide | omega))) ?_
    refine on_guard (guard_on 4 true 10 rfl rfl rfl) ?_
    obtain ⟨t223, A224, H⟩ := bnd H
    refine st_callV #[.int .u8 (rd l0 x186)] #[] #[.int .u8 (rd l0 x186)] rfl rfl Try.func93 (by kernel_rfl) rfl rfl rfl (mp_ rfl) (by rfl) ?_
    refine (lex_blank.calls (rd l0 x186) t223  (fun z_ => pal [(0, 0)] (C187 z_)) w188 (fun _ => pal_lt rfl _) A224).mono ?_
    rintro _ w226 ⟨C227, rfl, hs228⟩
    refine ⟨_, rfl, ?_⟩
    replace hs228 := Step.lift (U := [(0, 0)]) hs228 [] rfl rfl
    generalize up C187 C227 w188.heap.size [(0, 0)] = C227_ at hs228
    replace HJ185 := HJ185.thru hs228 rfl
    replace HS190 := HS190.trans hs228 hc rfl
    (try simp only [ls0, ls1])
    refine st (.bool t223) rfl rfl (xr_pick true _ rfl rfl rfl) ?_
    refine wl_end ?_
    (try simp only [ls0, ls1])
    exact jmp (fun g_ => hj208 _ _ _ (t223) g_ HS190 (by omega) HJ185 H) rfl
   rw [if_neg c219] at H
   (try rw [(decide_eq_false c219)])
   refine sk_guard (guard_off 4 true 10 rfl rfl false (by decide) rfl) rfl ?_
   refine sk_guard (guard_off 4 true 10 rfl rfl false (by decide) rfl) rfl ?_
   refine sk_guard (guard_off 4 true 10 rfl rfl false (by decide) rfl) rfl ?_
   refine sk_guard (guard_off 4 true 10 rfl rfl false (by decide) rfl) rfl ?_
   simp only [ls0, ls1]
   refine sk_guard (guard_off 4 true 10 rfl rfl false (by decide) rfl) rfl ?_
   refine sk_guard (guard_off 4 true 10 rfl rfl false (by decide) rfl) rfl ?_
   refine st (.bool false) rfl rfl (xr_pick false _ rfl rfl rfl) ?_
   refine wl_end ?_
   (try simp only [ls0, ls1])
   exact jmp (fun g_ => hj208 _ _ _ (false) g_ HS190 (by omega) HJ185 H) rfl

/-! ### lex_first_1: function 94 -/
def lex_first_1.f (a0 : Int) : Option (Bool) := some (!decide (a0 = 10))
set_option maxHeartbeats 8000000 in
set_option maxRecDepth 100000 in
theorem lex_first_1.calls (a0 : Int) (r : Bool) (c : Nat → Nat) (w : World) (hc : ∀ k, c k < 10)  (H : lex_first_1.f a0 = some r) :
    Calls Try.prog 94 #[.int .u8 a0] w fun e w' => ∃ (c' : Nat → Nat) , e = .returned (.bool r) ∧ Step c w c' w' [] := by
 unfold lex_first_1.f at H
 have HS := Step.refl c w []
 go_enter Try.func94, Try.ntmps94
 refine wp_seq_k fun K3 hK3 => ?_
 refine wl_region ?_
 refine st (.bool false) rfl rfl (xr_assign _ rfl rfl) ?_
 refine wl_end ?_
 (try simp only [ls0, ls1])
 refine hK3 _ _ ?_
 (try clear hK3 K3)
 refine wp_seq_k fun K4 hK4 => ?_
 refine wl_region ?_
 refine mv_ rfl ?_
 refine st (.bool (!decide (a0 = 10))) rfl rfl (xr_bin _ _ _ rfl rfl rfl (B.neq_u8 _ _)) ?_
 refine as_ rfl ?_
 refine wl_end ?_
 (try simp only [ls0, ls1])
 refine hK4 _ _ ?_
 (try clear hK4 K4)
 refine wp_ret ?_
 (try simp only [Exit.inBlock, Exit.then, Exit.noGoto])
 (try simp only [ls0, ls1])
 obtain rfl := Option.some.inj H
 refine bodyPost_ret (results_tmp rfl _ _ _) rfl ?_
 exact ⟨_, rfl, HS⟩

/-! ### lex_run_lex_first_1: function 74 -/
mutual
def lex_run_lex_first_1.j0 : Nat → (List Int) → Int → Bool → Option (Int)
  | 0, _, _, _ => none
  | k + 1, l0, x186, x213 => if x213 = true then (lex_run_lex_first_1.l0 k l0 (wrap64 (x186 + 1))) else (some x186)
def lex_run_lex_first_1.l0 : Nat → (List Int) → Int → Option (Int)
  | 0, _, _ => none
  | k + 1, l0, x186 => if x186 < (l0.length : Int) then (if 0 ≤ x186 then ((lex_first_1.f (rd l0 x186)).bind fun t223 => (lex_run_lex_first_1.j0 k l0 x186 t223)) else (none)) else (lex_run_lex_first_1.j0 k l0 x186 false)
end
def lex_run_lex_first_1.f (k : Nat) (l0 : List Int) : Option (Int) := lex_run_lex_first_1.l0 k l0 0

set_option maxHeartbeats 8000000 in
set_option maxRecDepth 100000 in
theorem lex_run_lex_first_1.calls (k : Nat) (A0 : Option Addr) (c0 : Nat) (l0 : List Int) (r : Int) (c : Nat → Nat) (w : World) (hc : ∀ k, c k < 10) (HP0 : Ft c [0] w (fun w_ => (Kd.int .u8).C w_ A0 l0.length l0)) (HCP0 : l0.length ≤ c0) (H : lex_run_lex_first_1.f k l0 = some r) :
    Calls Try.prog 74 #[.slice A0 l0.length c0, .func (.func 94) #[] #[]] w fun e w' => ∃ (c' : Nat → Nat) , e = .returned (.int .i64 r) ∧ Step c w c' w' [] := by
 unfold lex_run_lex_first_1.f at H
 have HS := Step.refl c w []
 go_enter Try.func74, Try.ntmps74
 refine wp_seq_k fun K115 hK115 => ?_
 refine wl_region ?_
 refine st (.int .i64 0) rfl rfl (xr_assign _ rfl rfl) ?_
 refine wl_end ?_
 (try simp only [ls0, ls1])
 refine hK115 _ _ ?_
 (try clear hK115 K115)
 refine wp_seq_k fun K116 hK116 => ?_
 refine wl_region ?_
 refine st (.int .i64 0) rfl rfl (xr_assign _ rfl rfl) ?_
 refine wl_end ?_
 (try simp only [ls0, ls1])
 refine hK116 _ _ ?_
 (try clear hK116 K116)
 refine wp_seq_k fun K117 hK117 => ?_
 refine wp_block ?_
 (try simp only [ls0, ls1])
 refine wp_looped (looped_fin (fun kq189 a_ w188 => ∃ (C187 : Nat → Nat) (x186 : Int) (g_ : Nat → Value), a_ = ⟨#[.slice A0 l0.length c0, .func (.func 94) #[] #[], (g_ 2), (g_ 3), (g_ 4), .int .i64 x186, (g_ 6), (g_ 7), (g_ 8), (g_ 9), (g_ 10), (g_ 11), (g_ 12), (g_ 13), (g_ 14), (g_ 15), (g_ 16), (g_ 17), (g_ 18), (g_ 19), (g_ 20)], []⟩ ∧ Step c w C187 w188 [] ∧ kq189 ≤ k ∧ (Ft C187 [0] w188 (fun w_ => (Kd.int .u8).C w_ A0 l0.length l0)) ∧ lex_run_lex_first_1.l0 kq189 l0 x186 = some r) ?step fun hL_ => ?init)
 case init =>
  exact jmpL (fun a_ h_ => hL_ k a_ _ h_) (fun g_ => ⟨_, 0, g_, rfl, HS, Nat.le_refl _, HP0, H⟩) rfl
 case step =>
  intro kq189 ih192 a193 w188 hr194
  obtain ⟨C187, x186, g_, rfl, HS190, hk191, HJ185, H⟩ := hr194
  refine looped_round ?_
  cases kq189 with
  | zero => exact absurd H (by simp [lex_run_lex_first_1.l0])
  | succ k195 =>
   simp only [lex_run_lex_first_1.l0] at H
   refine wp_seq_k fun K196 hK196 => ?_
   refine wp_seq_k fun K197 hK197 => ?_
   have hj208 : ∀ (kq214 : Nat) (C209 : Nat → Nat) (w210 : World) (x213 : Bool) (g_ : Nat → Value), Step c w C209 w210 [] → kq214 ≤ k195 → (Ft C209 [0] w210 (fun w_ => (Kd.int .u8).C w_ A0 l0.length l0)) → lex_run_lex_first_1.j0 kq214 l0 x186 x213 = some r → K197 ⟨#[.slice A0 l0.length c0, .func (.func 94) #[] #[], (g_ 2), (g_ 3), (g_ 4), .int .i64 x186, (g_ 6), (g_ 7), (g_ 8), (g_ 9), (g_ 10), (g_ 11), (g_ 12), (g_ 13), (g_ 14), (g_ 15), (g_ 16), .bool x213, (g_ 18), (g_ 19), (g_ 20)], []⟩ w210 := by
    intro kq214 C209 w210 x213 g_ HS211 hk215 HJ212 H
    cases kq214 with
    | zero => exact absurd H (by simp [lex_run_lex_first_1.j0])
    | succ k216 =>
     simp only [lex_run_lex_first_1.j0] at H
     refine hK197 _ _ ?_
     (try clear hK197)
     by_cases c217 : x213 = true
     ·rw [if_pos c217] at H
      (try rw [c217])
      refine wp_cond_true rfl ?_
      refine wp_skip ?_
      (try simp only [ls0, ls1])
      refine hK196 _ _ ?_
      (try clear hK196 K196)
      refine wp_block ?_
      refine wl_region ?_
      refine mv_ rfl ?_
      refine st (.int .i64 (wrap64 (x186 + 1))) rfl rfl (xr_bin _ _ _ rfl rfl rfl (B.add_i64 _ _)) ?_
      refine as_ rfl ?_
      refine wl_end ?_
      (try simp only [ls0, ls1])
      exact jmpL (fun a_ h_ => ih192 k216 (by omega) a_ _ h_) (fun g_ => ⟨_, wrap64 (x186 + 1), g_, rfl, HS211, (by omega), HJ212, H⟩) rfl
     rw [if_neg c217] at H
     (try rw [(Bool.eq_false_iff.mpr c217)])
     refine wp_cond_false rfl ?_
     refine wp_exit ?_
     (try simp only [ls0, ls1])
     refine hK117 _ _ ?_
     (try clear hK117 K117)
     refine wp_seq_k fun K218 hK218 => ?_
     refine wl_region ?_
     refine mv_ rfl ?_
     refine as_ rfl ?_
     refine wl_end ?_
     (try simp only [ls0, ls1])
     refine hK218 _ _ ?_
     (try clear hK218 K218)
     refine wp_ret ?_
     (try simp only [Exit.inBlock, Exit.then, Exit.noGoto])
     (try simp only [ls0, ls1])
     obtain rfl := Option.some.inj H
     refine bodyPost_ret (results_tmp rfl _ _ _) rfl ?_
     exact ⟨_, rfl, HS211⟩
   refine wl_region ?_
   refine mv_ rfl ?_
   refine mv_ rfl ?_
   refine st (.int .i64 (l0.length : Int)) rfl rfl (xr_builtin #[.slice A0 l0.length c0] (.int .i64 (l0.length : Int)) rfl (mp_ rfl) (by first | rfl | (go_simp; done) | (go_simp; rfl) | (go_simp; exact i64_w _) | (go_simp; exact i32_w _))) ?_
   refine st (.bool (decide (x186 < (l0.length : Int)))) rfl rfl (xr_bin _ _ _ rfl rfl rfl (B.lss_i64 _ _)) ?_
   simp only [ls0, ls1]
   refine mv_ rfl ?_
   by_cases c219 : x186 < (l0.length : Int)
   ·rw [if_pos c219] at H
    (try rw [(decide_eq_true c219)])
    refine on_guard (guard_on 4 true 10 rfl rfl rfl) ?_
    refine mv_ rfl ?_
    refine on_guard (guard_on 4 true 10 rfl rfl rfl) ?_
    refine mv_ rfl ?_
    refine on_guard (guard_on 4 true 10 rfl rfl rfl) ?_
    refine mv_ rfl ?_
    simp only [ls0, ls1]
    refine on_guard (guard_on 4 true 10 rfl rfl rfl) ?_
    obtain ⟨c220, H⟩ := if_some H
    obtain ⟨ad221, hA222⟩ := c_addr (Ft.now HJ185) (pos_of (j := x186) (by first | assumption | decide) (by first | assumption | omega))
    refine st (.pointer (some (ad221.add ((x186 : Int).toNat * 1)))) rfl rfl (xr_indexAddr _ _ _ rfl rfl rfl (index_at Try.underlying22 info5 hA222 (by first | assumption | decide | omega) (by first | assumption | decide | omega))) ?_
    refine on_guard (guard_on 4 true 10 rfl rfl rfl) ?_
    refine st (.int .u8 (rd l0 x186)) rfl rfl (xr_load _ _ rfl rfl (load_int Try.underlying5 rfl hA222 (Ft.now HJ185) (by first | assumption | decide | omega) (by first | assumption | decide | omega))) ?_
    refine on_guard (guard_on 4 true 10 rfl rfl rfl) ?_
    obtain ⟨t223, A224, H⟩ := bnd H
    refine st_callV #[.int .u8 (rd l0 x186)] #[] #[.int .u8 (rd l0 x186)] rfl rfl Try.func94 (by kernel_rfl) rfl rfl rfl (mp_ rfl) (by rfl) ?_
    refine (lex_first_1.calls (rd l0 x186) t223  (fun z_ => pal [(0, 0)] (C187 z_)) w188 (fun _ => pal_lt rfl _) A224).mono ?_
    rintro _ w226 ⟨C227, rfl, hs228⟩
    refine ⟨_, rfl, ?_⟩
    replace hs228 := Step.lift (U := [(0, 0)]) hs228 [] rfl rfl
    generalize up C187 C227 w188.heap.size [(0, 0)] = C227_ at hs228
    replace HJ185 := HJ185.thru hs228 rfl
    replace HS190 := HS190.trans hs228 hc rfl
    (try simp only [ls0, ls1])
    refine st (.bool t223) rfl rfl (xr_pick true _ rfl rfl rfl) ?_
    refine wl_end ?_
    (try simp only [ls0, ls1])
    exact jmp (fun g_ => hj208 _ _ _ (t223) g_ HS190 (by omega) HJ185 H) rfl
   rw [if_neg c219] at H
   (try rw [(decide_eq_false c219)])
   refine sk_guard (guard_off 4 true 10 rfl rfl false (by decide) rfl) rfl ?_
   refine sk_guard (guard_off 4 true 10 rfl rfl false (by decide) rfl) rfl ?_
   refine sk_guard (guard_off 4 true 10 rfl rfl false (by decide) rfl) rfl ?_
   refine sk_guard (guard_off 4 true 10 rfl rfl false (by decide) rfl) rfl ?_
   simp only [ls0, ls1]
   refine sk_guard (guard_off 4 true 10 rfl rfl false (by decide) rfl) rfl ?_
   refine sk_guard (guard_off 4 true 10 rfl rfl false (by decide) rfl) rfl ?_
   refine st (.bool false) rfl rfl (xr_pick false _ rfl rfl rfl) ?_
   refine wl_end ?_
   (try simp only [ls0, ls1])
   exact jmp (fun g_ => hj208 _ _ _ (false) g_ HS190 (by omega) HJ185 H) rfl

/-! ### lex_first_2: function 95 -/
def lex_first_2.f (a0 : Int) : Option (Bool) := (lex_letter.f a0).bind fun t18 => (if t18 = true then (some true) else ((lex_digit.f a0).bind fun t25 => (some t25)))
set_option maxHeartbeats 8000000 in
set_option maxRecDepth 100000 in
theorem lex_first_2.calls (a0 : Int) (r : Bool) (c : Nat → Nat) (w : World) (hc : ∀ k, c k < 10)  (H : lex_first_2.f a0 = some r) :
    Calls Try.prog 95 #[.int .u8 a0] w fun e w' => ∃ (c' : Nat → Nat) , e = .returned (.bool r) ∧ Step c w c' w' [] := by
 unfold lex_first_2.f at H
 have HS := Step.refl c w []
 go_enter Try.func95, Try.ntmps95
 refine wp_seq_k fun K16 hK16 => ?_
 refine wl_region ?_
 refine st (.bool false) rfl rfl (xr_assign _ rfl rfl) ?_
 refine wl_end ?_
 (try simp only [ls0, ls1])
 refine hK16 _ _ ?_
 (try clear hK16 K16)
 refine wp_seq_k fun K17 hK17 => ?_
 refine wl_region ?_
 refine mv_ rfl ?_
 obtain ⟨t18, A19, H⟩ := bnd H
 refine st_call #[.int .u8 a0] rfl rfl Try.func73 (by kernel_rfl) rfl rfl (mp_ rfl) ?_
 refine (lex_letter.calls a0 t18  (fun z_ => pal [(0, 0)] (c z_)) w (fun _ => pal_lt rfl _) A19).mono ?_
 rintro _ w21 ⟨C22, rfl, hs23⟩
 refine ⟨_, rfl, ?_⟩
 replace hs23 := Step.lift (U := [(0, 0)]) hs23 [] rfl rfl
 generalize up c C22 w.heap.size [(0, 0)] = C22_ at hs23
 replace HS := HS.trans hs23 hc rfl
 (try simp only [ls0, ls1])
 refine mv_ rfl ?_
 by_cases c24 : t18 = true
 ·rw [if_pos c24] at H
  (try rw [c24])
  refine sk_guard (guard_off 2 false 5 rfl rfl true (by decide) rfl) rfl ?_
  refine sk_guard (guard_off 2 false 5 rfl rfl true (by decide) rfl) rfl ?_
  refine st (.bool true) rfl rfl (xr_pick true _ rfl rfl rfl) ?_
  simp only [ls0, ls1]
  refine as_ rfl ?_
  refine wl_end ?_
  (try simp only [ls0, ls1])
  refine hK17 _ _ ?_
  (try clear hK17 K17)
  refine wp_ret ?_
  (try simp only [Exit.inBlock, Exit.then, Exit.noGoto])
  (try simp only [ls0, ls1])
  obtain rfl := Option.some.inj H
  refine bodyPost_ret (results_tmp rfl _ _ _) rfl ?_
  exact ⟨_, rfl, HS⟩
 rw [if_neg c24] at H
 (try rw [(Bool.eq_false_iff.mpr c24)])
 refine on_guard (guard_on 2 false 5 rfl rfl rfl) ?_
 refine mv_ rfl ?_
 refine on_guard (guard_on 2 false 5 rfl rfl rfl) ?_
 obtain ⟨t25, A26, H⟩ := bnd H
 refine st_call #[.int .u8 a0] rfl rfl Try.func76 (by kernel_rfl) rfl rfl (mp_ rfl) ?_
 refine (lex_digit.calls a0 t25  (fun z_ => pal [(0, 0)] (C22_ z_)) w21 (fun _ => pal_lt rfl _) A26).mono ?_
 rintro _ w28 ⟨C29, rfl, hs30⟩
 refine ⟨_, rfl, ?_⟩
 replace hs30 := Step.lift (U := [(0, 0)]) hs30 [] rfl rfl
 generalize up C22_ C29 w21.heap.size [(0, 0)] = C29_ at hs30
 replace HS := HS.trans hs30 hc rfl
 (try simp only [ls0, ls1])
 refine st (.bool t25) rfl rfl (xr_pick false _ rfl rfl rfl) ?_
 refine as_ rfl ?_
 refine wl_end ?_
 (try simp only [ls0, ls1])
 refine hK17 _ _ ?_
 (try clear hK17 K17)
 refine wp_ret ?_
 (try simp only [Exit.inBlock, Exit.then, Exit.noGoto])
 (try simp only [ls0, ls1])
 obtain rfl := Option.some.inj H
 refine bodyPost_ret (results_tmp rfl _ _ _) rfl ?_
 exact ⟨_, rfl, HS⟩

/-! ### lex_run_lex_first_2: function 74 -/
mutual
def lex_run_lex_first_2.j0 : Nat → (List Int) → Int → Bool → Option (Int)
  | 0, _, _, _ => none
  | k + 1, l0, x186, x213 => if x213 = true then (lex_run_lex_first_2.l0 k l0 (wrap64 (x186 + 1))) else (some x186)
def lex_run_lex_first_2.l0 : Nat → (List Int) → Int → Option (Int)
  | 0, _, _ => none
  | k + 1, l0, x186 => if x186 < (l0.length : Int) then (if 0 ≤ x186 then ((lex_first_2.f (rd l0 x186)).bind fun t223 => (lex_run_lex_first_2.j0 k l0 x186 t223)) else (none)) else (lex_run_lex_first_2.j0 k l0 x186 false)
end
def lex_run_lex_first_2.f (k : Nat) (l0 : List Int) : Option (Int) := lex_run_lex_first_2.l0 k l0 0

set_option maxHeartbeats 8000000 in
set_option maxRecDepth 100000 in
theorem lex_run_lex_first_2.calls (k : Nat) (A0 : Option Addr) (c0 : Nat) (l0 : List Int) (r : Int) (c : Nat → Nat) (w : World) (hc : ∀ k, c k < 10) (HP0 : Ft c [0] w (fun w_ => (Kd.int .u8).C w_ A0 l0.length l0)) (HCP0 : l0.length ≤ c0) (H : lex_run_lex_first_2.f k l0 = some r) :
    Calls Try.prog 74 #[.slice A0 l0.length c0, .func (.func 95) #[] #[]] w fun e w' => ∃ (c' : Nat → Nat) , e = .returned (.int .i64 r) ∧ Step c w c' w' [] := by
 unfold lex_run_lex_first_2.f at H
 have HS := Step.refl c w []
 go_enter Try.func74, Try.ntmps74
 refine wp_seq_k fun K115 hK115 => ?_
 refine wl_region ?_
 refine st (.int .i64 0) rfl rfl (xr_assign _ rfl rfl) ?_
 refine wl_end ?_
 (try simp only [ls0, ls1])
 refine hK115 _ _ ?_
 (try clear hK115 K115)
 refine wp_seq_k fun K116 hK116 => ?_
 refine wl_region ?_
 refine st (.int .i64 0) rfl rfl (xr_assign _ rfl rfl) ?_
 refine wl_end ?_
 (try simp only [ls0, ls1])
 refine hK116 _ _ ?_
 (try clear hK116 K116)
 refine wp_seq_k fun K117 hK117 => ?_
 refine wp_block ?_
 (try simp only [ls0, ls1])
 refine wp_looped (looped_fin (fun kq189 a_ w188 => ∃ (C187 : Nat → Nat) (x186 : Int) (g_ : Nat → Value), a_ = ⟨#[.slice A0 l0.length c0, .func (.func 95) #[] #[], (g_ 2), (g_ 3), (g_ 4), .int .i64 x186, (g_ 6), (g_ 7), (g_ 8), (g_ 9), (g_ 10), (g_ 11), (g_ 12), (g_ 13), (g_ 14), (g_ 15), (g_ 16), (g_ 17), (g_ 18), (g_ 19), (g_ 20)], []⟩ ∧ Step c w C187 w188 [] ∧ kq189 ≤ k ∧ (Ft C187 [0] w188 (fun w_ => (Kd.int .u8).C w_ A0 l0.length l0)) ∧ lex_run_lex_first_2.l0 kq189 l0 x186 = some r) ?step fun hL_ => ?init)
 case init =>
  exact jmpL (fun a_ h_ => hL_ k a_ _ h_) (fun g_ => ⟨_, 0, g_, rfl, HS, Nat.le_refl _, HP0, H⟩) rfl
 case step =>
  intro kq189 ih192 a193 w188 hr194
  obtain ⟨C187, x186, g_, rfl, HS190, hk191, HJ185, H⟩ := hr194
  refine looped_round ?_
  cases kq189 with
  | zero => exact absurd H (by simp [lex_run_lex_first_2.l0])
  | succ k195 =>
   simp only [lex_run_lex_first_2.l0] at H
   refine wp_seq_k fun K196 hK196 => ?_
   refine wp_seq_k fun K197 hK197 => ?_
   have hj208 : ∀ (kq214 : Nat) (C209 : Nat → Nat) (w210 : World) (x213 : Bool) (g_ : Nat → Value), Step c w C209 w210 [] → kq214 ≤ k195 → (Ft C209 [0] w210 (fun w_ => (Kd.int .u8).C w_ A0 l0.length l0)) → lex_run_lex_first_2.j0 kq214 l0 x186 x213 = some r → K197 ⟨#[.slice A0 l0.length c0, .func (.func 95) #[] #[], (g_ 2), (g_ 3), (g_ 4), .int .i64 x186, (g_ 6), (g_ 7), (g_ 8), (g_ 9), (g_ 10), (g_ 11), (g_ 12), (g_ 13), (g_ 14), (g_ 15), (g_ 16), .bool x213, (g_ 18), (g_ 19), (g_ 20)], []⟩ w210 := by
    intro kq214 C209 w210 x213 g_ HS211 hk215 HJ212 H
    cases kq214 with
    | zero => exact absurd H (by simp [lex_run_lex_first_2.j0])
    | succ k216 =>
     simp only [lex_run_lex_first_2.j0] at H
     refine hK197 _ _ ?_
     (try clear hK197)
     by_cases c217 : x213 = true
     ·rw [if_pos c217] at H
      (try rw [c217])
      refine wp_cond_true rfl ?_
      refine wp_skip ?_
      (try simp only [ls0, ls1])
      refine hK196 _ _ ?_
      (try clear hK196 K196)
      refine wp_block ?_
      refine wl_region ?_
      refine mv_ rfl ?_
      refine st (.int .i64 (wrap64 (x186 + 1))) rfl rfl (xr_bin _ _ _ rfl rfl rfl (B.add_i64 _ _)) ?_
      refine as_ rfl ?_
      refine wl_end ?_
      (try simp only [ls0, ls1])
      exact jmpL (fun a_ h_ => ih192 k216 (by omega) a_ _ h_) (fun g_ => ⟨_, wrap64 (x186 + 1), g_, rfl, HS211, (by omega), HJ212, H⟩) rfl
     rw [if_neg c217] at H
     (try rw [(Bool.eq_false_iff.mpr c217)])
     refine wp_cond_false rfl ?_
     refine wp_exit ?_
     (try simp only [ls0, ls1])
     refine hK117 _ _ ?_
     (try clear hK117 K117)
     refine wp_seq_k fun K218 hK218 => ?_
     refine wl_region ?_
     refine mv_ rfl ?_
     refine as_ rfl ?_
     refine wl_end ?_
     (try simp only [ls0, ls1])
     refine hK218 _ _ ?_
     (try clear hK218 K218)
     refine wp_ret ?_
     (try simp only [Exit.inBlock, Exit.then, Exit.noGoto])
     (try simp only [ls0, ls1])
     obtain rfl := Option.some.inj H
     refine bodyPost_ret (results_tmp rfl _ _ _) rfl ?_
     exact ⟨_, rfl, HS211⟩
   refine wl_region ?_
   refine mv_ rfl ?_
   refine mv_ rfl ?_
   refine st (.int .i64 (l0.length : Int)) rfl rfl (xr_builtin #[.slice A0 l0.length c0] (.int .i64 (l0.length : Int)) rfl (mp_ rfl) (by first | rfl | (go_simp; done) | (go_simp; rfl) | (go_simp; exact i64_w _) | (go_simp; exact i32_w _))) ?_
   refine st (.bool (decide (x186 < (l0.length : Int)))) rfl rfl (xr_bin _ _ _ rfl rfl rfl (B.lss_i64 _ _)) ?_
   simp only [ls0, ls1]
   refine mv_ rfl ?_
   by_cases c219 : x186 < (l0.length : Int)
   ·rw [if_pos c219] at H
    (try rw [(decide_eq_true c219)])
    refine on_guard (guard_on 4 true 10 rfl rfl rfl) ?_
    refine mv_ rfl ?_
    refine on_guard (guard_on 4 true 10 rfl rfl rfl) ?_
    refine mv_ rfl ?_
    refine on_guard (guard_on 4 true 10 rfl rfl rfl) ?_
    refine mv_ rfl ?_
    simp only [ls0, ls1]
    refine on_guard (guard_on 4 true 10 rfl rfl rfl) ?_
    obtain ⟨c220, H⟩ := if_some H
    obtain ⟨ad221, hA222⟩ := c_addr (Ft.now HJ185) (pos_of (j := x186) (by first | assumption | decide) (by first | assumption | omega))
    refine st (.pointer (some (ad221.add ((x186 : Int).toNat * 1)))) rfl rfl (xr_indexAddr _ _ _ rfl rfl rfl (index_at Try.underlying22 info5 hA222 (by first | assumption | decide | omega) (by first | assumption | decide | omega))) ?_
    refine on_guard (guard_on 4 true 10 rfl rfl rfl) ?_
    refine st (.int .u8 (rd l0 x186)) rfl rfl (xr_load _ _ rfl rfl (load_int Try.underlying5 rfl hA222 (Ft.now HJ185) (by first | assumption | decide | omega) (by first | assumption | decide | omega))) ?_
    refine on_guard (guard_on 4 true 10 rfl rfl rfl) ?_
    obtain ⟨t223, A224, H⟩ := bnd H
    refine st_callV #[.int .u8 (rd l0 x186)] #[] #[.int .u8 (rd l0 x186)] rfl rfl Try.func95 (by kernel_rfl) rfl rfl rfl (mp_ rfl) (by rfl) ?_
    refine (lex_first_2.calls (rd l0 x186) t223  (fun z_ => pal [(0, 0)] (C187 z_)) w188 (fun _ => pal_lt rfl _) A224).mono ?_
    rintro _ w226 ⟨C227, rfl, hs228⟩
    refine ⟨_, rfl, ?_⟩
    replace hs228 := Step.lift (U := [(0, 0)]) hs228 [] rfl rfl
    generalize up C187 C227 w188.heap.size [(0, 0)] = C227_ at hs228
    replace HJ185 := HJ185.thru hs228 rfl
    replace HS190 := HS190.trans hs228 hc rfl
    (try simp only [ls0, ls1])
    refine st (.bool t223) rfl rfl (xr_pick true _ rfl rfl rfl) ?_
    refine wl_end ?_
    (try simp only [ls0, ls1])
    exact jmp (fun g_ => hj208 _ _ _ (t223) g_ HS190 (by omega) HJ185 H) rfl
   rw [if_neg c219] at H
   (try rw [(decide_eq_false c219)])
   refine sk_guard (guard_off 4 true 10 rfl rfl false (by decide) rfl) rfl ?_
   refine sk_guard (guard_off 4 true 10 rfl rfl false (by decide) rfl) rfl ?_
   refine sk_guard (guard_off 4 true 10 rfl rfl false (by decide) rfl) rfl ?_
   refine sk_guard (guard_off 4 true 10 rfl rfl false (by decide) rfl) rfl ?_
   simp only [ls0, ls1]
   refine sk_guard (guard_off 4 true 10 rfl rfl false (by decide) rfl) rfl ?_
   refine sk_guard (guard_off 4 true 10 rfl rfl false (by decide) rfl) rfl ?_
   refine st (.bool false) rfl rfl (xr_pick false _ rfl rfl rfl) ?_
   refine wl_end ?_
   (try simp only [ls0, ls1])
   exact jmp (fun g_ => hj208 _ _ _ (false) g_ HS190 (by omega) HJ185 H) rfl

/-! ### lex_run_lex_digit: function 74 -/
mutual
def lex_run_lex_digit.j0 : Nat → (List Int) → Int → Bool → Option (Int)
  | 0, _, _, _ => none
  | k + 1, l0, x186, x213 => if x213 = true then (lex_run_lex_digit.l0 k l0 (wrap64 (x186 + 1))) else (some x186)
def lex_run_lex_digit.l0 : Nat → (List Int) → Int → Option (Int)
  | 0, _, _ => none
  | k + 1, l0, x186 => if x186 < (l0.length : Int) then (if 0 ≤ x186 then ((lex_digit.f (rd l0 x186)).bind fun t223 => (lex_run_lex_digit.j0 k l0 x186 t223)) else (none)) else (lex_run_lex_digit.j0 k l0 x186 false)
end
def lex_run_lex_digit.f (k : Nat) (l0 : List Int) : Option (Int) := lex_run_lex_digit.l0 k l0 0

set_option maxHeartbeats 8000000 in
set_option maxRecDepth 100000 in
theorem lex_run_lex_digit.calls (k : Nat) (A0 : Option Addr) (c0 : Nat) (l0 : List Int) (r : Int) (c : Nat → Nat) (w : World) (hc : ∀ k, c k < 10) (HP0 : Ft c [0] w (fun w_ => (Kd.int .u8).C w_ A0 l0.length l0)) (HCP0 : l0.length ≤ c0) (H : lex_run_lex_digit.f k l0 = some r) :
    Calls Try.prog 74 #[.slice A0 l0.length c0, .func (.func 76) #[] #[]] w fun e w' => ∃ (c' : Nat → Nat) , e = .returned (.int .i64 r) ∧ Step c w c' w' [] := by
 unfold lex_run_lex_digit.f at H
 have HS := Step.refl c w []
 go_enter Try.func74, Try.ntmps74
 refine wp_seq_k fun K115 hK115 => ?_
 refine wl_region ?_
 refine st (.int .i64 0) rfl rfl (xr_assign _ rfl rfl) ?_
 refine wl_end ?_
 (try simp only [ls0, ls1])
 refine hK115 _ _ ?_
 (try clear hK115 K115)
 refine wp_seq_k fun K116 hK116 => ?_
 refine wl_region ?_
 refine st (.int .i64 0) rfl rfl (xr_assign _ rfl rfl) ?_
 refine wl_end ?_
 (try simp only [ls0, ls1])
 refine hK116 _ _ ?_
 (try clear hK116 K116)
 refine wp_seq_k fun K117 hK117 => ?_
 refine wp_block ?_
 (try simp only [ls0, ls1])
 refine wp_looped (looped_fin (fun kq189 a_ w188 => ∃ (C187 : Nat → Nat) (x186 : Int) (g_ : Nat → Value), a_ = ⟨#[.slice A0 l0.length c0, .func (.func 76) #[] #[], (g_ 2), (g_ 3), (g_ 4), .int .i64 x186, (g_ 6), (g_ 7), (g_ 8), (g_ 9), (g_ 10), (g_ 11), (g_ 12), (g_ 13), (g_ 14), (g_ 15), (g_ 16), (g_ 17), (g_ 18), (g_ 19), (g_ 20)], []⟩ ∧ Step c w C187 w188 [] ∧ kq189 ≤ k ∧ (Ft C187 [0] w188 (fun w_ => (Kd.int .u8).C w_ A0 l0.length l0)) ∧ lex_run_lex_digit.l0 kq189 l0 x186 = some r) ?step fun hL_ => ?init)
 case init =>
  exact jmpL (fun a_ h_ => hL_ k a_ _ h_) (fun g_ => ⟨_, 0, g_, rfl, HS, Nat.le_refl _, HP0, H⟩) rfl
 case step =>
  intro kq189 ih192 a193 w188 hr194
  obtain ⟨C187, x186, g_, rfl, HS190, hk191, HJ185, H⟩ := hr194
  refine looped_round ?_
  cases kq189 with
  | zero => exact absurd H (by simp [lex_run_lex_digit.l0])
  | succ k195 =>
   simp only [lex_run_lex_digit.l0] at H
   refine wp_seq_k fun K196 hK196 => ?_
   refine wp_seq_k fun K197 hK197 => ?_
   have hj208 : ∀ (kq214 : Nat) (C209 : Nat → Nat) (w210 : World) (x213 : Bool) (g_ : Nat → Value), Step c w C209 w210 [] → kq214 ≤ k195 → (Ft C209 [0] w210 (fun w_ => (Kd.int .u8).C w_ A0 l0.length l0)) → lex_run_lex_digit.j0 kq214 l0 x186 x213 = some r → K197 ⟨#[.slice A0 l0.length c0, .func (.func 76) #[] #[], (g_ 2), (g_ 3), (g_ 4), .int .i64 x186, (g_ 6), (g_ 7), (g_ 8), (g_ 9), (g_ 10), (g_ 11), (g_ 12), (g_ 13), (g_ 14), (g_ 15), (g_ 16), .bool x213, (g_ 18), (g_ 19), (g_ 20)], []⟩ w210 := by
    intro kq214 C209 w210 x213 g_ HS211 hk215 HJ212 H
    cases kq214 with
    | zero => exact absurd H (by simp [lex_run_lex_digit.j0])
    | succ k216 =>
     simp only [lex_run_lex_digit.j0] at H
     refine hK197 _ _ ?_
     (try clear hK197)
     by_cases c217 : x213 = true
     ·rw [if_pos c217] at H
      (try rw [c217])
      refine wp_cond_true rfl ?_
      refine wp_skip ?_
      (try simp only [ls0, ls1])
      refine hK196 _ _ ?_
      (try clear hK196 K196)
      refine wp_block ?_
      refine wl_region ?_
      refine mv_ rfl ?_
      refine st (.int .i64 (wrap64 (x186 + 1))) rfl rfl (xr_bin _ _ _ rfl rfl rfl (B.add_i64 _ _)) ?_
      refine as_ rfl ?_
      refine wl_end ?_
      (try simp only [ls0, ls1])
      exact jmpL (fun a_ h_ => ih192 k216 (by omega) a_ _ h_) (fun g_ => ⟨_, wrap64 (x186 + 1), g_, rfl, HS211, (by omega), HJ212, H⟩) rfl
     rw [if_neg c217] at H
     (try rw [(Bool.eq_false_iff.mpr c217)])
     refine wp_cond_false rfl ?_
     refine wp_exit ?_
     (try simp only [ls0, ls1])
     refine hK117 _ _ ?_
     (try clear hK117 K117)
     refine wp_seq_k fun K218 hK218 => ?_
     refine wl_region ?_
     refine mv_ rfl ?_
     refine as_ rfl ?_
     refine wl_end ?_
     (try simp only [ls0, ls1])
     refine hK218 _ _ ?_
     (try clear hK218 K218)
     refine wp_ret ?_
     (try simp only [Exit.inBlock, Exit.then, Exit.noGoto])
     (try simp only [ls0, ls1])
     obtain rfl := Option.some.inj H
     refine bodyPost_ret (results_tmp rfl _ _ _) rfl ?_
     exact ⟨_, rfl, HS211⟩
   refine wl_region ?_
   refine mv_ rfl ?_
   refine mv_ rfl ?_
   refine st (.int .i64 (l0.length : Int)) rfl rfl (xr_builtin #[.slice A0 l0.length c0] (.int .i64 (l0.length : Int)) rfl (mp_ rfl) (by first | rfl | (go_simp; done) | (go_simp; rfl) | (go_simp; exact i64_w _) | (go_simp; exact i32_w _))) ?_
   refine st (.bool (decide (x186 < (l0.length : Int)))) rfl rfl (xr_bin _ _ _ rfl rfl rfl (B.lss_i64 _ _)) ?_
   simp only [ls0, ls1]
   refine mv_ rfl ?_
   by_cases c219 : x186 < (l0.length : Int)
   ·rw [if_pos c219] at H
    (try rw [(decide_eq_true c219)])
    refine on_guard (guard_on 4 true 10 rfl rfl rfl) ?_
    refine mv_ rfl ?_
    refine on_guard (guard_on 4 true 10 rfl rfl rfl) ?_
    refine mv_ rfl ?_
    refine on_guard (guard_on 4 true 10 rfl rfl rfl) ?_
    refine mv_ rfl ?_
    simp only [ls0, ls1]
    refine on_guard (guard_on 4 true 10 rfl rfl rfl) ?_
    obtain ⟨c220, H⟩ := if_some H
    obtain ⟨ad221, hA222⟩ := c_addr (Ft.now HJ185) (pos_of (j := x186) (by first | assumption | decide) (by first | assumption | omega))
    refine st (.pointer (some (ad221.add ((x186 : Int).toNat * 1)))) rfl rfl (xr_indexAddr _ _ _ rfl rfl rfl (index_at Try.underlying22 info5 hA222 (by first | assumption | decide | omega) (by first | assumption | decide | omega))) ?_
    refine on_guard (guard_on 4 true 10 rfl rfl rfl) ?_
    refine st (.int .u8 (rd l0 x186)) rfl rfl (xr_load _ _ rfl rfl (load_int Try.underlying5 rfl hA222 (Ft.now HJ185) (by first | assumption | decide | omega) (by first | assumption | decide | omega))) ?_
    refine on_guard (guard_on 4 true 10 rfl rfl rfl) ?_
    obtain ⟨t223, A224, H⟩ := bnd H
    refine st_callV #[.int .u8 (rd l0 x186)] #[] #[.int .u8 (rd l0 x186)] rfl rfl Try.func76 (by kernel_rfl) rfl rfl rfl (mp_ rfl) (by rfl) ?_
    refine (lex_digit.calls (rd l0 x186) t223  (fun z_ => pal [(0, 0)] (C187 z_)) w188 (fun _ => pal_lt rfl _) A224).mono ?_
    rintro _ w226 ⟨C227, rfl, hs228⟩
    refine ⟨_, rfl, ?_⟩
    replace hs228 := Step.lift (U := [(0, 0)]) hs228 [] rfl rfl
    generalize up C187 C227 w188.heap.size [(0, 0)] = C227_ at hs228
    replace HJ185 := HJ185.thru hs228 rfl
    replace HS190 := HS190.trans hs228 hc rfl
    (try simp only [ls0, ls1])
    refine st (.bool t223) rfl rfl (xr_pick true _ rfl rfl rfl) ?_
    refine wl_end ?_
    (try simp only [ls0, ls1])
    exact jmp (fun g_ => hj208 _ _ _ (t223) g_ HS190 (by omega) HJ185 H) rfl
   rw [if_neg c219] at H
   (try rw [(decide_eq_false c219)])
   refine sk_guard (guard_off 4 true 10 rfl rfl false (by decide) rfl) rfl ?_
   refine sk_guard (guard_off 4 true 10 rfl rfl false (by decide) rfl) rfl ?_
   refine sk_guard (guard_off 4 true 10 rfl rfl false (by decide) rfl) rfl ?_
   refine sk_guard (guard_off 4 true 10 rfl rfl false (by decide) rfl) rfl ?_
   simp only [ls0, ls1]
   refine sk_guard (guard_off 4 true 10 rfl rfl false (by decide) rfl) rfl ?_
   refine sk_guard (guard_off 4 true 10 rfl rfl false (by decide) rfl) rfl ?_
   refine st (.bool false) rfl rfl (xr_pick false _ rfl rfl rfl) ?_
   refine wl_end ?_
   (try simp only [ls0, ls1])
   exact jmp (fun g_ => hj208 _ _ _ (false) g_ HS190 (by omega) HJ185 H) rfl

/-! ### lex_first: function 66 -/
def lex_first.j0 : Nat → (List Int) → Bool → Option (Int × Int)
  | 0, _, _ => none
  | k + 1, l0, x470 => if x470 = true then (some (4, 2)) else (if 0 < (l0.length : Int) then ((strings_IndexByte.f (⟨#[40, 41, 123, 125, 44, 59, 58, 46, 60, 43, 45, 42, 33, 61, 64, 47]⟩ : ByteArray) (rd l0 0)).bind fun t481 => (if t481 ≥ 0 then (some (4, 1)) else (some (5, 1)))) else (none))
def lex_first.f (k : Nat) (l0 : List Int) : Option (Int × Int) := if 0 < (l0.length : Int) then ((lex_blank.f (rd l0 0)).bind fun t323 => (if t323 = true then ((lex_run_lex_blank.f k l0).bind fun t331 => (some (0, t331))) else (if (rd l0 0) = 35 then ((lex_run_lex_first_1.f k l0).bind fun t340 => (some (1, t340))) else ((lex_letter.f (rd l0 0)).bind fun t347 => (if t347 = true then ((lex_run_lex_first_2.f k l0).bind fun t355 => (some (2, t355))) else ((lex_digit.f (rd l0 0)).bind fun t362 => (if t362 = true then ((lex_run_lex_digit.f k l0).bind fun t370 => (some (3, t370))) else (if (l0.length : Int) > 1 then ((some ([(⟨#[61, 61]⟩ : ByteArray), (⟨#[38, 38]⟩ : ByteArray), (⟨#[124, 124]⟩ : ByteArray), (⟨#[64, 61]⟩ : ByteArray)] : List ByteArray)).bind fun y491 => (if 2 ≤ (l0.length : Int) then ((some (l0.take (2 : Int).toNat : List Int)).bind fun y501 => ((slices_Contains_string_string.f k y491 (strOfNums y501)).bind fun t509 => (lex_first.j0 k l0 t509))) else (none))) else (lex_first.j0 k l0 false))))))))) else (none)

set_option maxHeartbeats 8000000 in
set_option maxRecDepth 100000 in
theorem lex_first.calls (k : Nat) (A0 : Option Addr) (c0 : Nat) (l0 : List Int) (r1 : Int) (r2 : Int) (c : Nat → Nat) (w : World) (hc : ∀ k, c k < 10) (HP0 : Ft c [0] w (fun w_ => (Kd.int .u8).C w_ A0 l0.length l0)) (HCP0 : l0.length ≤ c0) (H : lex_first.f k l0 = some (r1, r2)) :
    Calls Try.prog 66 #[.slice A0 l0.length c0] w fun e w' => ∃ (c' : Nat → Nat) , e = .returned (.tuple #[.int .i64 r1, .int .i64 r2]) ∧ Step c w c' w' [] := by
 unfold lex_first.f at H
 have HS := Step.refl c w []
 go_enter Try.func66, Try.ntmps66
 refine wp_seq_k fun K258 hK258 => ?_
 refine wl_region ?_
 refine st (.int .i64 0) rfl rfl (xr_assign _ rfl rfl) ?_
 refine st (.int .i64 0) rfl rfl (xr_assign _ rfl rfl) ?_
 refine wl_end ?_
 (try simp only [ls0, ls1])
 refine hK258 _ _ ?_
 (try clear hK258 K258)
 refine wp_seq_k fun K259 hK259 => ?_
 refine wp_seq_k fun K318 hK318 => ?_
 refine wl_region ?_
 refine mv_ rfl ?_
 obtain ⟨c319, H⟩ := if_some H
 obtain ⟨ad320, hA321⟩ := c_addr (Ft.now HP0) (pos_of (j := 0) (by first | assumption | decide) (by first | assumption | omega))
 refine st (.pointer (some (ad320.add ((0 : Int).toNat * 1)))) rfl rfl (xr_indexAddr _ _ _ rfl rfl rfl (index_at Try.underlying22 info5 hA321 (by first | assumption | decide | omega) (by first | assumption | decide | omega))) ?_
 refine st (.int .u8 (rd l0 0)) rfl rfl (xr_load _ _ rfl rfl (load_int Try.underlying5 rfl hA321 (Ft.now HP0) (by first | assumption | decide | omega) (by first | assumption | decide | omega))) ?_
 refine as_ rfl ?_
 simp only [ls0, ls1]
 refine wl_end ?_
 (try simp only [ls0, ls1])
 refine hK318 _ _ ?_
 (try clear hK318 K318)
 refine wp_block ?_
 refine wp_seq_k fun K322 hK322 => ?_
 refine wl_region ?_
 refine mv_ rfl ?_
 obtain ⟨t323, A324, H⟩ := bnd H
 refine st_call #[.int .u8 (rd l0 0)] rfl rfl Try.func93 (by kernel_rfl) rfl rfl (mp_ rfl) ?_
 refine (lex_blank.calls (rd l0 0) t323  (fun z_ => pal [(0, 0)] (c z_)) w (fun _ => pal_lt rfl _) A324).mono ?_
 rintro _ w326 ⟨C327, rfl, hs328⟩
 refine ⟨_, rfl, ?_⟩
 replace hs328 := Step.lift (U := [(0, 0)]) hs328 [] rfl rfl
 generalize up c C327 w.heap.size [(0, 0)] = C327_ at hs328
 replace HP0 := HP0.thru hs328 rfl
 replace HS := HS.trans hs328 hc rfl
 (try simp only [ls0, ls1])
 refine as_ rfl ?_
 refine wl_end ?_
 (try simp only [ls0, ls1])
 refine hK322 _ _ ?_
 (try clear hK322 K322)
 by_cases c329 : t323 = true
 ·rw [if_pos c329] at H
  (try rw [c329])
  refine wp_cond_true rfl ?_
  refine wp_seq_k fun K330 hK330 => ?_
  refine wl_region ?_
  refine mv_ rfl ?_
  obtain ⟨t331, A332, H⟩ := bnd H
  refine st_call #[.slice A0 l0.length c0, .func (.func 93) #[] #[]] rfl rfl Try.func74 (by kernel_rfl) rfl rfl (mp_ rfl) ?_
  refine (lex_run_lex_blank.calls k A0 c0 l0 t331  (fun z_ => pal [(0, 0)] (C327_ z_)) w326 (fun _ => pal_lt rfl _) (Ft.arg HP0 rfl) HCP0 A332).mono ?_
  rintro _ w334 ⟨C335, rfl, hs336⟩
  refine ⟨_, rfl, ?_⟩
  replace hs336 := Step.lift (U := [(0, 0)]) hs336 [] rfl rfl
  generalize up C327_ C335 w326.heap.size [(0, 0)] = C335_ at hs336
  replace HS := HS.trans hs336 hc rfl
  (try simp only [ls0, ls1])
  refine st (.int .i64 0) rfl rfl (xr_assign _ rfl rfl) ?_
  refine as_ rfl ?_
  refine wl_end ?_
  (try simp only [ls0, ls1])
  refine hK330 _ _ ?_
  (try clear hK330 K330)
  refine wp_ret ?_
  (try simp only [Exit.inBlock, Exit.then, Exit.noGoto])
  (try simp only [ls0, ls1])
  simp only [Option.some.injEq, Prod.mk.injEq] at H
  obtain ⟨rfl, rfl⟩ := H
  refine bodyPost_ret (results_tmp2 rfl _ _ _) rfl ?_
  exact ⟨_, rfl, HS⟩
 rw [if_neg c329] at H
 (try rw [(Bool.eq_false_iff.mpr c329)])
 refine wp_cond_false rfl ?_
 refine wp_seq_k fun K337 hK337 => ?_
 refine wl_region ?_
 refine mv_ rfl ?_
 refine st (.bool (decide ((rd l0 0) = 35))) rfl rfl (xr_bin _ _ _ rfl rfl rfl (B.eql_u8 _ _)) ?_
 refine as_ rfl ?_
 refine wl_end ?_
 (try simp only [ls0, ls1])
 refine hK337 _ _ ?_
 (try clear hK337 K337)
 by_cases c338 : (rd l0 0) = 35
 ·rw [if_pos c338] at H
  (try rw [(decide_eq_true c338)])
  refine wp_cond_true rfl ?_
  refine wp_seq_k fun K339 hK339 => ?_
  refine wl_region ?_
  refine mv_ rfl ?_
  obtain ⟨t340, A341, H⟩ := bnd H
  refine st_call #[.slice A0 l0.length c0, .func (.func 94) #[] #[]] rfl rfl Try.func74 (by kernel_rfl) rfl rfl (mp_ rfl) ?_
  refine (lex_run_lex_first_1.calls k A0 c0 l0 t340  (fun z_ => pal [(0, 0)] (C327_ z_)) w326 (fun _ => pal_lt rfl _) (Ft.arg HP0 rfl) HCP0 A341).mono ?_
  rintro _ w343 ⟨C344, rfl, hs345⟩
  refine ⟨_, rfl, ?_⟩
  replace hs345 := Step.lift (U := [(0, 0)]) hs345 [] rfl rfl
  generalize up C327_ C344 w326.heap.size [(0, 0)] = C344_ at hs345
  replace HS := HS.trans hs345 hc rfl
  (try simp only [ls0, ls1])
  refine st (.int .i64 1) rfl rfl (xr_assign _ rfl rfl) ?_
  refine as_ rfl ?_
  refine wl_end ?_
  (try simp only [ls0, ls1])
  refine hK339 _ _ ?_
  (try clear hK339 K339)
  refine wp_ret ?_
  (try simp only [Exit.inBlock, Exit.then, Exit.noGoto])
  (try simp only [ls0, ls1])
  simp only [Option.some.injEq, Prod.mk.injEq] at H
  obtain ⟨rfl, rfl⟩ := H
  refine bodyPost_ret (results_tmp2 rfl _ _ _) rfl ?_
  exact ⟨_, rfl, HS⟩
 rw [if_neg c338] at H
 (try rw [(decide_eq_false c338)])
 refine wp_cond_false rfl ?_
 refine wp_seq_k fun K346 hK346 => ?_
 refine wl_region ?_
 refine mv_ rfl ?_
 obtain ⟨t347, A348, H⟩ := bnd H
 refine st_call #[.int .u8 (rd l0 0)] rfl rfl Try.func73 (by kernel_rfl) rfl rfl (mp_ rfl) ?_
 refine (lex_letter.calls (rd l0 0) t347  (fun z_ => pal [(0, 0)] (C327_ z_)) w326 (fun _ => pal_lt rfl _) A348).mono ?_
 rintro _ w350 ⟨C351, rfl, hs352⟩
 refine ⟨_, rfl, ?_⟩
 replace hs352 := Step.lift (U := [(0, 0)]) hs352 [] rfl rfl
 generalize up C327_ C351 w326.heap.size [(0, 0)] = C351_ at hs352
 replace HP0 := HP0.thru hs352 rfl
 replace HS := HS.trans hs352 hc rfl
 (try simp only [ls0, ls1])
 refine as_ rfl ?_
 refine wl_end ?_
 (try simp only [ls0, ls1])
 refine hK346 _ _ ?_
 (try clear hK346 K346)
 by_cases c353 : t347 = true
 ·rw [if_pos c353] at H
  (try rw [c353])
  refine wp_cond_true rfl ?_
  refine wp_seq_k fun K354 hK354 => ?_
  refine wl_region ?_
  refine mv_ rfl ?_
  obtain ⟨t355, A356, H⟩ := bnd H
  refine st_call #[.slice A0 l0.length c0, .func (.func 95) #[] #[]] rfl rfl Try.func74 (by kernel_rfl) rfl rfl (mp_ rfl) ?_
  refine (lex_run_lex_first_2.calls k A0 c0 l0 t355  (fun z_ => pal [(0, 0)] (C351_ z_)) w350 (fun _ => pal_lt rfl _) (Ft.arg HP0 rfl) HCP0 A356).mono ?_
  rintro _ w358 ⟨C359, rfl, hs360⟩
  refine ⟨_, rfl, ?_⟩
  replace hs360 := Step.lift (U := [(0, 0)]) hs360 [] rfl rfl
  generalize up C351_ C359 w350.heap.size [(0, 0)] = C359_ at hs360
  replace HS := HS.trans hs360 hc rfl
  (try simp only [ls0, ls1])
  refine st (.int .i64 2) rfl rfl (xr_assign _ rfl rfl) ?_
  refine as_ rfl ?_
  refine wl_end ?_
  (try simp only [ls0, ls1])
  refine hK354 _ _ ?_
  (try clear hK354 K354)
  refine wp_ret ?_
  (try simp only [Exit.inBlock, Exit.then, Exit.noGoto])
  (try simp only [ls0, ls1])
  simp only [Option.some.injEq, Prod.mk.injEq] at H
  obtain ⟨rfl, rfl⟩ := H
  refine bodyPost_ret (results_tmp2 rfl _ _ _) rfl ?_
  exact ⟨_, rfl, HS⟩
 rw [if_neg c353] at H
 (try rw [(Bool.eq_false_iff.mpr c353)])
 refine wp_cond_false rfl ?_
 refine wp_seq_k fun K361 hK361 => ?_
 refine wl_region ?_
 refine mv_ rfl ?_
 obtain ⟨t362, A363, H⟩ := bnd H
 refine st_call #[.int .u8 (rd l0 0)] rfl rfl Try.func76 (by kernel_rfl) rfl rfl (mp_ rfl) ?_
 refine (lex_digit.calls (rd l0 0) t362  (fun z_ => pal [(0, 0)] (C351_ z_)) w350 (fun _ => pal_lt rfl _) A363).mono ?_
 rintro _ w365 ⟨C366, rfl, hs367⟩
 refine ⟨_, rfl, ?_⟩
 replace hs367 := Step.lift (U := [(0, 0)]) hs367 [] rfl rfl
 generalize up C351_ C366 w350.heap.size [(0, 0)] = C366_ at hs367
 replace HP0 := HP0.thru hs367 rfl
 replace HS := HS.trans hs367 hc rfl
 (try simp only [ls0, ls1])
 refine as_ rfl ?_
 refine wl_end ?_
 (try simp only [ls0, ls1])
 refine hK361 _ _ ?_
 (try clear hK361 K361)
 by_cases c368 : t362 = true
 ·rw [if_pos c368] at H
  (try rw [c368])
  refine wp_cond_true rfl ?_
  refine wp_seq_k fun K369 hK369 => ?_
  refine wl_region ?_
  refine mv_ rfl ?_
  obtain ⟨t370, A371, H⟩ := bnd H
  refine st_call #[.slice A0 l0.length c0, .func (.func 76) #[] #[]] rfl rfl Try.func74 (by kernel_rfl) rfl rfl (mp_ rfl) ?_
  refine (lex_run_lex_digit.calls k A0 c0 l0 t370  (fun z_ => pal [(0, 0)] (C366_ z_)) w365 (fun _ => pal_lt rfl _) (Ft.arg HP0 rfl) HCP0 A371).mono ?_
  rintro _ w373 ⟨C374, rfl, hs375⟩
  refine ⟨_, rfl, ?_⟩
  replace hs375 := Step.lift (U := [(0, 0)]) hs375 [] rfl rfl
  generalize up C366_ C374 w365.heap.size [(0, 0)] = C374_ at hs375
  replace HS := HS.trans hs375 hc rfl
  (try simp only [ls0, ls1])
  refine st (.int .i64 3) rfl rfl (xr_assign _ rfl rfl) ?_
  refine as_ rfl ?_
  refine wl_end ?_
  (try simp only [ls0, ls1])
  refine hK369 _ _ ?_
  (try clear hK369 K369)
  refine wp_ret ?_
  (try simp only [Exit.inBlock, Exit.then, Exit.noGoto])
  (try simp only [ls0, ls1])
  simp only [Option.some.injEq, Prod.mk.injEq] at H
  obtain ⟨rfl, rfl⟩ := H
  refine bodyPost_ret (results_tmp2 rfl _ _ _) rfl ?_
  exact ⟨_, rfl, HS⟩
 rw [if_neg c368] at H
 (try rw [(Bool.eq_false_iff.mpr c368)])
 refine wp_cond_false rfl ?_
 refine wp_skip ?_
 (try simp only [ls0, ls1])
 refine hK259 _ _ ?_
 (try clear hK259 K259)
 refine wp_seq_k fun K376 hK376 => ?_
 refine wp_seq_k fun K439 hK439 => ?_
 have hj465 : ∀ (kq471 : Nat) (C466 : Nat → Nat) (w467 : World) (x470 : Bool) (g_ : Nat → Value), Step c w C466 w467 [] → kq471 ≤ k → (Ft C466 [0] w467 (fun w_ => (Kd.int .u8).C w_ A0 l0.length l0)) → lex_first.j0 kq471 l0 x470 = some (r1, r2) → K439 ⟨#[.slice A0 l0.length c0, (g_ 1), (g_ 2), (g_ 3), (g_ 4), (g_ 5), (g_ 6), (g_ 7), (g_ 8), (g_ 9), (g_ 10), (g_ 11), (g_ 12), (g_ 13), (g_ 14), (g_ 15), (g_ 16), (g_ 17), (g_ 18), (g_ 19), (g_ 20), (g_ 21), (g_ 22), (g_ 23), (g_ 24), (g_ 25), (g_ 26), (g_ 27), (g_ 28), (g_ 29), (g_ 30), (g_ 31), (g_ 32), (g_ 33), (g_ 34), (g_ 35), (g_ 36), .bool x470, (g_ 38), (g_ 39), (g_ 40), (g_ 41), (g_ 42)], []⟩ w467 := by
  intro kq471 C466 w467 x470 g_ HS468 hk472 HJ469 H
  cases kq471 with
  | zero => exact absurd H (by simp [lex_first.j0])
  | succ k473 =>
   simp only [lex_first.j0] at H
   refine hK439 _ _ ?_
   (try clear hK439)
   by_cases c474 : x470 = true
   ·rw [if_pos c474] at H
    (try rw [c474])
    refine wp_cond_true rfl ?_
    refine wp_seq_k fun K475 hK475 => ?_
    refine wl_region ?_
    refine st (.int .i64 4) rfl rfl (xr_assign _ rfl rfl) ?_
    simp only [ls0, ls1]
    refine st (.int .i64 2) rfl rfl (xr_assign _ rfl rfl) ?_
    refine wl_end ?_
    (try simp only [ls0, ls1])
    refine hK475 _ _ ?_
    (try clear hK475 K475)
    refine wp_ret ?_
    (try simp only [Exit.inBlock, Exit.then, Exit.noGoto])
    (try simp only [ls0, ls1])
    simp only [Option.some.injEq, Prod.mk.injEq] at H
    obtain ⟨rfl, rfl⟩ := H
    refine bodyPost_ret (results_tmp2 rfl _ _ _) rfl ?_
    exact ⟨_, rfl, HS468⟩
   rw [if_neg c474] at H
   (try rw [(Bool.eq_false_iff.mpr c474)])
   refine wp_cond_false rfl ?_
   refine wp_skip ?_
   (try simp only [ls0, ls1])
   refine hK376 _ _ ?_
   (try clear hK376 K376)
   refine wp_seq_k fun K476 hK476 => ?_
   refine wp_seq_k fun K477 hK477 => ?_
   refine wl_region ?_
   refine mv_ rfl ?_
   obtain ⟨c478, H⟩ := if_some H
   obtain ⟨ad479, hA480⟩ := c_addr (Ft.now HJ469) (pos_of (j := 0) (by first | assumption | decide) (by first | assumption | omega))
   refine st (.pointer (some (ad479.add ((0 : Int).toNat * 1)))) rfl rfl (xr_indexAddr _ _ _ rfl rfl rfl (index_at Try.underlying22 info5 hA480 (by first | assumption | decide | omega) (by first | assumption | decide | omega))) ?_
   refine st (.int .u8 (rd l0 0)) rfl rfl (xr_load _ _ rfl rfl (load_int Try.underlying5 rfl hA480 (Ft.now HJ469) (by first | assumption | decide | omega) (by first | assumption | decide | omega))) ?_
   obtain ⟨t481, A482, H⟩ := bnd H
   refine st_call #[.string (⟨#[40, 41, 123, 125, 44, 59, 58, 46, 60, 43, 45, 42, 33, 61, 64, 47]⟩ : ByteArray), .int .u8 (rd l0 0)] rfl rfl Try.func97 (by kernel_rfl) rfl rfl (mp_ rfl) ?_
   refine (strings_IndexByte.calls (⟨#[40, 41, 123, 125, 44, 59, 58, 46, 60, 43, 45, 42, 33, 61, 64, 47]⟩ : ByteArray) (rd l0 0) t481  (fun z_ => pal [(0, 0)] (C466 z_)) w467 (fun _ => pal_lt rfl _) A482).mono ?_
   rintro _ w484 ⟨C485, rfl, hs486⟩
   refine ⟨_, rfl, ?_⟩
   replace hs486 := Step.lift (U := [(0, 0)]) hs486 [] rfl rfl
   generalize up C466 C485 w467.heap.size [(0, 0)] = C485_ at hs486
   replace HS468 := HS468.trans hs486 hc rfl
   (try simp only [ls0, ls1])
   refine st (.bool (decide (t481 ≥ 0))) rfl rfl (xr_bin _ _ _ rfl rfl rfl (B.geq_i64 _ _)) ?_
   refine wl_end ?_
   (try simp only [ls0, ls1])
   refine hK477 _ _ ?_
   (try clear hK477 K477)
   by_cases c487 : t481 ≥ 0
   ·rw [if_pos c487] at H
    (try rw [(decide_eq_true c487)])
    refine wp_cond_true rfl ?_
    refine wp_seq_k fun K488 hK488 => ?_
    refine wl_region ?_
    refine st (.int .i64 4) rfl rfl (xr_assign _ rfl rfl) ?_
    refine st (.int .i64 1) rfl rfl (xr_assign _ rfl rfl) ?_
    refine wl_end ?_
    (try simp only [ls0, ls1])
    refine hK488 _ _ ?_
    (try clear hK488 K488)
    refine wp_ret ?_
    (try simp only [Exit.inBlock, Exit.then, Exit.noGoto])
    (try simp only [ls0, ls1])
    simp only [Option.some.injEq, Prod.mk.injEq] at H
    obtain ⟨rfl, rfl⟩ := H
    refine bodyPost_ret (results_tmp2 rfl _ _ _) rfl ?_
    exact ⟨_, rfl, HS468⟩
   rw [if_neg c487] at H
   (try rw [(decide_eq_false c487)])
   refine wp_cond_false rfl ?_
   refine wp_skip ?_
   (try simp only [ls0, ls1])
   refine hK476 _ _ ?_
   (try clear hK476 K476)
   refine wp_seq_k fun K489 hK489 => ?_
   refine wl_region ?_
   refine st (.int .i64 5) rfl rfl (xr_assign _ rfl rfl) ?_
   refine st (.int .i64 1) rfl rfl (xr_assign _ rfl rfl) ?_
   refine wl_end ?_
   (try simp only [ls0, ls1])
   refine hK489 _ _ ?_
   (try clear hK489 K489)
   refine wp_ret ?_
   (try simp only [Exit.inBlock, Exit.then, Exit.noGoto])
   (try simp only [ls0, ls1])
   simp only [Option.some.injEq, Prod.mk.injEq] at H
   obtain ⟨rfl, rfl⟩ := H
   refine bodyPost_ret (results_tmp2 rfl _ _ _) rfl ?_
   exact ⟨_, rfl, HS468⟩
 refine wl_region ?_
 refine mv_ rfl ?_
 refine st (.int .i64 (l0.length : Int)) rfl rfl (xr_builtin #[.slice A0 l0.length c0] (.int .i64 (l0.length : Int)) rfl (mp_ rfl) (by first | rfl | (go_simp; done) | (go_simp; rfl) | (go_simp; exact i64_w _) | (go_simp; exact i32_w _))) ?_
 refine st (.bool (decide ((l0.length : Int) > 1))) rfl rfl (xr_bin _ _ _ rfl rfl rfl (B.gtr_i64 _ _)) ?_
 refine mv_ rfl ?_
 simp only [ls0, ls1]
 by_cases c490 : (l0.length : Int) > 1
 ·rw [if_pos c490] at H
  (try rw [(decide_eq_true c490)])
  refine on_guard (guard_on 3 true 31 rfl rfl rfl) ?_
  obtain ⟨y491, A492, H⟩ := bnd H
  refine Own.lit Kd.string (C := C366_) (i := 11) rfl 9 rfl (xs := [(⟨#[61, 61]⟩ : ByteArray), (⟨#[38, 38]⟩ : ByteArray), (⟨#[124, 124]⟩ : ByteArray), (⟨#[64, 61]⟩ : ByteArray)]) (inner := [.string (⟨#[61, 61]⟩ : ByteArray), .string (⟨#[38, 38]⟩ : ByteArray), .string (⟨#[124, 124]⟩ : ByteArray), .string (⟨#[64, 61]⟩ : ByteArray)]) (by first | (go_simp; done) | (go_simp; rfl)) (reps_cons (fk_str _ _ (⟨#[61, 61]⟩ : ByteArray)) rfl (reps_cons (fk_str _ _ (⟨#[38, 38]⟩ : ByteArray)) rfl (reps_cons (fk_str _ _ (⟨#[124, 124]⟩ : ByteArray)) rfl (reps_cons (fk_str _ _ (⟨#[64, 61]⟩ : ByteArray)) rfl (Reps.none _ _))))) (by simp only [List.length_cons, List.length_nil]; omega) (Option.some.inj A492) ?_
  intro A493 cp494 w495 C496 HO497 HC498 hs499
  replace HP0 := HP0.thru hs499 rfl
  replace HS := HS.trans hs499 hc rfl
  (try simp only [ls0, ls1])
  refine on_guard (guard_on 3 true 31 rfl rfl rfl) ?_
  refine mv_ rfl ?_
  refine on_guard (guard_on 3 true 31 rfl rfl rfl) ?_
  obtain ⟨c500, H⟩ := if_some H
  obtain ⟨y501, A502, H⟩ := bnd H
  obtain ⟨iz508, hiz508, _, hzz508, _⟩ := info_parts info5
  obtain ⟨hr507, HR505, HC506⟩ := cutTo (t := 22) (Kd.int .u8) 5 .i64 Try.underlying22 hiz508 HP0 HCP0 (by first | assumption | omega | decide) (by first | assumption | omega | decide) (Option.some.inj A502)
  refine st (.slice A0 y501.length c0) rfl rfl (xr_slice (.slice A0 l0.length c0) none (some (.int .i64 2)) none (.slice A0 y501.length c0) rfl rfl rfl rfl rfl (hr507 _)) ?_
  clear hr507 hiz508 hzz508
  refine on_guard (guard_on 3 true 31 rfl rfl rfl) ?_
  refine st (.string (strOfNums y501)) rfl rfl (xr_conv _ _ rfl rfl (string_of_reads Try.underlying22 Try.underlying5 Try.underlying9 (Kd.reads_of_C (d := (0 : Int)) (h1 := fun _ => rfl) (Ft.now HR505)))) ?_
  refine on_guard (guard_on 3 true 31 rfl rfl rfl) ?_
  obtain ⟨t509, A510, H⟩ := bnd H
  refine st_call #[.slice A493 y491.length cp494, .string (strOfNums y501)] rfl rfl Try.func96 (by kernel_rfl) rfl rfl (mp_ rfl) ?_
  refine (slices_Contains_string_string.calls k A493 cp494 y491 (strOfNums y501) t509  (fun z_ => pal [(0, 0), (11, 0)] (C496 z_)) w495 (fun _ => pal_lt rfl _) (Ft.arg (HO497.ft) rfl) HC498 A510).mono ?_
  rintro _ w512 ⟨C513, rfl, hs514⟩
  refine ⟨_, rfl, ?_⟩
  replace hs514 := Step.lift (U := [(0, 0)]) hs514 [] rfl rfl
  generalize up C496 C513 w495.heap.size [(0, 0)] = C513_ at hs514
  replace HP0 := HP0.thru hs514 rfl
  replace HS := HS.trans hs514 hc rfl
  (try simp only [ls0, ls1])
  refine st (.bool t509) rfl rfl (xr_pick true _ rfl rfl rfl) ?_
  refine wl_end ?_
  (try simp only [ls0, ls1])
  exact jmp (fun g_ => hj465 _ _ _ (t509) g_ HS (by omega) HP0 H) rfl
 rw [if_neg c490] at H
 (try rw [(decide_eq_false c490)])
 refine sk_guard (guard_off 3 true 31 rfl rfl false (by decide) rfl) rfl ?_
 refine sk_guard (guard_off 3 true 31 rfl rfl false (by decide) rfl) rfl ?_
 refine sk_guard (guard_off 3 true 31 rfl rfl false (by decide) rfl) rfl ?_
 refine sk_guard (guard_off 3 true 31 rfl rfl false (by decide) rfl) rfl ?_
 simp only [ls0, ls1]
 refine sk_guard (guard_off 3 true 31 rfl rfl false (by decide) rfl) rfl ?_
 refine st (.bool false) rfl rfl (xr_pick false _ rfl rfl rfl) ?_
 refine wl_end ?_
 (try simp only [ls0, ls1])
 exact jmp (fun g_ => hj465 _ _ _ (false) g_ HS (by omega) HP0 H) rfl

/-! ### lex_All: function 18 -/
def lex_All.l0 : Nat → (List Int) → (List (S28)) → Int → Option ((List (S28)))
  | 0, _, _, _ => none
  | k + 1, l0, x206, x212 => if x212 < (l0.length : Int) then (if 0 ≤ x212 then (if x212 ≤ (l0.length : Int) then ((some (l0.drop (x212 : Int).toNat : List Int)).bind fun y228 => ((lex_first.f k y228).bind fun bt236 => (if x206.length < 5864062014805 then ((some (x206 ++ [(⟨bt236.1, x212, wrap64 (x212 + bt236.2)⟩ : S28)] : List (S28))).bind fun y245 => (lex_All.l0 k l0 y245 (wrap64 (x212 + bt236.2)))) else (none)))) else (none)) else (none)) else (some x206)
def lex_All.f (k : Nat) (l0 : List Int) : Option ((List (S28))) := lex_All.l0 k l0 ([] : List (S28)) 0

set_option maxHeartbeats 8000000 in
set_option maxRecDepth 100000 in
theorem lex_All.calls (k : Nat) (A0 : Option Addr) (c0 : Nat) (l0 : List Int) (r : List (S28)) (c : Nat → Nat) (w : World) (hc : ∀ k, c k < 10) (HP0 : Ft c [0] w (fun w_ => (Kd.int .u8).C w_ A0 l0.length l0)) (HCP0 : l0.length ≤ c0) (H : lex_All.f k l0 = some r) :
    Calls Try.prog 18 #[.slice A0 l0.length c0] w fun e w' => ∃ (c' : Nat → Nat) (A_r : Option Addr) (c_r : Nat), e = .returned (.slice A_r r.length c_r) ∧ Step c w c' w' [] ∧ Own c' 5 w' k28 28 (.slice A_r r.length c_r) r ∧ r.length ≤ c_r := by
 unfold lex_All.f at H
 have HS := Step.refl c w []
 go_enter Try.func18, Try.ntmps18
 refine wp_seq_k fun K128 hK128 => ?_
 refine wl_region ?_
 refine st (.slice none 0 0) rfl rfl (xr_assign _ rfl rfl) ?_
 refine wl_end ?_
 (try simp only [ls0, ls1])
 refine hK128 _ _ ?_
 (try clear hK128 K128)
 refine wp_seq_k fun K129 hK129 => ?_
 refine wl_region ?_
 refine st (.slice none 0 0) rfl rfl (xr_assign _ rfl rfl) ?_
 refine wl_end ?_
 (try simp only [ls0, ls1])
 refine hK129 _ _ ?_
 (try clear hK129 K129)
 refine wp_seq_k fun K130 hK130 => ?_
 refine wp_seq_k fun K131 hK131 => ?_
 refine wl_region ?_
 refine st (.int .i64 0) rfl rfl (xr_assign _ rfl rfl) ?_
 refine wl_end ?_
 (try simp only [ls0, ls1])
 refine hK131 _ _ ?_
 (try clear hK131 K131)
 refine wp_block ?_
 (try simp only [ls0, ls1])
 refine wp_looped (looped_fin (fun kq215 a_ w214 => ∃ (C213 : Nat → Nat) (x212 : Int) (A207 : Option Addr) (n208 cp209 : Nat) (x206 : List (S28)) (g_ : Nat → Value), a_ = ⟨#[.slice A0 l0.length c0, (g_ 1), (g_ 2), .slice A207 n208 cp209, .int .i64 x212, (g_ 5), (g_ 6), (g_ 7), (g_ 8), (g_ 9), (g_ 10), (g_ 11), (g_ 12), (g_ 13), (g_ 14), (g_ 15), (g_ 16), (g_ 17), (g_ 18), (g_ 19), (g_ 20), (g_ 21), (g_ 22), (g_ 23), (g_ 24), (g_ 25), (g_ 26), (g_ 27), (g_ 28), (g_ 29), (g_ 30)], []⟩ ∧ Step c w C213 w214 [] ∧ kq215 ≤ k ∧ (Ft C213 [0] w214 (fun w_ => (Kd.int .u8).C w_ A0 l0.length l0)) ∧ (Own C213 11 w214 k28 28 (.slice A207 n208 cp209) x206) ∧ (n208 ≤ cp209) ∧ lex_All.l0 kq215 l0 x206 x212 = some r) ?step fun hL_ => ?init)
 case init =>
  exact jmpL (fun a_ h_ => hL_ k a_ _ h_) (fun g_ => ⟨_, 0, none, 0, 0, ([] : List (S28)), g_, rfl, HS, Nat.le_refl _, HP0, (Own.nil _ _ _ _ _), (Nat.le_refl 0), H⟩) rfl
 case step =>
  intro kq215 ih218 a219 w214 hr220
  obtain ⟨C213, x212, A207, n208, cp209, x206, g_, rfl, HS216, hk217, HJ205, HJ211, HC210, H⟩ := hr220
  refine looped_round ?_
  obtain rfl : n208 = x206.length := HJ211.at_.1
  cases kq215 with
  | zero => exact absurd H (by simp [lex_All.l0])
  | succ k221 =>
   simp only [lex_All.l0] at H
   refine wp_seq_k fun K222 hK222 => ?_
   refine wp_seq_k fun K223 hK223 => ?_
   refine wl_region ?_
   refine mv_ rfl ?_
   refine mv_ rfl ?_
   refine st (.int .i64 (l0.length : Int)) rfl rfl (xr_builtin #[.slice A0 l0.length c0] (.int .i64 (l0.length : Int)) rfl (mp_ rfl) (by first | rfl | (go_simp; done) | (go_simp; rfl) | (go_simp; exact i64_w _) | (go_simp; exact i32_w _))) ?_
   refine st (.bool (decide (x212 < (l0.length : Int)))) rfl rfl (xr_bin _ _ _ rfl rfl rfl (B.lss_i64 _ _)) ?_
   simp only [ls0, ls1]
   refine wl_end ?_
   (try simp only [ls0, ls1])
   refine hK223 _ _ ?_
   (try clear hK223 K223)
   by_cases c224 : x212 < (l0.length : Int)
   ·rw [if_pos c224] at H
    (try rw [(decide_eq_true c224)])
    refine wp_cond_true rfl ?_
    refine wp_skip ?_
    (try simp only [ls0, ls1])
    refine hK222 _ _ ?_
    (try clear hK222 K222)
    refine wp_block ?_
    refine wp_seq_k fun K225 hK225 => ?_
    refine wl_region ?_
    refine mv_ rfl ?_
    refine mv_ rfl ?_
    obtain ⟨c226, H⟩ := if_some H
    obtain ⟨c227, H⟩ := if_some H
    obtain ⟨y228, A229, H⟩ := bnd H
    obtain ⟨iz235, hiz235, _, hzz235, _⟩ := info_parts info5
    obtain ⟨A230, cp231, hr234, HR232, HC233⟩ := cutFrom (t := 22) (Kd.int .u8) 5 .i64 Try.underlying22 hiz235 hzz235 HJ205 HCP0 (by first | assumption | omega | decide) (by first | assumption | omega | decide) (Option.some.inj A229)
    refine st (.slice A230 y228.length cp231) rfl rfl (xr_slice (.slice A0 l0.length c0) (some (.int .i64 x212)) none none (.slice A230 y228.length cp231) rfl rfl rfl rfl rfl (hr234 _)) ?_
    clear hr234 hiz235 hzz235
    obtain ⟨⟨t236, t237⟩, A238, H⟩ := bnd H
    (try dsimp only at H)
    refine st_call #[.slice A230 y228.length cp231] rfl rfl Try.func66 (by kernel_rfl) rfl rfl (mp_ rfl) ?_
    refine (lex_first.calls k221 A230 cp231 y228 t236 t237  (fun z_ => pal [(0, 0)] (C213 z_)) w214 (fun _ => pal_lt rfl _) (Ft.arg HR232 rfl) HC233 A238).mono ?_
    rintro _ w240 ⟨C241, rfl, hs242⟩
    refine ⟨_, rfl, ?_⟩
    replace hs242 := Step.lift (U := [(0, 0)]) hs242 [] rfl rfl
    generalize up C213 C241 w214.heap.size [(0, 0)] = C241_ at hs242
    replace HJ205 := HJ205.thru hs242 rfl
    replace HJ211 := HJ211.thru hs242 rfl
    replace HS216 := HS216.trans hs242 hc rfl
    (try simp only [ls0, ls1])
    refine mv_ rfl ?_
    refine st (.int .i64 t236) rfl rfl (xr_extract (.tuple #[.int .i64 t236, .int .i64 t237]) _ rfl rfl rfl) ?_
    refine st (.int .i64 t237) rfl rfl (xr_extract (.tuple #[.int .i64 t236, .int .i64 t237]) _ rfl rfl rfl) ?_
    refine as_ rfl ?_
    simp only [ls0, ls1]
    refine as_ rfl ?_
    refine wl_end ?_
    (try simp only [ls0, ls1])
    refine hK225 _ _ ?_
    (try clear hK225 K225)
    refine wp_seq_k fun K243 hK243 => ?_
    refine wl_region ?_
    refine mv_ rfl ?_
    refine mv_ rfl ?_
    refine mv_ rfl ?_
    refine mv_ rfl ?_
    simp only [ls0, ls1]
    refine mv_ rfl ?_
    refine st (.int .i64 (wrap64 (x212 + t237))) rfl rfl (xr_bin _ _ _ rfl rfl rfl (B.add_i64 _ _)) ?_
    refine st (.agg #[.int .i64 t236, .int .i64 x212, .int .i64 (wrap64 (x212 + t237))]) rfl rfl (xr_build #[(0, .int .i64 t236), (1, .int .i64 x212), (2, .int .i64 (wrap64 (x212 + t237)))] (.agg #[.int .i64 t236, .int .i64 x212, .int .i64 (wrap64 (x212 + t237))]) rfl (mp_ rfl) (by first | rfl | (go_simp; done) | (go_simp; rfl) | (go_simp; exact i64_w _) | (go_simp; exact i32_w _))) ?_
    refine ev_run (w1 := w240.alloc (.cells #[.int .i64 t236, .int .i64 x212, .int .i64 (wrap64 (x212 + t237))] 28)) (.slice (some ⟨w240.heap.size, 0, none⟩) 1 1) rfl rfl (by first | (go_simp; done) | (go_simp; rfl)) ?_
    (try simp only [Act.put, List.setIfInBounds_toArray, ls0, ls1])
    obtain ⟨c244, H⟩ := if_some H
    obtain ⟨y245, A246, H⟩ := bnd H
    refine Own.append k28 (C := C241_) (i := 11) rfl (.tmp 18) (.tmp 25) 24 28 (.agg #[(.int .i64 0), (.int .i64 0), (.int .i64 0)]) 24 rfl Try.underlying24 info28 rfl (by decide) (by decide) (.slice A207 x206.length cp209) x206 (⟨t236, x212, wrap64 (x212 + t237)⟩ : S28) [.int .i64 t236, .int .i64 x212, .int .i64 (wrap64 (x212 + t237))] rfl rfl (k28_mkF _ _ (⟨t236, x212, wrap64 (x212 + t237)⟩ : S28)) HJ211 (by decide) (by omega) (Option.some.inj A246) ?_
    intro A247 cp248 w249 C250 HO251 HC252 hs253
    replace HJ205 := HJ205.thru hs253 rfl
    replace HS216 := HS216.trans hs253 hc rfl
    (try simp only [ls0, ls1])
    refine as_ rfl ?_
    refine wl_end ?_
    (try simp only [ls0, ls1])
    refine hK243 _ _ ?_
    (try clear hK243 K243)
    refine wl_region ?_
    refine mv_ rfl ?_
    refine mv_ rfl ?_
    refine st (.int .i64 (wrap64 (x212 + t237))) rfl rfl (xr_bin _ _ _ rfl rfl rfl (B.add_i64 _ _)) ?_
    refine as_ rfl ?_
    simp only [ls0, ls1]
    refine wl_end ?_
    (try simp only [ls0, ls1])
    exact jmpL (fun a_ h_ => ih218 k221 (by omega) a_ _ h_) (fun g_ => ⟨_, wrap64 (x212 + t237), A247, y245.length, cp248, y245, g_, rfl, HS216, (by omega), HJ205, HO251, HC252, H⟩) rfl
   rw [if_neg c224] at H
   (try rw [(decide_eq_false c224)])
   refine wp_cond_false rfl ?_
   refine wp_exit ?_
   (try simp only [ls0, ls1])
   refine hK130 _ _ ?_
   (try clear hK130 K130)
   refine wp_seq_k fun K254 hK254 => ?_
   refine wl_region ?_
   refine mv_ rfl ?_
   refine as_ rfl ?_
   refine wl_end ?_
   (try simp only [ls0, ls1])
   refine hK254 _ _ ?_
   (try clear hK254 K254)
   refine wp_ret ?_
   (try simp only [Exit.inBlock, Exit.then, Exit.noGoto])
   (try simp only [ls0, ls1])
   replace HJ205 := Ft.recol (a := 11) (b := 5) HJ205 (.inl rfl)
   replace HJ211 := Own.recolor (b := 5) HJ211 (by decide)
   replace HS216 := Step.recol (a := 11) (b := 5) HS216 hc (by decide)
   obtain rfl := Option.some.inj H
   refine bodyPost_ret (results_tmp rfl _ _ _) rfl ?_
   exact ⟨_, A207, cp209, rfl, HS216, HJ211, HC210⟩

/-! ### lex_Bad_1: function 72 -/
def lex_Bad_1.f (a0_0 : Int) (a0_1 : Int) (a0_2 : Int) : Option (Bool) := some (decide (a0_0 = 5))
set_option maxHeartbeats 8000000 in
set_option maxRecDepth 100000 in
theorem lex_Bad_1.calls (a0_0 : Int) (a0_1 : Int) (a0_2 : Int) (r : Bool) (c : Nat → Nat) (w : World) (hc : ∀ k, c k < 10)  (H : lex_Bad_1.f a0_0 a0_1 a0_2 = some r) :
    Calls Try.prog 72 #[.agg #[.int .i64 a0_0, .int .i64 a0_1, .int .i64 a0_2]] w fun e w' => ∃ (c' : Nat → Nat) , e = .returned (.bool r) ∧ Step c w c' w' [] := by
 unfold lex_Bad_1.f at H
 have HS := Step.refl c w []
 go_enter Try.func72, Try.ntmps72
 refine wp_seq_k fun K8 hK8 => ?_
 refine wl_region ?_
 refine bx_new (C := c) 28 ([.int .i64 a0_0, .int .i64 a0_1, .int .i64 a0_2]) 11 rfl rfl (by first | (go_simp; done) | (go_simp; rfl)) ?_
 intro g9 w10 C11 HX12 hs13
 replace HS := HS.trans hs13 hc rfl
 (try simp only [ls0, ls1])
 refine st (.bool false) rfl rfl (xr_assign _ rfl rfl) ?_
 refine wl_end ?_
 (try simp only [ls0, ls1])
 refine hK8 _ _ ?_
 (try clear hK8 K8)
 refine wp_seq_k fun K14 hK14 => ?_
 refine wl_region ?_
 refine st (.pointer (some ⟨g9, 0, none⟩)) rfl rfl (xr_fieldAddr _ _ rfl rfl (bx_field2 Try.underlying28 rfl rfl (by kernel_rfl))) ?_
 refine st (.int .i64 a0_0) rfl rfl (xr_load _ _ rfl rfl (load_cell Try.underlying3 rfl (bx_cell (HX12).2 0 rfl))) ?_
 refine st (.bool (decide (a0_0 = 5))) rfl rfl (xr_bin _ _ _ rfl rfl rfl (B.eql_i64 _ _)) ?_
 refine as_ rfl ?_
 simp only [ls0, ls1]
 refine wl_end ?_
 (try simp only [ls0, ls1])
 refine hK14 _ _ ?_
 (try clear hK14 K14)
 refine wp_ret ?_
 (try simp only [Exit.inBlock, Exit.then, Exit.noGoto])
 (try simp only [ls0, ls1])
 obtain rfl := Option.some.inj H
 refine bodyPost_ret (results_tmp rfl _ _ _) rfl ?_
 exact ⟨_, rfl, HS⟩

/-! ### api_Tok_lex_Bad_1: function 71 -/
def api_Tok_lex_Bad_1.l0 : Nat → (List (S28)) → Int → Option (Int)
  | 0, _, _ => none
  | k + 1, l0, x116 => if x116 < (l0.length : Int) then (if 0 ≤ x116 then ((lex_Bad_1.f ((rd_T28 l0 x116).f0) ((rd_T28 l0 x116).f1) ((rd_T28 l0 x116).f2)).bind fun t136 => (if t136 = true then (some x116) else (api_Tok_lex_Bad_1.l0 k l0 (wrap64 (x116 + 1))))) else (none)) else (some (-1))
def api_Tok_lex_Bad_1.f (k : Nat) (l0 : List (S28)) : Option (Int) := api_Tok_lex_Bad_1.l0 k l0 0

set_option maxHeartbeats 8000000 in
set_option maxRecDepth 100000 in
theorem api_Tok_lex_Bad_1.calls (k : Nat) (A0 : Option Addr) (c0 : Nat) (l0 : List (S28)) (r : Int) (c : Nat → Nat) (w : World) (hc : ∀ k, c k < 10) (HP0 : Ft c [0] w (fun w_ => k28.C w_ A0 l0.length l0)) (HCP0 : l0.length ≤ c0) (H : api_Tok_lex_Bad_1.f k l0 = some r) :
    Calls Try.prog 71 #[.slice A0 l0.length c0, .func (.func 72) #[] #[]] w fun e w' => ∃ (c' : Nat → Nat) , e = .returned (.int .i64 r) ∧ Step c w c' w' [] := by
 unfold api_Tok_lex_Bad_1.f at H
 have HS := Step.refl c w []
 go_enter Try.func71, Try.ntmps71
 refine wp_seq_k fun K73 hK73 => ?_
 refine wl_region ?_
 refine st (.int .i64 0) rfl rfl (xr_assign _ rfl rfl) ?_
 refine wl_end ?_
 (try simp only [ls0, ls1])
 refine hK73 _ _ ?_
 (try clear hK73 K73)
 refine wp_seq_k fun K74 hK74 => ?_
 refine wp_seq_k fun K75 hK75 => ?_
 refine wl_region ?_
 refine mv_ rfl ?_
 refine st (.int .i64 (l0.length : Int)) rfl rfl (xr_builtin #[.slice A0 l0.length c0] (.int .i64 (l0.length : Int)) rfl (mp_ rfl) (by first | rfl | (go_simp; done) | (go_simp; rfl) | (go_simp; exact i64_w _) | (go_simp; exact i32_w _))) ?_
 refine st (.int .i64 0) rfl rfl (xr_move _ rfl rfl) ?_
 refine wl_end ?_
 (try simp only [ls0, ls1])
 refine hK75 _ _ ?_
 (try clear hK75 K75)
 refine wp_block ?_
 (try simp only [ls0, ls1])
 refine wp_looped (looped_fin (fun kq119 a_ w118 => ∃ (C117 : Nat → Nat) (x116 : Int) (g_ : Nat → Value), a_ = ⟨#[.slice A0 l0.length c0, .func (.func 72) #[] #[], (g_ 2), (g_ 3), (g_ 4), (g_ 5), (g_ 6), .int .i64 (l0.length : Int), .int .i64 x116, (g_ 9), (g_ 10), (g_ 11), (g_ 12), (g_ 13), (g_ 14), (g_ 15), (g_ 16), (g_ 17), (g_ 18)], []⟩ ∧ Step c w C117 w118 [] ∧ kq119 ≤ k ∧ (Ft C117 [0] w118 (fun w_ => k28.C w_ A0 l0.length l0)) ∧ api_Tok_lex_Bad_1.l0 kq119 l0 x116 = some r) ?step fun hL_ => ?init)
 case init =>
  exact jmpL (fun a_ h_ => hL_ k a_ _ h_) (fun g_ => ⟨_, 0, g_, rfl, HS, Nat.le_refl _, HP0, H⟩) rfl
 case step =>
  intro kq119 ih122 a123 w118 hr124
  obtain ⟨C117, x116, g_, rfl, HS120, hk121, HJ115, H⟩ := hr124
  refine looped_round ?_
  cases kq119 with
  | zero => exact absurd H (by simp [api_Tok_lex_Bad_1.l0])
  | succ k125 =>
   simp only [api_Tok_lex_Bad_1.l0] at H
   refine wp_seq_k fun K126 hK126 => ?_
   refine wl_region ?_
   refine st (.bool (decide (x116 < (l0.length : Int)))) rfl rfl (xr_bin _ _ _ rfl rfl rfl (B.lss_i64 _ _)) ?_
   refine wl_end ?_
   (try simp only [ls0, ls1])
   refine hK126 _ _ ?_
   (try clear hK126 K126)
   refine wp_seq_k fun K127 hK127 => ?_
   by_cases c128 : x116 < (l0.length : Int)
   ·rw [if_pos c128] at H
    (try rw [(decide_eq_true c128)])
    refine wp_cond_true rfl ?_
    refine wp_skip ?_
    (try simp only [ls0, ls1])
    refine hK127 _ _ ?_
    (try clear hK127 K127)
    refine wp_seq_k fun K129 hK129 => ?_
    refine wp_block ?_
    refine wp_seq_k fun K130 hK130 => ?_
    refine wl_region ?_
    refine mv_ rfl ?_
    refine as_ rfl ?_
    refine wl_end ?_
    (try simp only [ls0, ls1])
    refine hK130 _ _ ?_
    (try clear hK130 K130)
    refine wp_seq_k fun K131 hK131 => ?_
    refine wl_region ?_
    refine mv_ rfl ?_
    refine mv_ rfl ?_
    refine mv_ rfl ?_
    obtain ⟨c132, H⟩ := if_some H
    obtain ⟨ad133, hA134⟩ := c_addr (Ft.now HJ115) (pos_of (j := x116) (by first | assumption | decide) (by first | assumption | omega))
    refine st (.pointer (some (ad133.add ((x116 : Int).toNat * 3)))) rfl rfl (xr_indexAddr _ _ _ rfl rfl rfl (index_at Try.underlying24 info28 hA134 (by first | assumption | decide | omega) (by first | assumption | decide | omega))) ?_
    simp only [ls0, ls1]
    refine st (.agg #[.int .i64 ((rd_T28 l0 x116).f0), .int .i64 ((rd_T28 l0 x116).f1), .int .i64 ((rd_T28 l0 x116).f2)]) rfl rfl (xr_load (.pointer (some (ad133.add ((x116 : Int).toNat * 3)))) (.agg #[.int .i64 ((rd_T28 l0 x116).f0), .int .i64 ((rd_T28 l0 x116).f1), .int .i64 ((rd_T28 l0 x116).f2)]) rfl rfl (by obtain ⟨ad_, cs_, e_, _, hK_, hc_⟩ := Kd.C_get (Ft.now HJ115) z28 x116 (by first | assumption | decide | omega) (by first | assumption | decide | omega); rw [hA134] at e_; injection e_ with e_; subst e_; obtain rfl := k28_open hK_; exact load_agg (cs := [.int .i64 ((rd_T28 l0 x116).f0), .int .i64 ((rd_T28 l0 x116).f1), .int .i64 ((rd_T28 l0 x116).f2)]) Try.underlying28 rfl (by kernel_rfl) (fun j_ u_ hu_ => by first | (rw [add_add]; exact hc_ _ _ hu_) | exact add_cells hc_ hu_))) ?_
    obtain ⟨t136, A137, H⟩ := bnd H
    refine st_callV #[.agg #[.int .i64 ((rd_T28 l0 x116).f0), .int .i64 ((rd_T28 l0 x116).f1), .int .i64 ((rd_T28 l0 x116).f2)]] #[] #[.agg #[.int .i64 ((rd_T28 l0 x116).f0), .int .i64 ((rd_T28 l0 x116).f1), .int .i64 ((rd_T28 l0 x116).f2)]] rfl rfl Try.func72 (by kernel_rfl) rfl rfl rfl (mp_ rfl) (by rfl) ?_
    refine (lex_Bad_1.calls ((rd_T28 l0 x116).f0) ((rd_T28 l0 x116).f1) ((rd_T28 l0 x116).f2) t136  (fun z_ => pal [(0, 0)] (C117 z_)) w118 (fun _ => pal_lt rfl _) A137).mono ?_
    rintro _ w139 ⟨C140, rfl, hs141⟩
    refine ⟨_, rfl, ?_⟩
    replace hs141 := Step.lift (U := [(0, 0)]) hs141 [] rfl rfl
    generalize up C117 C140 w118.heap.size [(0, 0)] = C140_ at hs141
    replace HJ115 := HJ115.thru hs141 rfl
    replace HS120 := HS120.trans hs141 hc rfl
    (try simp only [ls0, ls1])
    refine wl_end ?_
    (try simp only [ls0, ls1])
    refine hK131 _ _ ?_
    (try clear hK131 K131)
    by_cases c142 : t136 = true
    ·rw [if_pos c142] at H
     (try rw [c142])
     refine wp_cond_true rfl ?_
     refine wp_seq_k fun K143 hK143 => ?_
     refine wl_region ?_
     refine mv_ rfl ?_
     refine as_ rfl ?_
     refine wl_end ?_
     (try simp only [ls0, ls1])
     refine hK143 _ _ ?_
     (try clear hK143 K143)
     refine wp_ret ?_
     (try simp only [Exit.inBlock, Exit.then, Exit.noGoto])
     (try simp only [ls0, ls1])
     obtain rfl := Option.some.inj H
     refine bodyPost_ret (results_tmp rfl _ _ _) rfl ?_
     exact ⟨_, rfl, HS120⟩
    rw [if_neg c142] at H
    (try rw [(Bool.eq_false_iff.mpr c142)])
    refine wp_cond_false rfl ?_
    refine wp_skip ?_
    (try simp only [ls0, ls1])
    refine hK129 _ _ ?_
    (try clear hK129 K129)
    refine wl_region ?_
    refine st (.int .i64 (wrap64 (x116 + 1))) rfl rfl (xr_bin _ _ _ rfl rfl rfl (B.add_i64 _ _)) ?_
    refine mv_ rfl ?_
    refine wl_end ?_
    (try simp only [ls0, ls1])
    exact jmpL (fun a_ h_ => ih122 k125 (by omega) a_ _ h_) (fun g_ => ⟨_, wrap64 (x116 + 1), g_, rfl, HS120, (by omega), HJ115, H⟩) rfl
   rw [if_neg c128] at H
   (try rw [(decide_eq_false c128)])
   refine wp_cond_false rfl ?_
   refine wp_exit ?_
   (try simp only [ls0, ls1])
   refine hK74 _ _ ?_
   (try clear hK74 K74)
   refine wp_seq_k fun K144 hK144 => ?_
   refine wl_region ?_
   refine st (.int .i64 (-1)) rfl rfl (xr_assign _ rfl rfl) ?_
   refine wl_end ?_
   (try simp only [ls0, ls1])
   refine hK144 _ _ ?_
   (try clear hK144 K144)
   refine wp_ret ?_
   (try simp only [Exit.inBlock, Exit.then, Exit.noGoto])
   (try simp only [ls0, ls1])
   obtain rfl := Option.some.inj H
   refine bodyPost_ret (results_tmp rfl _ _ _) rfl ?_
   exact ⟨_, rfl, HS120⟩

/-! ### lex_Bad: function 26 -/
def lex_Bad.f (k : Nat) (l0 : List (S28)) : Option (Int × Int × Int × Bool) := (api_Tok_lex_Bad_1.f k l0).bind fun t37 => (if t37 < 0 then (some (0, 0, 0, false)) else (if 0 ≤ t37 then (if t37 < (l0.length : Int) then (some ((rd_T28 l0 t37).f0, (rd_T28 l0 t37).f1, (rd_T28 l0 t37).f2, true)) else (none)) else (none)))

set_option maxHeartbeats 8000000 in
set_option maxRecDepth 100000 in
theorem lex_Bad.calls (k : Nat) (A0 : Option Addr) (c0 : Nat) (l0 : List (S28)) (r1 : Int) (r2 : Int) (r3 : Int) (r4 : Bool) (c : Nat → Nat) (w : World) (hc : ∀ k, c k < 10) (HP0 : Ft c [0] w (fun w_ => k28.C w_ A0 l0.length l0)) (HCP0 : l0.length ≤ c0) (H : lex_Bad.f k l0 = some (r1, r2, r3, r4)) :
    Calls Try.prog 26 #[.slice A0 l0.length c0] w fun e w' => ∃ (c' : Nat → Nat) , e = .returned (.tuple #[.agg #[.int .i64 r1, .int .i64 r2, .int .i64 r3], .bool r4]) ∧ Step c w c' w' [] := by
 unfold lex_Bad.f at H
 have HS := Step.refl c w []
 go_enter Try.func26, Try.ntmps26
 refine wp_seq_k fun K30 hK30 => ?_
 refine wl_region ?_
 refine bx_new (C := c) 28 ([.int .i64 0, .int .i64 0, .int .i64 0]) 11 rfl rfl (by first | (go_simp; done) | (go_simp; rfl)) ?_
 intro g31 w32 C33 HX34 hs35
 replace HP0 := HP0.thru hs35 rfl
 replace HS := HS.trans hs35 hc rfl
 (try simp only [ls0, ls1])
 refine st (.bool false) rfl rfl (xr_assign _ rfl rfl) ?_
 refine wl_end ?_
 (try simp only [ls0, ls1])
 refine hK30 _ _ ?_
 (try clear hK30 K30)
 refine wp_seq_k fun K36 hK36 => ?_
 refine wl_region ?_
 refine mv_ rfl ?_
 obtain ⟨t37, A38, H⟩ := bnd H
 refine st_call #[.slice A0 l0.length c0, .func (.func 72) #[] #[]] rfl rfl Try.func71 (by kernel_rfl) rfl rfl (mp_ rfl) ?_
 refine (api_Tok_lex_Bad_1.calls k A0 c0 l0 t37  (fun z_ => pal [(0, 0)] (C33 z_)) w32 (fun _ => pal_lt rfl _) (Ft.arg HP0 rfl) HCP0 A38).mono ?_
 rintro _ w40 ⟨C41, rfl, hs42⟩
 refine ⟨_, rfl, ?_⟩
 replace hs42 := Step.lift (U := [(0, 0)]) hs42 [] rfl rfl
 generalize up C33 C41 w32.heap.size [(0, 0)] = C41_ at hs42
 replace HP0 := HP0.thru hs42 rfl
 replace HX34 := HX34.thru hs42 rfl
 replace HS := HS.trans hs42 hc rfl
 (try simp only [ls0, ls1])
 refine as_ rfl ?_
 refine wl_end ?_
 (try simp only [ls0, ls1])
 refine hK36 _ _ ?_
 (try clear hK36 K36)
 refine wp_seq_k fun K43 hK43 => ?_
 refine wp_seq_k fun K44 hK44 => ?_
 refine wl_region ?_
 refine mv_ rfl ?_
 refine st (.bool (decide (t37 < 0))) rfl rfl (xr_bin _ _ _ rfl rfl rfl (B.lss_i64 _ _)) ?_
 refine wl_end ?_
 (try simp only [ls0, ls1])
 refine hK44 _ _ ?_
 (try clear hK44 K44)
 by_cases c45 : t37 < 0
 ·rw [if_pos c45] at H
  (try rw [(decide_eq_true c45)])
  refine wp_cond_true rfl ?_
  refine wp_seq_k fun K46 hK46 => ?_
  refine wl_region ?_
  refine st (.agg #[.int .i64 0, .int .i64 0, .int .i64 0]) rfl rfl (xr_build #[] (.agg #[.int .i64 0, .int .i64 0, .int .i64 0]) rfl (mp_ rfl) (by first | rfl | (go_simp; done) | (go_simp; rfl) | (go_simp; exact i64_w _) | (go_simp; exact i32_w _))) ?_
  refine bx_store (C := C41_) (z := 11) (g := g31) (j := 0) (tb := 28) (u := .agg #[.int .i64 0, .int .i64 0, .int .i64 0]) (seg := [.int .i64 0, .int .i64 0, .int .i64 0]) (xs := [.int .i64 0, .int .i64 0, .int .i64 0]) rfl rfl rfl rfl rfl rfl (by first | kernel_rfl | rfl) (by simp [Value.oneCell']) HX34 (by simp only [List.length_cons, List.length_nil]; omega) rfl ?_
  intro w47 HX48 hs49
  replace HS := HS.trans hs49 hc rfl
  (try simp only [ls0, ls1])
  refine st (.bool false) rfl rfl (xr_assign _ rfl rfl) ?_
  refine wl_end ?_
  (try simp only [ls0, ls1])
  refine hK46 _ _ ?_
  (try clear hK46 K46)
  refine wp_ret ?_
  (try simp only [Exit.inBlock, Exit.then, Exit.noGoto])
  (try simp only [ls0, ls1])
  simp only [Option.some.injEq, Prod.mk.injEq] at H
  obtain ⟨rfl, rfl, rfl, rfl⟩ := H
  refine bodyPost_ret (res_ct rfl rfl (load_of (load_agg (cs := [.int .i64 0, .int .i64 0, .int .i64 0]) Try.underlying28 rfl (by kernel_rfl) (bx_cells (HX48).2 0 rfl)))) rfl ?_
  exact ⟨_, rfl, HS⟩
 rw [if_neg c45] at H
 (try rw [(decide_eq_false c45)])
 refine wp_cond_false rfl ?_
 refine wp_skip ?_
 (try simp only [ls0, ls1])
 refine hK43 _ _ ?_
 (try clear hK43 K43)
 refine wp_seq_k fun K50 hK50 => ?_
 refine wl_region ?_
 refine mv_ rfl ?_
 refine mv_ rfl ?_
 obtain ⟨c51, H⟩ := if_some H
 obtain ⟨c52, H⟩ := if_some H
 obtain ⟨ad53, hA54⟩ := c_addr (Ft.now HP0) (pos_of (j := t37) (by first | assumption | decide) (by first | assumption | omega))
 refine st (.pointer (some (ad53.add ((t37 : Int).toNat * 3)))) rfl rfl (xr_indexAddr _ _ _ rfl rfl rfl (index_at Try.underlying24 info28 hA54 (by first | assumption | decide | omega) (by first | assumption | decide | omega))) ?_
 refine st (.agg #[.int .i64 ((rd_T28 l0 t37).f0), .int .i64 ((rd_T28 l0 t37).f1), .int .i64 ((rd_T28 l0 t37).f2)]) rfl rfl (xr_load (.pointer (some (ad53.add ((t37 : Int).toNat * 3)))) (.agg #[.int .i64 ((rd_T28 l0 t37).f0), .int .i64 ((rd_T28 l0 t37).f1), .int .i64 ((rd_T28 l0 t37).f2)]) rfl rfl (by obtain ⟨ad_, cs_, e_, _, hK_, hc_⟩ := Kd.C_get (Ft.now HP0) z28 t37 (by first | assumption | decide | omega) (by first | assumption | decide | omega); rw [hA54] at e_; injection e_ with e_; subst e_; obtain rfl := k28_open hK_; exact load_agg (cs := [.int .i64 ((rd_T28 l0 t37).f0), .int .i64 ((rd_T28 l0 t37).f1), .int .i64 ((rd_T28 l0 t37).f2)]) Try.underlying28 rfl (by kernel_rfl) (fun j_ u_ hu_ => by first | (rw [add_add]; exact hc_ _ _ hu_) | exact add_cells hc_ hu_))) ?_
 simp only [ls0, ls1]
 refine bx_store (C := C41_) (z := 11) (g := g31) (j := 0) (tb := 28) (u := .agg #[.int .i64 ((rd_T28 l0 t37).f0), .int .i64 ((rd_T28 l0 t37).f1), .int .i64 ((rd_T28 l0 t37).f2)]) (seg := [.int .i64 ((rd_T28 l0 t37).f0), .int .i64 ((rd_T28 l0 t37).f1), .int .i64 ((rd_T28 l0 t37).f2)]) (xs := [.int .i64 0, .int .i64 0, .int .i64 0]) rfl rfl rfl rfl rfl rfl (by first | kernel_rfl | rfl) (by simp [Value.oneCell']) HX34 (by simp only [List.length_cons, List.length_nil]; omega) rfl ?_
 intro w56 HX57 hs58
 replace HS := HS.trans hs58 hc rfl
 (try simp only [ls0, ls1])
 refine st (.bool true) rfl rfl (xr_assign _ rfl rfl) ?_
 refine wl_end ?_
 (try simp only [ls0, ls1])
 refine hK50 _ _ ?_
 (try clear hK50 K50)
 refine wp_ret ?_
 (try simp only [Exit.inBlock, Exit.then, Exit.noGoto])
 (try simp only [ls0, ls1])
 simp only [Option.some.injEq, Prod.mk.injEq] at H
 obtain ⟨rfl, rfl, rfl, rfl⟩ := H
 refine bodyPost_ret (res_ct rfl rfl (load_of (load_agg (cs := [.int .i64 ((rd_T28 l0 t37).f0), .int .i64 ((rd_T28 l0 t37).f1), .int .i64 ((rd_T28 l0 t37).f2)]) Try.underlying28 rfl (by kernel_rfl) (bx_cells (HX57).2 0 rfl)))) rfl ?_
 exact ⟨_, rfl, HS⟩

/-! ### lex_Live: function 23 -/
def lex_Live.l0 : Nat → (List (S28)) → (List (S28)) → Int → Option ((List (S28)))
  | 0, _, _, _ => none
  | k + 1, l0, x200, x207 => if x207 < (l0.length : Int) then (if 0 ≤ x207 then (if ((rd_T28 l0 x207).f0) = 0 then (lex_Live.l0 k l0 x200 (wrap64 (x207 + 1))) else (if ((rd_T28 l0 x207).f0) = 1 then (lex_Live.l0 k l0 x200 (wrap64 (x207 + 1))) else (if x200.length < 5864062014805 then ((some (x200 ++ [(⟨(rd_T28 l0 x207).f0, (rd_T28 l0 x207).f1, (rd_T28 l0 x207).f2⟩ : S28)] : List (S28))).bind fun y239 => (lex_Live.l0 k l0 y239 (wrap64 (x207 + 1)))) else (none)))) else (none)) else (some x200)
def lex_Live.f (k : Nat) (l0 : List (S28)) : Option ((List (S28))) := lex_Live.l0 k l0 ([] : List (S28)) 0

set_option maxHeartbeats 8000000 in
set_option maxRecDepth 100000 in
theorem lex_Live.calls (k : Nat) (A0 : Option Addr) (c0 : Nat) (l0 : List (S28)) (r : List (S28)) (c : Nat → Nat) (w : World) (hc : ∀ k, c k < 10) (HP0 : Ft c [0] w (fun w_ => k28.C w_ A0 l0.length l0)) (HCP0 : l0.length ≤ c0) (H : lex_Live.f k l0 = some r) :
    Calls Try.prog 23 #[.slice A0 l0.length c0] w fun e w' => ∃ (c' : Nat → Nat) (A_r : Option Addr) (c_r : Nat), e = .returned (.slice A_r r.length c_r) ∧ Step c w c' w' [] ∧ Own c' 5 w' k28 28 (.slice A_r r.length c_r) r ∧ r.length ≤ c_r := by
 unfold lex_Live.f at H
 have HS := Step.refl c w []
 go_enter Try.func23, Try.ntmps23
 refine wp_seq_k fun K125 hK125 => ?_
 refine wl_region ?_
 refine st (.slice none 0 0) rfl rfl (xr_assign _ rfl rfl) ?_
 refine wl_end ?_
 (try simp only [ls0, ls1])
 refine hK125 _ _ ?_
 (try clear hK125 K125)
 refine wp_seq_k fun K126 hK126 => ?_
 refine wl_region ?_
 refine st (.slice none 0 0) rfl rfl (xr_assign _ rfl rfl) ?_
 refine wl_end ?_
 (try simp only [ls0, ls1])
 refine hK126 _ _ ?_
 (try clear hK126 K126)
 refine wp_seq_k fun K127 hK127 => ?_
 refine wp_seq_k fun K128 hK128 => ?_
 refine wl_region ?_
 refine mv_ rfl ?_
 refine st (.int .i64 (l0.length : Int)) rfl rfl (xr_builtin #[.slice A0 l0.length c0] (.int .i64 (l0.length : Int)) rfl (mp_ rfl) (by first | rfl | (go_simp; done) | (go_simp; rfl) | (go_simp; exact i64_w _) | (go_simp; exact i32_w _))) ?_
 refine st (.int .i64 0) rfl rfl (xr_move _ rfl rfl) ?_
 refine wl_end ?_
 (try simp only [ls0, ls1])
 refine hK128 _ _ ?_
 (try clear hK128 K128)
 refine wp_block ?_
 (try simp only [ls0, ls1])
 refine wp_looped (looped_fin (fun kq210 a_ w209 => ∃ (C208 : Nat → Nat) (x207 : Int) (A201 : Option Addr) (n202 cp203 : Nat) (x200 : List (S28)) (g_ : Nat → Value), a_ = ⟨#[(g_ 0), (g_ 1), (g_ 2), .slice A201 n202 cp203, (g_ 4), (g_ 5), .slice A0 l0.length c0, .int .i64 (l0.length : Int), .int .i64 x207, (g_ 9), (g_ 10), (g_ 11), (g_ 12), (g_ 13), (g_ 14), (g_ 15), (g_ 16), (g_ 17), (g_ 18), (g_ 19), (g_ 20), (g_ 21), (g_ 22), (g_ 23), (g_ 24), (g_ 25)], []⟩ ∧ Step c w C208 w209 [] ∧ kq210 ≤ k ∧ (Own C208 11 w209 k28 28 (.slice A201 n202 cp203) x200) ∧ (n202 ≤ cp203) ∧ (Ft C208 [0] w209 (fun w_ => k28.C w_ A0 l0.length l0)) ∧ lex_Live.l0 kq210 l0 x200 x207 = some r) ?step fun hL_ => ?init)
 case init =>
  exact jmpL (fun a_ h_ => hL_ k a_ _ h_) (fun g_ => ⟨_, 0, none, 0, 0, ([] : List (S28)), g_, rfl, HS, Nat.le_refl _, (Own.nil _ _ _ _ _), (Nat.le_refl 0), HP0, H⟩) rfl
 case step =>
  intro kq210 ih213 a214 w209 hr215
  obtain ⟨C208, x207, A201, n202, cp203, x200, g_, rfl, HS211, hk212, HJ205, HC204, HJ206, H⟩ := hr215
  refine looped_round ?_
  obtain rfl : n202 = x200.length := HJ205.at_.1
  cases kq210 with
  | zero => exact absurd H (by simp [lex_Live.l0])
  | succ k216 =>
   simp only [lex_Live.l0] at H
   refine wp_seq_k fun K217 hK217 => ?_
   refine wl_region ?_
   refine st (.bool (decide (x207 < (l0.length : Int)))) rfl rfl (xr_bin _ _ _ rfl rfl rfl (B.lss_i64 _ _)) ?_
   refine wl_end ?_
   (try simp only [ls0, ls1])
   refine hK217 _ _ ?_
   (try clear hK217 K217)
   refine wp_seq_k fun K218 hK218 => ?_
   by_cases c219 : x207 < (l0.length : Int)
   ·rw [if_pos c219] at H
    (try rw [(decide_eq_true c219)])
    refine wp_cond_true rfl ?_
    refine wp_skip ?_
    (try simp only [ls0, ls1])
    refine hK218 _ _ ?_
    (try clear hK218 K218)
    refine wp_seq_k fun K220 hK220 => ?_
    refine wp_block ?_
    refine wp_seq_k fun K221 hK221 => ?_
    refine wl_region ?_
    obtain ⟨c222, H⟩ := if_some H
    obtain ⟨ad223, hA224⟩ := c_addr (Ft.now HJ206) (pos_of (j := x207) (by first | assumption | decide) (by first | assumption | omega))
    refine st (.pointer (some (ad223.add ((x207 : Int).toNat * 3)))) rfl rfl (xr_indexAddr _ _ _ rfl rfl rfl (index_at Try.underlying24 info28 hA224 (by first | assumption | decide | omega) (by first | assumption | decide | omega))) ?_
    refine st (.agg #[.int .i64 ((rd_T28 l0 x207).f0), .int .i64 ((rd_T28 l0 x207).f1), .int .i64 ((rd_T28 l0 x207).f2)]) rfl rfl (xr_load (.pointer (some (ad223.add ((x207 : Int).toNat * 3)))) (.agg #[.int .i64 ((rd_T28 l0 x207).f0), .int .i64 ((rd_T28 l0 x207).f1), .int .i64 ((rd_T28 l0 x207).f2)]) rfl rfl (by obtain ⟨ad_, cs_, e_, _, hK_, hc_⟩ := Kd.C_get (Ft.now HJ206) z28 x207 (by first | assumption | decide | omega) (by first | assumption | decide | omega); rw [hA224] at e_; injection e_ with e_; subst e_; obtain rfl := k28_open hK_; exact load_agg (cs := [.int .i64 ((rd_T28 l0 x207).f0), .int .i64 ((rd_T28 l0 x207).f1), .int .i64 ((rd_T28 l0 x207).f2)]) Try.underlying28 rfl (by kernel_rfl) (fun j_ u_ hu_ => by first | (rw [add_add]; exact hc_ _ _ hu_) | exact add_cells hc_ hu_))) ?_
    refine bx_new (C := C208) 28 ([.int .i64 0, .int .i64 0, .int .i64 0]) 12 rfl rfl (by first | (go_simp; done) | (go_simp; rfl)) ?_
    intro g226 w227 C228 HX229 hs230
    replace HJ205 := HJ205.thru hs230 rfl
    replace HJ206 := HJ206.thru hs230 rfl
    replace HS211 := HS211.trans hs230 hc rfl
    (try simp only [ls0, ls1])
    refine bx_store (C := C228) (z := 12) (g := g226) (j := 0) (tb := 28) (u := .agg #[.int .i64 ((rd_T28 l0 x207).f0), .int .i64 ((rd_T28 l0 x207).f1), .int .i64 ((rd_T28 l0 x207).f2)]) (seg := [.int .i64 ((rd_T28 l0 x207).f0), .int .i64 ((rd_T28 l0 x207).f1), .int .i64 ((rd_T28 l0 x207).f2)]) (xs := [.int .i64 0, .int .i64 0, .int .i64 0]) rfl rfl rfl rfl rfl rfl (by first | kernel_rfl | rfl) (by simp [Value.oneCell']) HX229 (by simp only [List.length_cons, List.length_nil]; omega) rfl ?_
    intro w231 HX232 hs233
    replace HJ205 := HJ205.thru hs233 rfl
    replace HJ206 := HJ206.thru hs233 rfl
    replace HS211 := HS211.trans hs233 hc rfl
    (try simp only [ls0, ls1])
    refine wl_end ?_
    (try simp only [ls0, ls1])
    refine hK221 _ _ ?_
    (try clear hK221 K221)
    refine wp_seq_k fun K234 hK234 => ?_
    refine wl_region ?_
    refine st (.pointer (some ⟨g226, 0, none⟩)) rfl rfl (xr_fieldAddr _ _ rfl rfl (bx_field2 Try.underlying28 rfl rfl (by kernel_rfl))) ?_
    refine st (.int .i64 ((rd_T28 l0 x207).f0)) rfl rfl (xr_load _ _ rfl rfl (load_cell Try.underlying3 rfl (bx_cell (HX232).2 0 rfl))) ?_
    refine st (.bool (!decide (((rd_T28 l0 x207).f0) = 0))) rfl rfl (xr_bin _ _ _ rfl rfl rfl (B.neq_i64 _ _)) ?_
    refine mv_ rfl ?_
    simp only [ls0, ls1]
    by_cases c236 : ((rd_T28 l0 x207).f0) = 0
    ·rw [if_pos c236] at H
     (try rw [(decide_eq_true c236)])
     (try simp only [Bool.not_true, Bool.not_false])
     refine sk_guard (guard_off 3 true 15 rfl rfl false (by decide) rfl) rfl ?_
     refine sk_guard (guard_off 3 true 15 rfl rfl false (by decide) rfl) rfl ?_
     refine sk_guard (guard_off 3 true 15 rfl rfl false (by decide) rfl) rfl ?_
     refine st (.bool false) rfl rfl (xr_pick false _ rfl rfl rfl) ?_
     simp only [ls0, ls1]
     refine wl_end ?_
     (try simp only [ls0, ls1])
     refine hK234 _ _ ?_
     (try clear hK234 K234)
     refine wp_cond_false rfl ?_
     refine wp_skip ?_
     (try simp only [ls0, ls1])
     refine hK220 _ _ ?_
     (try clear hK220 K220)
     refine wl_region ?_
     refine st (.int .i64 (wrap64 (x207 + 1))) rfl rfl (xr_bin _ _ _ rfl rfl rfl (B.add_i64 _ _)) ?_
     refine mv_ rfl ?_
     refine wl_end ?_
     (try simp only [ls0, ls1])
     exact jmpL (fun a_ h_ => ih213 k216 (by omega) a_ _ h_) (fun g_ => ⟨_, wrap64 (x207 + 1), A201, x200.length, cp203, x200, g_, rfl, HS211, (by omega), HJ205, HC204, HJ206, H⟩) rfl
    rw [if_neg c236] at H
    (try rw [(decide_eq_false c236)])
    (try simp only [Bool.not_true, Bool.not_false])
    refine on_guard (guard_on 3 true 15 rfl rfl rfl) ?_
    refine st (.pointer (some ⟨g226, 0, none⟩)) rfl rfl (xr_fieldAddr _ _ rfl rfl (bx_field2 Try.underlying28 rfl rfl (by kernel_rfl))) ?_
    refine on_guard (guard_on 3 true 15 rfl rfl rfl) ?_
    refine st (.int .i64 ((rd_T28 l0 x207).f0)) rfl rfl (xr_load _ _ rfl rfl (load_cell Try.underlying3 rfl (bx_cell (HX232).2 0 rfl))) ?_
    refine on_guard (guard_on 3 true 15 rfl rfl rfl) ?_
    refine st (.bool (!decide (((rd_T28 l0 x207).f0) = 1))) rfl rfl (xr_bin _ _ _ rfl rfl rfl (B.neq_i64 _ _)) ?_
    refine st (.bool (!decide (((rd_T28 l0 x207).f0) = 1))) rfl rfl (xr_pick true _ rfl rfl rfl) ?_
    simp only [ls0, ls1]
    refine wl_end ?_
    (try simp only [ls0, ls1])
    refine hK234 _ _ ?_
    (try clear hK234 K234)
    by_cases c237 : ((rd_T28 l0 x207).f0) = 1
    ·rw [if_pos c237] at H
     (try rw [(decide_eq_true c237)])
     (try simp only [Bool.not_true, Bool.not_false])
     refine wp_cond_false rfl ?_
     refine wp_skip ?_
     (try simp only [ls0, ls1])
     refine hK220 _ _ ?_
     (try clear hK220 K220)
     refine wl_region ?_
     refine st (.int .i64 (wrap64 (x207 + 1))) rfl rfl (xr_bin _ _ _ rfl rfl rfl (B.add_i64 _ _)) ?_
     refine mv_ rfl ?_
     refine wl_end ?_
     (try simp only [ls0, ls1])
     exact jmpL (fun a_ h_ => ih213 k216 (by omega) a_ _ h_) (fun g_ => ⟨_, wrap64 (x207 + 1), A201, x200.length, cp203, x200, g_, rfl, HS211, (by omega), HJ205, HC204, HJ206, H⟩) rfl
    rw [if_neg c237] at H
    (try rw [(decide_eq_false c237)])
    (try simp only [Bool.not_true, Bool.not_false])
    refine wp_cond_true rfl ?_
    refine wl_region ?_
    refine mv_ rfl ?_
    refine st (.agg #[.int .i64 ((rd_T28 l0 x207).f0), .int .i64 ((rd_T28 l0 x207).f1), .int .i64 ((rd_T28 l0 x207).f2)]) rfl rfl (xr_load _ _ rfl rfl (load_agg (cs := [.int .i64 ((rd_T28 l0 x207).f0), .int .i64 ((rd_T28 l0 x207).f1), .int .i64 ((rd_T28 l0 x207).f2)]) Try.underlying28 rfl (by kernel_rfl) (bx_cells (HX232).2 0 rfl))) ?_
    refine ev_run (w1 := w231.alloc (.cells #[.int .i64 ((rd_T28 l0 x207).f0), .int .i64 ((rd_T28 l0 x207).f1), .int .i64 ((rd_T28 l0 x207).f2)] 28)) (.slice (some ⟨w231.heap.size, 0, none⟩) 1 1) rfl rfl (by first | (go_simp; done) | (go_simp; rfl)) ?_
    (try simp only [Act.put, List.setIfInBounds_toArray, ls0, ls1])
    obtain ⟨c238, H⟩ := if_some H
    obtain ⟨y239, A240, H⟩ := bnd H
    refine Own.append k28 (C := C228) (i := 11) rfl (.tmp 20) (.tmp 22) 24 28 (.agg #[(.int .i64 0), (.int .i64 0), (.int .i64 0)]) 24 rfl Try.underlying24 info28 rfl (by decide) (by decide) (.slice A201 x200.length cp203) x200 (⟨(rd_T28 l0 x207).f0, (rd_T28 l0 x207).f1, (rd_T28 l0 x207).f2⟩ : S28) [.int .i64 ((rd_T28 l0 x207).f0), .int .i64 ((rd_T28 l0 x207).f1), .int .i64 ((rd_T28 l0 x207).f2)] rfl rfl (k28_mkF _ _ (⟨(rd_T28 l0 x207).f0, (rd_T28 l0 x207).f1, (rd_T28 l0 x207).f2⟩ : S28)) HJ205 (by decide) (by omega) (Option.some.inj A240) ?_
    intro A241 cp242 w243 C244 HO245 HC246 hs247
    replace HJ206 := HJ206.thru hs247 rfl
    replace HX232 := HX232.thru hs247 rfl
    replace HS211 := HS211.trans hs247 hc rfl
    (try simp only [ls0, ls1])
    refine as_ rfl ?_
    refine wl_end ?_
    (try simp only [ls0, ls1])
    refine hK220 _ _ ?_
    (try clear hK220 K220)
    refine wl_region ?_
    refine st (.int .i64 (wrap64 (x207 + 1))) rfl rfl (xr_bin _ _ _ rfl rfl rfl (B.add_i64 _ _)) ?_
    refine mv_ rfl ?_
    refine wl_end ?_
    (try simp only [ls0, ls1])
    exact jmpL (fun a_ h_ => ih213 k216 (by omega) a_ _ h_) (fun g_ => ⟨_, wrap64 (x207 + 1), A241, y239.length, cp242, y239, g_, rfl, HS211, (by omega), HO245, HC246, HJ206, H⟩) rfl
   rw [if_neg c219] at H
   (try rw [(decide_eq_false c219)])
   refine wp_cond_false rfl ?_
   refine wp_exit ?_
   (try simp only [ls0, ls1])
   refine hK127 _ _ ?_
   (try clear hK127 K127)
   refine wp_seq_k fun K248 hK248 => ?_
   refine wl_region ?_
   refine mv_ rfl ?_
   refine as_ rfl ?_
   refine wl_end ?_
   (try simp only [ls0, ls1])
   refine hK248 _ _ ?_
   (try clear hK248 K248)
   refine wp_ret ?_
   (try simp only [Exit.inBlock, Exit.then, Exit.noGoto])
   (try simp only [ls0, ls1])
   replace HJ205 := Own.recolor (b := 5) HJ205 (by decide)
   replace HJ206 := Ft.recol (a := 11) (b := 5) HJ206 (.inl rfl)
   replace HS211 := Step.recol (a := 11) (b := 5) HS211 hc (by decide)
   obtain rfl := Option.some.inj H
   refine bodyPost_ret (results_tmp rfl _ _ _) rfl ?_
   exact ⟨_, A201, cp203, rfl, HS211, HJ205, HC204⟩

/-! ### slices_Clone_byte_byte: function 81 -/
def slices_Clone_byte_byte.f (l0 : List Int) : Option (List Int) := if l0.length < 140737488355328 then some l0 else none
set_option maxHeartbeats 2000000 in
set_option maxRecDepth 100000 in
theorem slices_Clone_byte_byte.calls (A0 : Option Addr) (c0 : Nat) (l0 : List Int) (r : List Int) (c : Nat → Nat) (w : World) (hc : ∀ k, c k < 10) (HP0 : Ft c [0] w (fun w_ => (Kd.int .u8).C w_ A0 l0.length l0)) (HCP0 : l0.length ≤ c0) (H : slices_Clone_byte_byte.f l0 = some r) :
    Calls Try.prog 81 #[.slice A0 l0.length c0] w fun e w' => ∃ (c' : Nat → Nat) (A_r : Option Addr) (c_r : Nat), e = .returned (.slice A_r r.length c_r) ∧ Step c w c' w' [] ∧ Own c' 5 w' (Kd.int .u8) 5 (.slice A_r r.length c_r) r ∧ r.length ≤ c_r := by
  unfold slices_Clone_byte_byte.f at H
  by_cases e1 : l0.length < 140737488355328
  · rw [if_pos e1] at H
    obtain rfl := Option.some.inj H
    have HS := Step.refl c w []
    go_enter Try.func81, Try.ntmps81
    refine wp_seq_k fun K1 hK1 => ?_
    refine wl_region ?_
    refine st (.slice none 0 0) rfl rfl (xr_assign (.slice none 0 0) rfl rfl) ?_
    simp only [List.set_cons_zero, List.set_cons_succ]
    refine wl_end ?_
    refine hK1 _ _ ?_
    clear hK1 K1
    refine wp_seq_k fun K2 hK2 => ?_
    refine wp_seq_k fun K3 hK3 => ?_
    refine wl_region ?_
    refine st (.slice A0 l0.length c0) rfl rfl (xr_move (.slice A0 l0.length c0) rfl rfl) ?_
    simp only [List.set_cons_zero, List.set_cons_succ]
    cases A0 with
    | none =>
      have hl : l0 = [] := by
        cases l0 with
        | nil => rfl
        | cons x l =>
          obtain ⟨ad, h⟩ := c_addr HP0.now (by simp)
          cases h
      subst hl
      refine st (.bool true) rfl rfl (xr_bin (.slice none 0 c0) (.slice none 0 0) (.bool true) rfl rfl rfl (B.eql_slnil ⟨_, Try.underlying22⟩)) ?_
      simp only [List.set_cons_zero, List.set_cons_succ]
      refine wl_end ?_
      refine hK3 _ _ ?_
      refine wp_cond_true rfl ?_
      refine wp_seq_k fun K4 hK4 => ?_
      refine wl_region ?_
      refine st (.slice none 0 0) rfl rfl (xr_assign (.slice none 0 0) rfl rfl) ?_
      simp only [List.set_cons_zero, List.set_cons_succ]
      refine wl_end ?_
      refine hK4 _ _ ?_
      refine wp_ret ?_
      (try simp only [Exit.inBlock, Exit.then])
      refine bodyPost_ret (results_tmp rfl _ _ _) rfl ?_
      exact ⟨_, _, _, rfl, HS, Own.nil _ _ _ _ _, Nat.le_refl _⟩
    | some ad =>
      refine st (.bool false) rfl rfl (xr_bin (.slice (some ad) l0.length c0) (.slice none 0 0) (.bool false) rfl rfl rfl (B.eql_slnil ⟨_, Try.underlying22⟩)) ?_
      simp only [List.set_cons_zero, List.set_cons_succ]
      refine wl_end ?_
      refine hK3 _ _ ?_
      refine wp_cond_false rfl ?_
      refine wp_skip ?_
      refine hK2 _ _ ?_
      clear hK2 hK3 K2 K3
      refine wp_seq_k fun K4 hK4 => ?_
      refine wl_region ?_
      refine Own.lit (Kd.int .u8) (C := c) (i := 10) rfl 5 rfl (xs := ([] : List Int)) (inner := []) (by first | (go_simp; done) | (go_simp; rfl)) (Reps.none _ _) (by simp) rfl ?_
      intro A1 cp1 w1 C1 HO1 HC1 hs1
      replace HP0 := HP0.thru hs1 rfl
      replace HS := HS.trans hs1 hc rfl
      (try simp only [Act.put, List.setIfInBounds_toArray, List.set_cons_zero, List.set_cons_succ])
      refine st (.slice (some ad) l0.length c0) rfl rfl (xr_move (.slice (some ad) l0.length c0) rfl rfl) ?_
      simp only [List.set_cons_zero, List.set_cons_succ]
      refine Own.append_rows (Kd.int .u8) (C := C1) (i := 10) rfl (.tmp 5) (.tmp 6) 22 5 (.int .u8 0) 1 rfl Try.underlying22 info5 rfl (by decide) (by decide) (.slice A1 ([] : List Int).length cp1) [] l0 (some ad) l0.length c0 rfl rfl HO1 HP0 (by decide) (by simp; omega) rfl ?_
      intro A2 cp2 w2 C2 HO2 HC2 hs2
      replace HS := HS.trans hs2 hc rfl
      (try simp only [List.nil_append] at HO2 HC2)
      (try simp only [Act.put, List.setIfInBounds_toArray, List.set_cons_zero, List.set_cons_succ, List.nil_append])
      refine st (.slice A2 l0.length cp2) rfl rfl (xr_assign (.slice A2 l0.length cp2) rfl rfl) ?_
      simp only [List.set_cons_zero, List.set_cons_succ]
      refine wl_end ?_
      refine hK4 _ _ ?_
      refine wp_ret ?_
      (try simp only [Exit.inBlock, Exit.then])
      refine bodyPost_ret (results_tmp rfl _ _ _) rfl ?_
      exact ⟨_, _, _, rfl, HS.recol (a := 10) (b := 5) hc (by decide), Own.recolor HO2 (by decide), HC2⟩
  · rw [if_neg e1] at H
    cases H

end Go.Proofs.Yteoccoklbmjiaaa.PStn
