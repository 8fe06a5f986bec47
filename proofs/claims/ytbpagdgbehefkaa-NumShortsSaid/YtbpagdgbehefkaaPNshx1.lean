-- By cprint.py, a program of this work. Lean checks it.
import Derived.Test.YtbpagdgbehefkaaPNshx0
namespace Go.Proofs.Ytbpagdgbehefkaa.PNsh
open Go.RowKit Go.Proofs.YtbpagdgbehefkaaW.PrintWords Go.Proofs.YtbpagdgbehefkaaW.PrintLast Go.Proofs.YtbpagdgbehefkaaW.PrintMore
set_option linter.unusedVariables false
set_option linter.unusedSimpArgs false

/-! ### num_Put: function 16 -/
def num_Put.l0 : Nat → (List Int) → Int → Option (List Int)
  | 0, _, _ => none
  | k + 1, x120, x126 => if x126 ≥ 128 then (if x120.length < 140737488355328 then ((some (x120 ++ [Go.bits .or .u8 ((x126) % 256) 128] : List Int)).bind fun y141 => (num_Put.l0 k y141 (shr .u64 x126 7))) else (none)) else (if x120.length < 140737488355328 then ((some (x120 ++ [(x126) % 256] : List Int)).bind fun y152 => (some y152)) else (none))
def num_Put.f (k : Nat) (l0 : List Int) (a1 : Int) : Option (List Int) := num_Put.l0 k l0 a1

set_option maxHeartbeats 8000000 in
set_option maxRecDepth 100000 in
theorem num_Put.calls (k : Nat) (A0 : Option Addr) (c0 : Nat) (l0 : List Int) (a1 : Int) (r : List Int) (c : Nat → Nat) (w : World) (hc : ∀ k, c k < 10) (HP0 : Own c 1 w (Kd.int .u8) 5 (.slice A0 l0.length c0) l0) (HCP0 : l0.length ≤ c0) (H : num_Put.f k l0 a1 = some r) :
    Calls Try.prog 16 #[.slice A0 l0.length c0, .int .u64 a1] w fun e w' => ∃ (c' : Nat → Nat) (A_r : Option Addr) (c_r : Nat), e = .returned (.slice A_r r.length c_r) ∧ Step c w c' w' [1] ∧ Own c' 1 w' (Kd.int .u8) 5 (.slice A_r r.length c_r) r ∧ r.length ≤ c_r := by
 unfold num_Put.f at H
 have HS := Step.refl c w [1]
 go_enter Try.func16, Try.ntmps16
 refine wp_seq_k fun K81 hK81 => ?_
 refine wl_region ?_
 refine st (.slice none 0 0) rfl rfl (xr_assign _ rfl rfl) ?_
 refine wl_end ?_
 (try simp only [ls0, ls1])
 refine hK81 _ _ ?_
 (try clear hK81 K81)
 refine wp_seq_k fun K82 hK82 => ?_
 refine wp_block ?_
 (try simp only [ls0, ls1])
 refine wp_looped (looped_fin (fun kq129 a_ w128 => ∃ (C127 : Nat → Nat) (x126 : Int) (A121 : Option Addr) (n122 cp123 : Nat) (x120 : List Int) (g_ : Nat → Value), a_ = ⟨#[.slice A121 n122 cp123, .int .u64 x126, (g_ 2), (g_ 3), (g_ 4), (g_ 5), (g_ 6), (g_ 7), (g_ 8), (g_ 9), (g_ 10), (g_ 11), (g_ 12), (g_ 13), (g_ 14), (g_ 15), (g_ 16), (g_ 17), (g_ 18), (g_ 19)], []⟩ ∧ Step c w C127 w128 [1] ∧ kq129 ≤ k ∧ (Own C127 1 w128 (Kd.int .u8) 5 (.slice A121 n122 cp123) x120) ∧ (n122 ≤ cp123) ∧ num_Put.l0 kq129 x120 x126 = some r) ?step fun hL_ => ?init)
 case init =>
  exact jmpL (fun a_ h_ => hL_ k a_ _ h_) (fun g_ => ⟨_, a1, A0, l0.length, c0, l0, g_, rfl, HS, Nat.le_refl _, HP0, HCP0, H⟩) rfl
 case step =>
  intro kq129 ih132 a133 w128 hr134
  obtain ⟨C127, x126, A121, n122, cp123, x120, g_, rfl, HS130, hk131, HJ125, HC124, H⟩ := hr134
  refine looped_round ?_
  obtain rfl : n122 = x120.length := HJ125.at_.1
  cases kq129 with
  | zero => exact absurd H (by simp [num_Put.l0])
  | succ k135 =>
   simp only [num_Put.l0] at H
   refine wp_seq_k fun K136 hK136 => ?_
   refine wp_seq_k fun K137 hK137 => ?_
   refine wl_region ?_
   refine mv_ rfl ?_
   refine st (.bool (decide (x126 ≥ 128))) rfl rfl (xr_bin _ _ _ rfl rfl rfl (B.geq_u64 _ _)) ?_
   refine wl_end ?_
   (try simp only [ls0, ls1])
   refine hK137 _ _ ?_
   (try clear hK137 K137)
   by_cases c138 : x126 ≥ 128
   ·rw [if_pos c138] at H
    (try rw [(decide_eq_true c138)])
    refine wp_cond_true rfl ?_
    refine wp_skip ?_
    (try simp only [ls0, ls1])
    refine hK136 _ _ ?_
    (try clear hK136 K136)
    refine wp_block ?_
    refine wp_seq_k fun K139 hK139 => ?_
    refine wl_region ?_
    refine mv_ rfl ?_
    refine mv_ rfl ?_
    refine st (.int .u8 ((x126) % 256)) rfl rfl (xr_conv (.int .u64 x126) _ rfl rfl (by first | rfl | (go_simp; done) | (go_simp; rfl) | (go_simp; exact i64_w _) | (go_simp; exact i32_w _))) ?_
    refine st (.int .u8 (Go.bits .or .u8 ((x126) % 256) 128)) rfl rfl (xr_bin _ _ _ rfl rfl rfl (B.or_u8 _ _)) ?_
    simp only [ls0, ls1]
    refine ev_run (w1 := w128.alloc (.cells #[.int .u8 (Go.bits .or .u8 ((x126) % 256) 128)] 5)) (.slice (some ⟨w128.heap.size, 0, none⟩) 1 1) rfl rfl (by first | (go_simp; done) | (go_simp; rfl)) ?_
    (try simp only [Act.put, List.setIfInBounds_toArray, ls0, ls1])
    obtain ⟨c140, H⟩ := if_some H
    obtain ⟨y141, A142, H⟩ := bnd H
    refine Own.append (Kd.int .u8) (C := C127) (i := 1) rfl (.tmp 7) (.tmp 11) 23 5 (.int .u8 0) 1 rfl Try.underlying23 info5 rfl (by decide) (by decide) (.slice A121 x120.length cp123) x120 (Go.bits .or .u8 ((x126) % 256) 128) [.int .u8 (Go.bits .or .u8 ((x126) % 256) 128)] rfl rfl (fk_int .u8 _ _ (Go.bits .or .u8 ((x126) % 256) 128)) HJ125 (by decide) (by omega) (Option.some.inj A142) ?_
    intro A143 cp144 w145 C146 HO147 HC148 hs149
    replace HS130 := HS130.trans hs149 hc rfl
    (try simp only [ls0, ls1])
    refine as_ rfl ?_
    refine wl_end ?_
    (try simp only [ls0, ls1])
    refine hK139 _ _ ?_
    (try clear hK139 K139)
    refine wl_region ?_
    refine mv_ rfl ?_
    refine st (.int .u64 (shr .u64 x126 7)) rfl rfl (xr_bin _ _ _ rfl rfl rfl (B.shr_u64_u64 _ _ (by decide))) ?_
    refine as_ rfl ?_
    refine wl_end ?_
    (try simp only [ls0, ls1])
    exact jmpL (fun a_ h_ => ih132 k135 (by omega) a_ _ h_) (fun g_ => ⟨_, shr .u64 x126 7, A143, y141.length, cp144, y141, g_, rfl, HS130, (by omega), HO147, HC148, H⟩) rfl
   rw [if_neg c138] at H
   (try rw [(decide_eq_false c138)])
   refine wp_cond_false rfl ?_
   refine wp_exit ?_
   (try simp only [ls0, ls1])
   refine hK82 _ _ ?_
   (try clear hK82 K82)
   refine wp_seq_k fun K150 hK150 => ?_
   refine wl_region ?_
   refine mv_ rfl ?_
   refine mv_ rfl ?_
   refine st (.int .u8 ((x126) % 256)) rfl rfl (xr_conv (.int .u64 x126) _ rfl rfl (by first | rfl | (go_simp; done) | (go_simp; rfl) | (go_simp; exact i64_w _) | (go_simp; exact i32_w _))) ?_
   refine ev_run (w1 := w128.alloc (.cells #[.int .u8 ((x126) % 256)] 5)) (.slice (some ⟨w128.heap.size, 0, none⟩) 1 1) rfl rfl (by first | (go_simp; done) | (go_simp; rfl)) ?_
   (try simp only [Act.put, List.setIfInBounds_toArray, ls0, ls1])
   obtain ⟨c151, H⟩ := if_some H
   obtain ⟨y152, A153, H⟩ := bnd H
   refine Own.append (Kd.int .u8) (C := C127) (i := 1) rfl (.tmp 15) (.tmp 18) 23 5 (.int .u8 0) 1 rfl Try.underlying23 info5 rfl (by decide) (by decide) (.slice A121 x120.length cp123) x120 ((x126) % 256) [.int .u8 ((x126) % 256)] rfl rfl (fk_int .u8 _ _ ((x126) % 256)) HJ125 (by decide) (by omega) (Option.some.inj A153) ?_
   intro A154 cp155 w156 C157 HO158 HC159 hs160
   replace HS130 := HS130.trans hs160 hc rfl
   (try simp only [ls0, ls1])
   refine as_ rfl ?_
   refine wl_end ?_
   (try simp only [ls0, ls1])
   refine hK150 _ _ ?_
   (try clear hK150 K150)
   refine wp_ret ?_
   (try simp only [Exit.inBlock, Exit.then, Exit.noGoto])
   (try simp only [ls0, ls1])
   obtain rfl := Option.some.inj H
   refine bodyPost_ret (results_tmp rfl _ _ _) rfl ?_
   exact ⟨_, A154, cp155, rfl, HS130, HO158, HC159⟩

/-! ### blazonref01_Same: function 17 -/
def blazonref01_Same.l0 : Nat → (List Int) → (List Int) → Int → Option (Bool)
  | 0, _, _, _ => none
  | k + 1, l0, l1, x109 => if x109 < (l0.length : Int) then (if 0 ≤ x109 then (if x109 < (l1.length : Int) then (if (rd l0 x109) = (rd l1 x109) then (blazonref01_Same.l0 k l0 l1 (wrap64 (x109 + 1))) else (some false)) else (none)) else (none)) else (some true)
def blazonref01_Same.f (k : Nat) (l0 : List Int) (l1 : List Int) : Option (Bool) := if (l0.length : Int) = (l1.length : Int) then (blazonref01_Same.l0 k l0 l1 0) else (some false)

set_option maxHeartbeats 8000000 in
set_option maxRecDepth 100000 in
theorem blazonref01_Same.calls (k : Nat) (A0 : Option Addr) (c0 : Nat) (l0 : List Int) (A1 : Option Addr) (c1 : Nat) (l1 : List Int) (r : Bool) (c : Nat → Nat) (w : World) (hc : ∀ k, c k < 10) (HP0 : Ft c [0] w (fun w_ => (Kd.int .u8).C w_ A0 l0.length l0)) (HCP0 : l0.length ≤ c0) (HP1 : Ft c [0] w (fun w_ => (Kd.int .u8).C w_ A1 l1.length l1)) (HCP1 : l1.length ≤ c1) (H : blazonref01_Same.f k l0 l1 = some r) :
    Calls Try.prog 17 #[.slice A0 l0.length c0, .slice A1 l1.length c1] w fun e w' => ∃ (c' : Nat → Nat) , e = .returned (.bool r) ∧ Step c w c' w' [] := by
 unfold blazonref01_Same.f at H
 have HS := Step.refl c w []
 go_enter Try.func17, Try.ntmps17
 refine wp_seq_k fun K68 hK68 => ?_
 refine wl_region ?_
 refine st (.bool false) rfl rfl (xr_assign _ rfl rfl) ?_
 refine wl_end ?_
 (try simp only [ls0, ls1])
 refine hK68 _ _ ?_
 (try clear hK68 K68)
 refine wp_seq_k fun K69 hK69 => ?_
 refine wp_seq_k fun K70 hK70 => ?_
 refine wl_region ?_
 refine mv_ rfl ?_
 refine st (.int .i64 (l0.length : Int)) rfl rfl (xr_builtin #[.slice A0 l0.length c0] (.int .i64 (l0.length : Int)) rfl (mp_ rfl) (by first | rfl | (go_simp; done) | (go_simp; rfl) | (go_simp; exact i64_w _) | (go_simp; exact i32_w _))) ?_
 refine mv_ rfl ?_
 refine st (.int .i64 (l1.length : Int)) rfl rfl (xr_builtin #[.slice A1 l1.length c1] (.int .i64 (l1.length : Int)) rfl (mp_ rfl) (by first | rfl | (go_simp; done) | (go_simp; rfl) | (go_simp; exact i64_w _) | (go_simp; exact i32_w _))) ?_
 simp only [ls0, ls1]
 refine st (.bool (!decide ((l0.length : Int) = (l1.length : Int)))) rfl rfl (xr_bin _ _ _ rfl rfl rfl (B.neq_i64 _ _)) ?_
 refine wl_end ?_
 (try simp only [ls0, ls1])
 refine hK70 _ _ ?_
 (try clear hK70 K70)
 by_cases c71 : (l0.length : Int) = (l1.length : Int)
 ·rw [if_pos c71] at H
  (try rw [(decide_eq_true c71)])
  (try simp only [Bool.not_true, Bool.not_false])
  refine wp_cond_false rfl ?_
  refine wp_skip ?_
  (try simp only [ls0, ls1])
  refine hK69 _ _ ?_
  (try clear hK69 K69)
  refine wp_seq_k fun K72 hK72 => ?_
  refine wp_seq_k fun K73 hK73 => ?_
  refine wl_region ?_
  refine st (.int .i64 0) rfl rfl (xr_assign _ rfl rfl) ?_
  refine wl_end ?_
  (try simp only [ls0, ls1])
  refine hK73 _ _ ?_
  (try clear hK73 K73)
  refine wp_block ?_
  (try simp only [ls0, ls1])
  refine wp_looped (looped_fin (fun kq112 a_ w111 => ∃ (C110 : Nat → Nat) (x109 : Int) (g_ : Nat → Value), a_ = ⟨#[.slice A0 l0.length c0, .slice A1 l1.length c1, (g_ 2), (g_ 3), (g_ 4), .int .i64 x109, (g_ 6), (g_ 7), (g_ 8), (g_ 9), (g_ 10), (g_ 11), (g_ 12), (g_ 13), (g_ 14), (g_ 15), (g_ 16), (g_ 17), (g_ 18), (g_ 19), (g_ 20), (g_ 21), (g_ 22), (g_ 23), (g_ 24), (g_ 25)], []⟩ ∧ Step c w C110 w111 [] ∧ kq112 ≤ k ∧ (Ft C110 [0] w111 (fun w_ => (Kd.int .u8).C w_ A0 l0.length l0)) ∧ (Ft C110 [0] w111 (fun w_ => (Kd.int .u8).C w_ A1 l1.length l1)) ∧ blazonref01_Same.l0 kq112 l0 l1 x109 = some r) ?step fun hL_ => ?init)
  case init =>
   exact jmpL (fun a_ h_ => hL_ k a_ _ h_) (fun g_ => ⟨_, 0, g_, rfl, HS, Nat.le_refl _, HP0, HP1, H⟩) rfl
  case step =>
   intro kq112 ih115 a116 w111 hr117
   obtain ⟨C110, x109, g_, rfl, HS113, hk114, HJ107, HJ108, H⟩ := hr117
   refine looped_round ?_
   cases kq112 with
   | zero => exact absurd H (by simp [blazonref01_Same.l0])
   | succ k118 =>
    simp only [blazonref01_Same.l0] at H
    refine wp_seq_k fun K119 hK119 => ?_
    refine wp_seq_k fun K120 hK120 => ?_
    refine wl_region ?_
    refine mv_ rfl ?_
    refine mv_ rfl ?_
    refine st (.int .i64 (l0.length : Int)) rfl rfl (xr_builtin #[.slice A0 l0.length c0] (.int .i64 (l0.length : Int)) rfl (mp_ rfl) (by first | rfl | (go_simp; done) | (go_simp; rfl) | (go_simp; exact i64_w _) | (go_simp; exact i32_w _))) ?_
    refine st (.bool (decide (x109 < (l0.length : Int)))) rfl rfl (xr_bin _ _ _ rfl rfl rfl (B.lss_i64 _ _)) ?_
    simp only [ls0, ls1]
    refine wl_end ?_
    (try simp only [ls0, ls1])
    refine hK120 _ _ ?_
    (try clear hK120 K120)
    by_cases c121 : x109 < (l0.length : Int)
    ·rw [if_pos c121] at H
     (try rw [(decide_eq_true c121)])
     refine wp_cond_true rfl ?_
     refine wp_skip ?_
     (try simp only [ls0, ls1])
     refine hK119 _ _ ?_
     (try clear hK119 K119)
     refine wp_seq_k fun K122 hK122 => ?_
     refine wp_block ?_
     refine wp_seq_k fun K123 hK123 => ?_
     (try simp only [ls0, ls1])
     refine al_start (lb 9 0) rfl rfl rfl (fun w_ => (Kd.int .u8).C w_ A0 l0.length l0 ∧ (Kd.int .u8).C w_ A1 l1.length l1) ⟨(Ft.now (HJ107).drew), (Ft.now (HJ108).drew)⟩ [] ?_
     replace HJ107 := HJ107.drew
     replace HJ108 := HJ108.drew
     replace HS113 := Step.ofDrew HS113
     generalize w111.drew = w124 at *
     refine al_mv 0 (lb 9 1) rfl rfl (by kernel_rfl) (fun _ _ _ => id) rfl ?_
     refine al_mv 1 (lb 9 3) rfl rfl (by kernel_rfl) (fun _ _ _ => id) rfl ?_
     obtain ⟨c125, H⟩ := if_some H
     obtain ⟨ad126, hA127⟩ := c_addr (Ft.now HJ107) (pos_of (j := x109) (by first | assumption | decide) (by first | assumption | omega))
     refine al_pure 2 19 (.pointer (some (ad126.add ((x109 : Int).toNat * 1)))) (lb 9 7) rfl rfl (by kernel_rfl) (fun _ _ _ => id) rfl (fun w_ => xr_indexAddr _ _ _ rfl rfl rfl (index_at Try.underlying23 info5 hA127 (by first | assumption | decide | omega) (by first | assumption | decide | omega))) ?_
     refine al_mv 4 (lb 9 23) rfl rfl (by kernel_rfl) (fun _ _ _ => id) rfl ?_
     simp only [ls0, ls1]
     refine al_mv 5 (lb 9 55) rfl rfl (by kernel_rfl) (fun _ _ _ => id) rfl ?_
     obtain ⟨c128, H⟩ := if_some H
     obtain ⟨ad129, hA130⟩ := c_addr (Ft.now HJ108) (pos_of (j := x109) (by first | assumption | decide) (by first | assumption | omega))
     refine al_pure 6 23 (.pointer (some (ad129.add ((x109 : Int).toNat * 1)))) (lb 9 119) rfl rfl (by kernel_rfl) (fun _ _ _ => id) rfl (fun w_ => xr_indexAddr _ _ _ rfl rfl rfl (index_at Try.underlying23 info5 hA130 (by first | assumption | decide | omega) (by first | assumption | decide | omega))) ?_
     refine al_take 3 20 (.int .u8 (rd l0 x109)) (lb 9 127) rfl rfl (by kernel_rfl) (fun _ _ _ => id) rfl (fun w_ hS_ => xr_load _ _ rfl rfl (load_int Try.underlying5 rfl hA127 hS_.1 (by first | assumption | decide | omega) (by first | assumption | decide | omega))) ⟨(Ft.now HJ107), (Ft.now HJ108)⟩ ?_
     refine al_take 7 24 (.int .u8 (rd l1 x109)) (lb 9 255) rfl rfl (by kernel_rfl) (fun _ _ _ => id) rfl (fun w_ hS_ => xr_load _ _ rfl rfl (load_int Try.underlying5 rfl hA130 hS_.2 (by first | assumption | decide | omega) (by first | assumption | decide | omega))) ⟨(Ft.now HJ107), (Ft.now HJ108)⟩ ?_
     simp only [ls0, ls1]
     refine al_pure 8 25 (.bool (!decide ((rd l0 x109) = (rd l1 x109)))) (lb 9 511) rfl rfl (by kernel_rfl) (fun _ _ _ => id) rfl (fun w_ => xr_bin _ _ _ rfl rfl rfl (B.neq_u8 _ _)) ?_
     refine al_end (by kernel_rfl) ?_
     (try simp only [ls0, ls1])
     refine hK123 _ _ ?_
     (try clear hK123 K123)
     by_cases c131 : (rd l0 x109) = (rd l1 x109)
     ·rw [if_pos c131] at H
      (try rw [(decide_eq_true c131)])
      (try simp only [Bool.not_true, Bool.not_false])
      refine wp_cond_false rfl ?_
      refine wp_skip ?_
      (try simp only [ls0, ls1])
      refine hK122 _ _ ?_
      (try clear hK122 K122)
      refine wl_region ?_
      refine mv_ rfl ?_
      refine st (.int .i64 (wrap64 (x109 + 1))) rfl rfl (xr_bin _ _ _ rfl rfl rfl (B.add_i64 _ _)) ?_
      refine as_ rfl ?_
      refine wl_end ?_
      (try simp only [ls0, ls1])
      exact jmpL (fun a_ h_ => ih115 k118 (by omega) a_ _ h_) (fun g_ => ⟨_, wrap64 (x109 + 1), g_, rfl, HS113, (by omega), HJ107, HJ108, H⟩) rfl
     rw [if_neg c131] at H
     (try rw [(decide_eq_false c131)])
     (try simp only [Bool.not_true, Bool.not_false])
     refine wp_cond_true rfl ?_
     refine wp_seq_k fun K132 hK132 => ?_
     refine wl_region ?_
     refine st (.bool false) rfl rfl (xr_assign _ rfl rfl) ?_
     refine wl_end ?_
     (try simp only [ls0, ls1])
     refine hK132 _ _ ?_
     (try clear hK132 K132)
     refine wp_ret ?_
     (try simp only [Exit.inBlock, Exit.then, Exit.noGoto])
     (try simp only [ls0, ls1])
     obtain rfl := Option.some.inj H
     refine bodyPost_ret (results_tmp rfl _ _ _) rfl ?_
     exact ⟨_, rfl, HS113⟩
    rw [if_neg c121] at H
    (try rw [(decide_eq_false c121)])
    refine wp_cond_false rfl ?_
    refine wp_exit ?_
    (try simp only [ls0, ls1])
    refine hK72 _ _ ?_
    (try clear hK72 K72)
    refine wp_seq_k fun K133 hK133 => ?_
    refine wl_region ?_
    refine st (.bool true) rfl rfl (xr_assign _ rfl rfl) ?_
    refine wl_end ?_
    (try simp only [ls0, ls1])
    refine hK133 _ _ ?_
    (try clear hK133 K133)
    refine wp_ret ?_
    (try simp only [Exit.inBlock, Exit.then, Exit.noGoto])
    (try simp only [ls0, ls1])
    obtain rfl := Option.some.inj H
    refine bodyPost_ret (results_tmp rfl _ _ _) rfl ?_
    exact ⟨_, rfl, HS113⟩
 rw [if_neg c71] at H
 (try rw [(decide_eq_false c71)])
 (try simp only [Bool.not_true, Bool.not_false])
 refine wp_cond_true rfl ?_
 refine wp_seq_k fun K134 hK134 => ?_
 refine wl_region ?_
 refine st (.bool false) rfl rfl (xr_assign _ rfl rfl) ?_
 refine wl_end ?_
 (try simp only [ls0, ls1])
 refine hK134 _ _ ?_
 (try clear hK134 K134)
 refine wp_ret ?_
 (try simp only [Exit.inBlock, Exit.then, Exit.noGoto])
 (try simp only [ls0, ls1])
 obtain rfl := Option.some.inj H
 refine bodyPost_ret (results_tmp rfl _ _ _) rfl ?_
 exact ⟨_, rfl, HS⟩

/-! ### num_Add: function 28 -/
def num_Add.f (a0 : Int) (a1 : Int) : Option (Int × Int) := if (decide ((wrap64 (a0 + a1)) > a0)) = (decide (a1 > 0)) then (some (wrap64 (a0 + a1), 0)) else (some (0, 18))
set_option maxHeartbeats 8000000 in
set_option maxRecDepth 100000 in
theorem num_Add.calls (a0 : Int) (a1 : Int) (r1 : Int) (r2 : Int) (c : Nat → Nat) (w : World) (hc : ∀ k, c k < 10)  (H : num_Add.f a0 a1 = some (r1, r2)) :
    Calls Try.prog 28 #[.int .i64 a0, .int .i64 a1] w fun e w' => ∃ (c' : Nat → Nat) , e = .returned (.tuple #[.int .i64 r1, .int .i64 r2]) ∧ Step c w c' w' [] := by
 unfold num_Add.f at H
 have HS := Step.refl c w []
 go_enter Try.func28, Try.ntmps28
 refine wp_seq_k fun K8 hK8 => ?_
 refine wl_region ?_
 refine st (.int .i64 0) rfl rfl (xr_assign _ rfl rfl) ?_
 refine st (.int .i64 0) rfl rfl (xr_assign _ rfl rfl) ?_
 refine wl_end ?_
 (try simp only [ls0, ls1])
 refine hK8 _ _ ?_
 (try clear hK8 K8)
 refine wp_seq_k fun K9 hK9 => ?_
 refine wl_region ?_
 refine mv_ rfl ?_
 refine mv_ rfl ?_
 refine st (.int .i64 (wrap64 (a0 + a1))) rfl rfl (xr_bin _ _ _ rfl rfl rfl (B.add_i64 _ _)) ?_
 refine as_ rfl ?_
 simp only [ls0, ls1]
 refine wl_end ?_
 (try simp only [ls0, ls1])
 refine hK9 _ _ ?_
 (try clear hK9 K9)
 refine wp_seq_k fun K10 hK10 => ?_
 refine wp_seq_k fun K11 hK11 => ?_
 refine wl_region ?_
 refine mv_ rfl ?_
 refine mv_ rfl ?_
 refine st (.bool (decide ((wrap64 (a0 + a1)) > a0))) rfl rfl (xr_bin _ _ _ rfl rfl rfl (B.gtr_i64 _ _)) ?_
 refine mv_ rfl ?_
 simp only [ls0, ls1]
 refine st (.bool (decide (a1 > 0))) rfl rfl (xr_bin _ _ _ rfl rfl rfl (B.gtr_i64 _ _)) ?_
 refine st (.bool (!decide ((decide ((wrap64 (a0 + a1)) > a0)) = (decide (a1 > 0))))) rfl rfl (xr_bin _ _ _ rfl rfl rfl (B.neq_bool Try.underlying4 _ _)) ?_
 refine wl_end ?_
 (try simp only [ls0, ls1])
 refine hK11 _ _ ?_
 (try clear hK11 K11)
 by_cases c12 : (decide ((wrap64 (a0 + a1)) > a0)) = (decide (a1 > 0))
 ·rw [if_pos c12] at H
  (try rw [(decide_eq_true c12)])
  (try simp only [Bool.not_true, Bool.not_false])
  refine wp_cond_false rfl ?_
  refine wp_skip ?_
  (try simp only [ls0, ls1])
  refine hK10 _ _ ?_
  (try clear hK10 K10)
  refine wp_seq_k fun K13 hK13 => ?_
  refine wl_region ?_
  refine mv_ rfl ?_
  refine as_ rfl ?_
  refine st (.int .i64 0) rfl rfl (xr_assign _ rfl rfl) ?_
  refine wl_end ?_
  (try simp only [ls0, ls1])
  refine hK13 _ _ ?_
  (try clear hK13 K13)
  refine wp_ret ?_
  (try simp only [Exit.inBlock, Exit.then, Exit.noGoto])
  (try simp only [ls0, ls1])
  simp only [Option.some.injEq, Prod.mk.injEq] at H
  obtain ⟨rfl, rfl⟩ := H
  refine bodyPost_ret (results_tmp2 rfl _ _ _) rfl ?_
  exact ⟨_, rfl, HS⟩
 rw [if_neg c12] at H
 (try rw [(decide_eq_false c12)])
 (try simp only [Bool.not_true, Bool.not_false])
 refine wp_cond_true rfl ?_
 refine wp_seq_k fun K14 hK14 => ?_
 refine wl_region ?_
 refine st (.int .i64 0) rfl rfl (xr_assign _ rfl rfl) ?_
 refine st (.int .i64 18) rfl rfl (xr_assign _ rfl rfl) ?_
 refine wl_end ?_
 (try simp only [ls0, ls1])
 refine hK14 _ _ ?_
 (try clear hK14 K14)
 refine wp_ret ?_
 (try simp only [Exit.inBlock, Exit.then, Exit.noGoto])
 (try simp only [ls0, ls1])
 simp only [Option.some.injEq, Prod.mk.injEq] at H
 obtain ⟨rfl, rfl⟩ := H
 refine bodyPost_ret (results_tmp2 rfl _ _ _) rfl ?_
 exact ⟨_, rfl, HS⟩

/-! ### blazonlaw01_awake: function 18 -/
def blazonlaw01_awake.f (k : Nat)  : Option (Bool) := (num_Add.f 9223372036854775807 1).bind fun bt39 => ((num_Put.f k ([] : List Int) 300).bind fun t47 => ((some ([172, 2] : List Int)).bind fun y57 => ((blazonref01_Same.f k t47 y57).bind fun t66 => (if t66 = true then (some (decide (bt39.2 = 18))) else (some false)))))

set_option maxHeartbeats 8000000 in
set_option maxRecDepth 100000 in
theorem blazonlaw01_awake.calls (k : Nat)  (r : Bool) (c : Nat → Nat) (w : World) (hc : ∀ k, c k < 10)  (H : blazonlaw01_awake.f k = some r) :
    Calls Try.prog 18 #[] w fun e w' => ∃ (c' : Nat → Nat) , e = .returned (.bool r) ∧ Step c w c' w' [] := by
 unfold blazonlaw01_awake.f at H
 have HS := Step.refl c w []
 go_enter Try.func18, Try.ntmps18
 refine wp_seq_k fun K37 hK37 => ?_
 refine wl_region ?_
 refine st (.bool false) rfl rfl (xr_assign _ rfl rfl) ?_
 refine wl_end ?_
 (try simp only [ls0, ls1])
 refine hK37 _ _ ?_
 (try clear hK37 K37)
 refine wp_seq_k fun K38 hK38 => ?_
 refine wl_region ?_
 obtain ⟨⟨t39, t40⟩, A41, H⟩ := bnd H
 (try dsimp only at H)
 refine st_call #[.int .i64 9223372036854775807, .int .i64 1] rfl rfl Try.func28 (by kernel_rfl) rfl rfl (mp_ rfl) ?_
 refine (num_Add.calls 9223372036854775807 1 t39 t40  (fun z_ => pal [(0, 0)] (c z_)) w (fun _ => pal_lt rfl _) A41).mono ?_
 rintro _ w43 ⟨C44, rfl, hs45⟩
 refine ⟨_, rfl, ?_⟩
 replace hs45 := Step.lift (U := [(0, 0)]) hs45 [] rfl rfl
 generalize up c C44 w.heap.size [(0, 0)] = C44_ at hs45
 replace HS := HS.trans hs45 hc rfl
 (try simp only [ls0, ls1])
 refine mv_ rfl ?_
 refine st (.int .i64 t39) rfl rfl (xr_extract (.tuple #[.int .i64 t39, .int .i64 t40]) _ rfl rfl rfl) ?_
 refine st (.int .i64 t40) rfl rfl (xr_extract (.tuple #[.int .i64 t39, .int .i64 t40]) _ rfl rfl rfl) ?_
 refine as_ rfl ?_
 simp only [ls0, ls1]
 refine as_ rfl ?_
 refine wl_end ?_
 (try simp only [ls0, ls1])
 refine hK38 _ _ ?_
 (try clear hK38 K38)
 refine wp_seq_k fun K46 hK46 => ?_
 refine wl_region ?_
 obtain ⟨t47, A48, H⟩ := bnd H
 refine st_call #[.slice none 0 0, .int .u64 300] rfl rfl Try.func16 (by kernel_rfl) rfl rfl (mp_ rfl) ?_
 refine (num_Put.calls k none 0 ([] : List Int) 300 t47  (fun z_ => pal [(0, 0)] (C44_ z_)) w43 (fun _ => pal_lt rfl _) (Own.nil _ _ _ _ _) (Nat.le_refl 0) A48).mono ?_
 rintro _ w50 ⟨C51, A53, cp54, rfl, hs52, HO55, HC56⟩
 refine ⟨_, rfl, ?_⟩
 replace HO55 := Own.res (U := [(0, 0), (1, 11)]) (j := 11) HO55 hs52 (by rfl) (by decide) rfl rfl
 replace hs52 := Step.lift (U := [(0, 0), (1, 11)]) hs52 [] rfl rfl
 generalize up C44_ C51 w43.heap.size [(0, 0), (1, 11)] = C51_ at HO55 hs52
 replace HS := HS.trans hs52 hc rfl
 (try simp only [ls0, ls1])
 obtain ⟨y57, A58, H⟩ := bnd H
 refine Own.lit (Kd.int .u8) (C := C51_) (i := 12) rfl 5 rfl (xs := [172, 2]) (inner := [.int .u8 172, .int .u8 2]) (by first | (go_simp; done) | (go_simp; rfl)) (reps_cons (fk_int .u8 _ _ 172) rfl (reps_cons (fk_int .u8 _ _ 2) rfl (Reps.none _ _))) (by simp only [List.length_cons, List.length_nil]; omega) (Option.some.inj A58) ?_
 intro A59 cp60 w61 C62 HO63 HC64 hs65
 replace HO55 := HO55.thru hs65 rfl
 replace HS := HS.trans hs65 hc rfl
 (try simp only [ls0, ls1])
 obtain ⟨t66, A67, H⟩ := bnd H
 refine st_call #[.slice A53 t47.length cp54, .slice A59 y57.length cp60] rfl rfl Try.func17 (by kernel_rfl) rfl rfl (mp_ rfl) ?_
 refine (blazonref01_Same.calls k A53 cp54 t47 A59 cp60 y57 t66  (fun z_ => pal [(0, 0), (11, 0), (12, 0)] (C62 z_)) w61 (fun _ => pal_lt rfl _) (Ft.arg (HO55.ft) rfl) HC56 (Ft.arg (HO63.ft) rfl) HC64 A67).mono ?_
 rintro _ w69 ⟨C70, rfl, hs71⟩
 refine ⟨_, rfl, ?_⟩
 replace hs71 := Step.lift (U := [(0, 0)]) hs71 [] rfl rfl
 generalize up C62 C70 w61.heap.size [(0, 0)] = C70_ at hs71
 replace HS := HS.trans hs71 hc rfl
 (try simp only [ls0, ls1])
 refine mv_ rfl ?_
 by_cases c72 : t66 = true
 ·rw [if_pos c72] at H
  (try rw [c72])
  refine on_guard (guard_on 3 true 10 rfl rfl rfl) ?_
  refine mv_ rfl ?_
  refine on_guard (guard_on 3 true 10 rfl rfl rfl) ?_
  refine st (.bool (decide (t40 = 18))) rfl rfl (xr_bin _ _ _ rfl rfl rfl (B.eql_i64 _ _)) ?_
  refine st (.bool (decide (t40 = 18))) rfl rfl (xr_pick true _ rfl rfl rfl) ?_
  simp only [ls0, ls1]
  refine as_ rfl ?_
  refine wl_end ?_
  (try simp only [ls0, ls1])
  refine hK46 _ _ ?_
  (try clear hK46 K46)
  refine wp_ret ?_
  (try simp only [Exit.inBlock, Exit.then, Exit.noGoto])
  (try simp only [ls0, ls1])
  obtain rfl := Option.some.inj H
  refine bodyPost_ret (results_tmp rfl _ _ _) rfl ?_
  exact ⟨_, rfl, HS⟩
 rw [if_neg c72] at H
 (try rw [(Bool.eq_false_iff.mpr c72)])
 refine sk_guard (guard_off 3 true 10 rfl rfl false (by decide) rfl) rfl ?_
 refine sk_guard (guard_off 3 true 10 rfl rfl false (by decide) rfl) rfl ?_
 refine st (.bool false) rfl rfl (xr_pick false _ rfl rfl rfl) ?_
 refine as_ rfl ?_
 simp only [ls0, ls1]
 refine wl_end ?_
 (try simp only [ls0, ls1])
 refine hK46 _ _ ?_
 (try clear hK46 K46)
 refine wp_ret ?_
 (try simp only [Exit.inBlock, Exit.then, Exit.noGoto])
 (try simp only [ls0, ls1])
 obtain rfl := Option.some.inj H
 refine bodyPost_ret (results_tmp rfl _ _ _) rfl ?_
 exact ⟨_, rfl, HS⟩

/-! ### blazonref01_Lent: function 23 -/
def blazonref01_Lent.g (l0 : List Int) : Option (List Int) := (some ([] : List Int)).bind fun y56 => (if y56.length + l0.length < 140737488355328 then ((some (y56 ++ l0 : List Int)).bind fun y66 => ((some ([77, 78, 79] : List Int)).bind fun y76 => (if y66.length + y76.length < 140737488355328 then ((some (y66 ++ y76 : List Int)).bind fun y87 => (if 0 ≤ (l0.length : Int) then (if (l0.length : Int) ≤ (y87.length : Int) then ((some (y87.take ((l0.length : Int) : Int).toNat : List Int)).bind fun y99 => (some y99)) else (none)) else (none))) else (none)))) else (none))
set_option maxHeartbeats 2000000 in
set_option maxRecDepth 100000 in
theorem blazonref01_Lent.calls_g (A0 : Option Addr) (c0 : Nat) (l0 : List Int) (r : List Int) (c : Nat → Nat) (w : World) (hc : ∀ k, c k < 10) (HP0 : Ft c [0] w (fun w_ => (Kd.int .u8).C w_ A0 l0.length l0)) (HCP0 : l0.length ≤ c0) (H : blazonref01_Lent.g l0 = some r) :
    Calls Try.prog 23 #[.slice A0 l0.length c0] w fun e w' => ∃ (c' : Nat → Nat) (A_r : Option Addr) (c_r : Nat), e = .returned (.slice A_r r.length c_r) ∧ Step c w c' w' [] ∧ Ft c' [0] w' (fun w_ => (Kd.int .u8).C w_ A_r r.length r) ∧ r.length ≤ c_r ∧ Ft c' [0] w' (fun w_ => (Kd.int .u8).C w_ A_r (r ++ [77, 78, 79]).length (r ++ [77, 78, 79])) ∧ (r ++ [77, 78, 79]).length ≤ c_r := by
  unfold blazonref01_Lent.g at H
  have HS := Step.refl c w []
  go_enter Try.func23, Try.ntmps23
  refine wp_seq_k fun K54 hK54 => ?_
  refine wl_region ?_
  refine st (.slice none 0 0) rfl rfl (xr_assign (.slice none 0 0) rfl rfl) ?_
  simp only [List.set_cons_zero, List.set_cons_succ]
  refine wl_end ?_
  (try simp only [Act.put, List.setIfInBounds_toArray, List.set_cons_zero, List.set_cons_succ])
  refine hK54 _ _ ?_
  (try clear hK54 K54)
  refine wp_seq_k fun K55 hK55 => ?_
  refine wl_region ?_
  obtain ⟨y56, A57, H⟩ := Option.bind_eq_some_iff.mp H
  (try dsimp only at H)
  refine Own.lit (Kd.int .u8) (C := c) (i := 11) rfl 5 rfl (xs := ([] : List Int)) (inner := []) (by first | (go_simp; done) | (go_simp; rfl)) (Reps.none _ _) (by simp only [List.length_cons, List.length_nil]; omega) (Option.some.inj A57) ?_
  intro A58 cp59 w60 C61 HO62 HC63 hs64
  replace HP0 := HP0.thru hs64 rfl
  replace HS := HS.trans hs64 hc rfl
  (try simp only [Act.put, List.setIfInBounds_toArray, List.set_cons_zero, List.set_cons_succ])
  refine st (.slice A0 l0.length c0) rfl rfl (xr_move (.slice A0 l0.length c0) rfl rfl) ?_
  simp only [List.set_cons_zero, List.set_cons_succ]
  by_cases c65 : y56.length + l0.length < 140737488355328
  · rw [if_pos c65] at H
    obtain ⟨y66, A67, H⟩ := Option.bind_eq_some_iff.mp H
    (try dsimp only at H)
    refine Own.append_rows (Kd.int .u8) (C := C61) (i := 11) rfl (.tmp 4) (.tmp 5) 23 5 (.int .u8 0) 1 rfl Try.underlying23 info5 rfl (by decide) (by decide) (.slice A58 y56.length cp59) y56 l0 A0 l0.length c0 rfl rfl HO62 HP0 (by decide) (by omega) (Option.some.inj A67) ?_
    intro A68 cp69 w70 C71 HO72 HC73 hs74
    replace HP0 := HP0.thru hs74 rfl
    replace HS := HS.trans hs74 hc rfl
    (try simp only [Act.put, List.setIfInBounds_toArray, List.set_cons_zero, List.set_cons_succ])
    refine st (.slice A68 y66.length cp69) rfl rfl (xr_assign (.slice A68 y66.length cp69) rfl rfl) ?_
    simp only [List.set_cons_zero, List.set_cons_succ]
    refine wl_end ?_
    (try simp only [Act.put, List.setIfInBounds_toArray, List.set_cons_zero, List.set_cons_succ])
    refine hK55 _ _ ?_
    (try clear hK55 K55)
    refine wp_seq_k fun K75 hK75 => ?_
    refine wl_region ?_
    refine st (.slice A68 y66.length cp69) rfl rfl (xr_move (.slice A68 y66.length cp69) rfl rfl) ?_
    simp only [List.set_cons_zero, List.set_cons_succ]
    obtain ⟨y76, A77, H⟩ := Option.bind_eq_some_iff.mp H
    (try dsimp only at H)
    refine Own.lit (Kd.int .u8) (C := C71) (i := 12) rfl 5 rfl (xs := [77, 78, 79]) (inner := [.int .u8 77, .int .u8 78, .int .u8 79]) (by first | (go_simp; done) | (go_simp; rfl)) (reps_cons (fk_int .u8 _ _ 77) rfl (reps_cons (fk_int .u8 _ _ 78) rfl (reps_cons (fk_int .u8 _ _ 79) rfl (Reps.none _ _)))) (by simp only [List.length_cons, List.length_nil]; omega) (Option.some.inj A77) ?_
    intro A78 cp79 w80 C81 HO82 HC83 hs84
    replace HP0 := HP0.thru hs84 rfl
    replace HO72 := HO72.thru hs84 rfl
    replace HS := HS.trans hs84 hc rfl
    (try simp only [Act.put, List.setIfInBounds_toArray, List.set_cons_zero, List.set_cons_succ])
    replace HP0 := Ft.recol (a := 12) (b := 0) HP0 (.inl rfl)
    replace HO72 := Own.recol (a := 12) (b := 0) HO72 (by decide) (by decide)
    have HR85 := Ft.recolor (a := 12) (b := 0) (HO82.ft) [0] rfl
    replace HS := Step.recol (a := 12) (b := 0) HS hc (by decide)
    by_cases c86 : y66.length + y76.length < 140737488355328
    · rw [if_pos c86] at H
      obtain ⟨y87, A88, H⟩ := Option.bind_eq_some_iff.mp H
      (try dsimp only at H)
      refine Own.append_rows (Kd.int .u8) (C := (recol C81 12 0)) (i := 11) rfl (.tmp 7) (.tmp 8) 23 5 (.int .u8 0) 1 rfl Try.underlying23 info5 rfl (by decide) (by decide) (.slice A68 y66.length cp69) y66 y76 A78 y76.length cp79 rfl rfl HO72 HR85 (by decide) (by omega) (Option.some.inj A88) ?_
      intro A89 cp90 w91 C92 HO93 HC94 hs95
      replace HP0 := HP0.thru hs95 rfl
      replace HS := HS.trans hs95 hc rfl
      (try simp only [Act.put, List.setIfInBounds_toArray, List.set_cons_zero, List.set_cons_succ])
      refine st (.slice A89 y87.length cp90) rfl rfl (xr_assign (.slice A89 y87.length cp90) rfl rfl) ?_
      simp only [List.set_cons_zero, List.set_cons_succ]
      refine wl_end ?_
      (try simp only [Act.put, List.setIfInBounds_toArray, List.set_cons_zero, List.set_cons_succ])
      refine hK75 _ _ ?_
      (try clear hK75 K75)
      refine wp_seq_k fun K96 hK96 => ?_
      refine wl_region ?_
      refine st (.slice A89 y87.length cp90) rfl rfl (xr_move (.slice A89 y87.length cp90) rfl rfl) ?_
      simp only [List.set_cons_zero, List.set_cons_succ]
      refine st (.slice A0 l0.length c0) rfl rfl (xr_move (.slice A0 l0.length c0) rfl rfl) ?_
      simp only [List.set_cons_zero, List.set_cons_succ]
      refine st (.int .i64 (l0.length : Int)) rfl rfl (xr_builtin #[.slice A0 l0.length c0] (.int .i64 (l0.length : Int)) rfl (by simp only [List.map_toArray, List.map_cons, List.map_nil]; first | done | rfl) (by first | rfl | (go_simp; done) | (go_simp; rfl) | (go_simp; exact i64_w _) | (go_simp; exact i32_w _))) ?_
      simp only [List.set_cons_zero, List.set_cons_succ]
      by_cases c97 : 0 ≤ (l0.length : Int)
      · rw [if_pos c97] at H
        by_cases c98 : (l0.length : Int) ≤ (y87.length : Int)
        · rw [if_pos c98] at H
          obtain ⟨y99, A100, H⟩ := Option.bind_eq_some_iff.mp H
          (try dsimp only at H)
          obtain ⟨iz106, hiz106, _, hzz106, _⟩ := info_parts info5
          obtain ⟨hr105, HR103, HC104⟩ := cutTo (t := 23) (Kd.int .u8) 5 .i64 Try.underlying23 hiz106 (HO93.ft) HC94 (by first | assumption | omega | decide) (by first | assumption | omega | decide) (Option.some.inj A100)
          refine st (.slice A89 y99.length cp90) rfl rfl (xr_slice (.slice A89 y87.length cp90) none (some (.int .i64 (l0.length : Int))) none (.slice A89 y99.length cp90) rfl rfl rfl rfl rfl (hr105 _)) ?_
          simp only [List.set_cons_zero, List.set_cons_succ]
          clear hr105 hiz106 hzz106
          refine st (.slice A89 y99.length cp90) rfl rfl (xr_assign (.slice A89 y99.length cp90) rfl rfl) ?_
          simp only [List.set_cons_zero, List.set_cons_succ]
          refine wl_end ?_
          (try simp only [Act.put, List.setIfInBounds_toArray, List.set_cons_zero, List.set_cons_succ])
          refine hK96 _ _ ?_
          (try clear hK96 K96)
          refine wp_ret ?_
          (try simp only [Exit.inBlock, Exit.then, Exit.noGoto])
          (try simp only [Act.put, List.setIfInBounds_toArray, List.set_cons_zero, List.set_cons_succ])
          replace HP0 := Ft.recol (a := 11) (b := 0) HP0 (.inl rfl)
          replace HR103 := Ft.recolor (a := 11) (b := 0) HR103 [0] rfl
          have HR107 := Ft.recolor (a := 11) (b := 0) (HO93.ft) [0] rfl
          replace HS := Step.recol (a := 11) (b := 0) HS hc (by decide)
          obtain rfl := Option.some.inj H
          refine bodyPost_ret (results_tmp rfl _ _ _) rfl ?_
          have e99 : y99 ++ [77, 78, 79] = y87 := by
            have e1 := Option.some.inj A57
            have e2 := Option.some.inj A67
            have e3 := Option.some.inj A77
            have e4 := Option.some.inj A88
            have e5 := Option.some.inj A100
            rw [← e5, ← e4, ← e3, ← e2, ← e1]; simp
          rw [e99]
          exact ⟨_, A89, cp90, rfl, HS, HR103, HC104, HR107, HC94⟩
        · rw [if_neg c98] at H
          exact absurd H (by simp)
      · rw [if_neg c97] at H
        exact absurd H (by simp)
    · rw [if_neg c86] at H
      exact absurd H (by simp)
  · rw [if_neg c65] at H
    exact absurd H (by simp)
def blazonref01_Lent.f (l0 : List Int) : Option (List Int) := if l0.length < 140737488355325 then some l0 else none
theorem blazonref01_Lent.calls (A0 : Option Addr) (c0 : Nat) (l0 : List Int) (r : List Int) (c : Nat → Nat) (w : World) (hc : ∀ k, c k < 10) (HP0 : Ft c [0] w (fun w_ => (Kd.int .u8).C w_ A0 l0.length l0)) (HCP0 : l0.length ≤ c0) (H : blazonref01_Lent.f l0 = some r) :
    Calls Try.prog 23 #[.slice A0 l0.length c0] w fun e w' => ∃ (c' : Nat → Nat) (A_r : Option Addr) (c_r : Nat), e = .returned (.slice A_r r.length c_r) ∧ Step c w c' w' [] ∧ Ft c' [0] w' (fun w_ => (Kd.int .u8).C w_ A_r r.length r) ∧ r.length ≤ c_r ∧ Ft c' [0] w' (fun w_ => (Kd.int .u8).C w_ A_r (r ++ [77, 78, 79]).length (r ++ [77, 78, 79])) ∧ (r ++ [77, 78, 79]).length ≤ c_r := by
  refine blazonref01_Lent.calls_g A0 c0 l0 r c w hc HP0 HCP0 ?_
  unfold blazonref01_Lent.f at H
  by_cases e1 : l0.length < 140737488355325
  · rw [if_pos e1] at H
    obtain rfl := Option.some.inj H
    unfold blazonref01_Lent.g
    simp only [Option.bind_some, List.nil_append, List.length_nil, Nat.zero_add, List.length_cons]
    rw [if_pos (by omega), if_pos (by omega), if_pos (by omega), if_pos (by simp only [List.length_append, List.length_cons, List.length_nil]; omega)]
    simp
  · rw [if_neg e1] at H
    cases H

/-! ### num_Get: function 24 -/
mutual
def num_Get.j0 : Nat → (List Int) → Int → Int → Bool → Option (Int × Int × Int)
  | 0, _, _, _, _ => none
  | k + 1, l0, x358, x360, x422 => if x422 = true then (some (0, 0, 4)) else (some (Go.bits .or .u64 x358 (shl .u64 (IntKind.u64.wrap (Go.bits .andNot .u8 (rd l0 x360) 128)) (IntKind.u64.wrap (wrap64 (7 * x360)))), wrap64 (x360 + 1), 0))
def num_Get.j1 : Nat → (List Int) → Int → Int → Bool → Option (Int × Int × Int)
  | 0, _, _, _, _ => none
  | k + 1, l0, x358, x360, x404 => if x404 = true then (some (0, 0, 4)) else (if 0 ≤ (IntKind.u64.wrap (wrap64 (7 * x360))) then (if (shr .u8 (rd l0 x360) 7) = 1 then (num_Get.l0 k l0 (Go.bits .or .u64 x358 (shl .u64 (IntKind.u64.wrap (Go.bits .andNot .u8 (rd l0 x360) 128)) (IntKind.u64.wrap (wrap64 (7 * x360))))) (wrap64 (x360 + 1))) else (if (IntKind.u64.wrap (Go.bits .andNot .u8 (rd l0 x360) 128)) = 0 then (num_Get.j0 k l0 x358 x360 (decide (x360 > 0))) else (num_Get.j0 k l0 x358 x360 false))) else (none))
def num_Get.l0 : Nat → (List Int) → Int → Int → Option (Int × Int × Int)
  | 0, _, _, _ => none
  | k + 1, l0, x358, x360 => if x360 < (l0.length : Int) then (if 0 ≤ x360 then (if x360 = 9 then (if (IntKind.u64.wrap (Go.bits .andNot .u8 (rd l0 x360) 128)) > 1 then (num_Get.j1 k l0 x358 x360 true) else (num_Get.j1 k l0 x358 x360 (decide (x360 ≥ 10)))) else (num_Get.j1 k l0 x358 x360 (decide (x360 ≥ 10)))) else (none)) else (some (0, 0, 2))
end
def num_Get.f (k : Nat) (l0 : List Int) : Option (Int × Int × Int) := num_Get.l0 k l0 0 0

set_option maxHeartbeats 8000000 in
set_option maxRecDepth 100000 in
theorem num_Get.calls (k : Nat) (A0 : Option Addr) (c0 : Nat) (l0 : List Int) (r1 : Int) (r2 : Int) (r3 : Int) (c : Nat → Nat) (w : World) (hc : ∀ k, c k < 10) (HP0 : Ft c [0] w (fun w_ => (Kd.int .u8).C w_ A0 l0.length l0)) (HCP0 : l0.length ≤ c0) (H : num_Get.f k l0 = some (r1, r2, r3)) :
    Calls Try.prog 24 #[.slice A0 l0.length c0] w fun e w' => ∃ (c' : Nat → Nat) , e = .returned (.tuple #[.int .u64 r1, .int .i64 r2, .int .i64 r3]) ∧ Step c w c' w' [] := by
 unfold num_Get.f at H
 have HS := Step.refl c w []
 go_enter Try.func24, Try.ntmps24
 refine wp_seq_k fun K217 hK217 => ?_
 refine wl_region ?_
 refine st (.int .u64 0) rfl rfl (xr_assign _ rfl rfl) ?_
 refine st (.int .i64 0) rfl rfl (xr_assign _ rfl rfl) ?_
 refine st (.int .i64 0) rfl rfl (xr_assign _ rfl rfl) ?_
 refine wl_end ?_
 (try simp only [ls0, ls1])
 refine hK217 _ _ ?_
 (try clear hK217 K217)
 refine wp_seq_k fun K218 hK218 => ?_
 refine wp_seq_k fun K219 hK219 => ?_
 refine wl_region ?_
 refine mv_ rfl ?_
 refine st (.int .i64 (l0.length : Int)) rfl rfl (xr_builtin #[.slice A0 l0.length c0] (.int .i64 (l0.length : Int)) rfl (mp_ rfl) (by first | rfl | (go_simp; done) | (go_simp; rfl) | (go_simp; exact i64_w _) | (go_simp; exact i32_w _))) ?_
 refine st (.int .i64 0) rfl rfl (xr_move _ rfl rfl) ?_
 refine wl_end ?_
 (try simp only [ls0, ls1])
 refine hK219 _ _ ?_
 (try clear hK219 K219)
 refine wp_block ?_
 (try simp only [ls0, ls1])
 refine wp_looped (looped_fin (fun kq363 a_ w362 => ∃ (C361 : Nat → Nat) (x358 : Int) (x360 : Int) (g_ : Nat → Value), a_ = ⟨#[(g_ 0), (g_ 1), .int .u64 x358, (g_ 3), (g_ 4), (g_ 5), (g_ 6), (g_ 7), .slice A0 l0.length c0, .int .i64 (l0.length : Int), .int .i64 x360, (g_ 11), (g_ 12), (g_ 13), (g_ 14), (g_ 15), (g_ 16), (g_ 17), (g_ 18), (g_ 19), (g_ 20), (g_ 21), (g_ 22), (g_ 23), (g_ 24), (g_ 25), (g_ 26), (g_ 27), (g_ 28), (g_ 29), (g_ 30), (g_ 31), (g_ 32), (g_ 33), (g_ 34), (g_ 35), (g_ 36), (g_ 37), (g_ 38), (g_ 39), (g_ 40), (g_ 41), (g_ 42), (g_ 43), (g_ 44), (g_ 45), (g_ 46), (g_ 47)], []⟩ ∧ Step c w C361 w362 [] ∧ kq363 ≤ k ∧ (Ft C361 [0] w362 (fun w_ => (Kd.int .u8).C w_ A0 l0.length l0)) ∧ num_Get.l0 kq363 l0 x358 x360 = some (r1, r2, r3)) ?step fun hL_ => ?init)
 case init =>
  exact jmpL (fun a_ h_ => hL_ k a_ _ h_) (fun g_ => ⟨_, 0, 0, g_, rfl, HS, Nat.le_refl _, HP0, H⟩) rfl
 case step =>
  intro kq363 ih366 a367 w362 hr368
  obtain ⟨C361, x358, x360, g_, rfl, HS364, hk365, HJ359, H⟩ := hr368
  refine looped_round ?_
  cases kq363 with
  | zero => exact absurd H (by simp [num_Get.l0])
  | succ k369 =>
   simp only [num_Get.l0] at H
   refine wp_seq_k fun K370 hK370 => ?_
   refine wl_region ?_
   refine st (.bool (decide (x360 < (l0.length : Int)))) rfl rfl (xr_bin _ _ _ rfl rfl rfl (B.lss_i64 _ _)) ?_
   refine wl_end ?_
   (try simp only [ls0, ls1])
   refine hK370 _ _ ?_
   (try clear hK370 K370)
   refine wp_seq_k fun K371 hK371 => ?_
   by_cases c372 : x360 < (l0.length : Int)
   ·rw [if_pos c372] at H
    (try rw [(decide_eq_true c372)])
    refine wp_cond_true rfl ?_
    refine wp_skip ?_
    (try simp only [ls0, ls1])
    refine hK371 _ _ ?_
    (try clear hK371 K371)
    refine wp_seq_k fun K373 hK373 => ?_
    refine wp_block ?_
    refine wp_seq_k fun K374 hK374 => ?_
    refine wl_region ?_
    refine mv_ rfl ?_
    obtain ⟨c375, H⟩ := if_some H
    obtain ⟨ad376, hA377⟩ := c_addr (Ft.now HJ359) (pos_of (j := x360) (by first | assumption | decide) (by first | assumption | omega))
    refine st (.pointer (some (ad376.add ((x360 : Int).toNat * 1)))) rfl rfl (xr_indexAddr _ _ _ rfl rfl rfl (index_at Try.underlying23 info5 hA377 (by first | assumption | decide | omega) (by first | assumption | decide | omega))) ?_
    refine st (.int .u8 (rd l0 x360)) rfl rfl (xr_load _ _ rfl rfl (load_int Try.underlying5 rfl hA377 (Ft.now HJ359) (by first | assumption | decide | omega) (by first | assumption | decide | omega))) ?_
    refine as_ rfl ?_
    simp only [ls0, ls1]
    refine as_ rfl ?_
    refine wl_end ?_
    (try simp only [ls0, ls1])
    refine hK374 _ _ ?_
    (try clear hK374 K374)
    refine wp_seq_k fun K378 hK378 => ?_
    refine wl_region ?_
    refine mv_ rfl ?_
    refine st (.int .u8 (Go.bits .andNot .u8 (rd l0 x360) 128)) rfl rfl (xr_bin _ _ _ rfl rfl rfl (B.andNot_u8 _ _)) ?_
    refine st (.int .u64 (IntKind.u64.wrap (Go.bits .andNot .u8 (rd l0 x360) 128))) rfl rfl (xr_conv (.int .u8 (Go.bits .andNot .u8 (rd l0 x360) 128)) _ rfl rfl (by first | rfl | (go_simp; done) | (go_simp; rfl) | (go_simp; exact i64_w _) | (go_simp; exact i32_w _))) ?_
    refine as_ rfl ?_
    simp only [ls0, ls1]
    refine wl_end ?_
    (try simp only [ls0, ls1])
    refine hK378 _ _ ?_
    (try clear hK378 K378)
    refine wp_seq_k fun K379 hK379 => ?_
    refine wp_seq_k fun K396 hK396 => ?_
    have hj399 : ∀ (kq405 : Nat) (C400 : Nat → Nat) (w401 : World) (x404 : Bool) (g_ : Nat → Value), Step c w C400 w401 [] → kq405 ≤ k369 → (Ft C400 [0] w401 (fun w_ => (Kd.int .u8).C w_ A0 l0.length l0)) → num_Get.j1 kq405 l0 x358 x360 x404 = some (r1, r2, r3) → K396 ⟨#[(g_ 0), (g_ 1), .int .u64 x358, (g_ 3), (g_ 4), .int .i64 x360, .int .u8 (rd l0 x360), .int .u64 (IntKind.u64.wrap (Go.bits .andNot .u8 (rd l0 x360) 128)), .slice A0 l0.length c0, .int .i64 (l0.length : Int), .int .i64 x360, (g_ 11), (g_ 12), (g_ 13), (g_ 14), (g_ 15), (g_ 16), (g_ 17), (g_ 18), (g_ 19), (g_ 20), (g_ 21), (g_ 22), (g_ 23), (g_ 24), (g_ 25), (g_ 26), .bool x404, (g_ 28), (g_ 29), (g_ 30), (g_ 31), (g_ 32), (g_ 33), (g_ 34), (g_ 35), (g_ 36), (g_ 37), (g_ 38), (g_ 39), (g_ 40), (g_ 41), (g_ 42), (g_ 43), (g_ 44), (g_ 45), (g_ 46), (g_ 47)], []⟩ w401 := by
     intro kq405 C400 w401 x404 g_ HS402 hk406 HJ403 H
     cases kq405 with
     | zero => exact absurd H (by simp [num_Get.j1])
     | succ k407 =>
      simp only [num_Get.j1] at H
      refine hK396 _ _ ?_
      (try clear hK396)
      by_cases c408 : x404 = true
      ·rw [if_pos c408] at H
       (try rw [c408])
       refine wp_cond_true rfl ?_
       refine wp_seq_k fun K409 hK409 => ?_
       refine wl_region ?_
       refine st (.int .u64 0) rfl rfl (xr_assign _ rfl rfl) ?_
       refine st (.int .i64 0) rfl rfl (xr_assign _ rfl rfl) ?_
       refine st (.int .i64 4) rfl rfl (xr_assign _ rfl rfl) ?_
       refine wl_end ?_
       (try simp only [ls0, ls1])
       refine hK409 _ _ ?_
       (try clear hK409 K409)
       refine wp_ret ?_
       (try simp only [Exit.inBlock, Exit.then, Exit.noGoto])
       (try simp only [ls0, ls1])
       simp only [Option.some.injEq, Prod.mk.injEq] at H
       obtain ⟨rfl, rfl, rfl⟩ := H
       refine bodyPost_ret (results_tmp3 rfl _ _ _) rfl ?_
       exact ⟨_, rfl, HS402⟩
      rw [if_neg c408] at H
      (try rw [(Bool.eq_false_iff.mpr c408)])
      refine wp_cond_false rfl ?_
      refine wp_skip ?_
      (try simp only [ls0, ls1])
      refine hK379 _ _ ?_
      (try clear hK379 K379)
      refine wp_seq_k fun K410 hK410 => ?_
      refine wl_region ?_
      refine mv_ rfl ?_
      refine mv_ rfl ?_
      refine mv_ rfl ?_
      refine st (.int .i64 (wrap64 (7 * x360))) rfl rfl (xr_bin _ _ _ rfl rfl rfl (B.mul_i64 _ _)) ?_
      simp only [ls0, ls1]
      refine st (.int .u64 (IntKind.u64.wrap (wrap64 (7 * x360)))) rfl rfl (xr_conv (.int .i64 (wrap64 (7 * x360))) _ rfl rfl (by first | rfl | (go_simp; done) | (go_simp; rfl) | (go_simp; exact i64_w _) | (go_simp; exact i32_w _))) ?_
      obtain ⟨c411, H⟩ := if_some H
      refine st (.int .u64 (shl .u64 (IntKind.u64.wrap (Go.bits .andNot .u8 (rd l0 x360) 128)) (IntKind.u64.wrap (wrap64 (7 * x360))))) rfl rfl (xr_bin _ _ _ rfl rfl rfl (B.shl_u64_u64 _ _ (by assumption))) ?_
      refine st (.int .u64 (Go.bits .or .u64 x358 (shl .u64 (IntKind.u64.wrap (Go.bits .andNot .u8 (rd l0 x360) 128)) (IntKind.u64.wrap (wrap64 (7 * x360)))))) rfl rfl (xr_bin _ _ _ rfl rfl rfl (B.or_u64 _ _)) ?_
      refine as_ rfl ?_
      simp only [ls0, ls1]
      refine wl_end ?_
      (try simp only [ls0, ls1])
      refine hK410 _ _ ?_
      (try clear hK410 K410)
      refine wp_seq_k fun K412 hK412 => ?_
      refine wp_seq_k fun K413 hK413 => ?_
      refine wl_region ?_
      refine mv_ rfl ?_
      refine st (.int .u8 (shr .u8 (rd l0 x360) 7)) rfl rfl (xr_bin _ _ _ rfl rfl rfl (B.shr_u8_u64 _ _ (by decide))) ?_
      refine st (.bool (decide ((shr .u8 (rd l0 x360) 7) = 1))) rfl rfl (xr_bin _ _ _ rfl rfl rfl (B.eql_u8 _ _)) ?_
      refine wl_end ?_
      (try simp only [ls0, ls1])
      refine hK413 _ _ ?_
      (try clear hK413 K413)
      by_cases c414 : (shr .u8 (rd l0 x360) 7) = 1
      ·rw [if_pos c414] at H
       (try rw [(decide_eq_true c414)])
       refine wp_cond_true rfl ?_
       refine wp_exit ?_
       (try simp only [ls0, ls1])
       refine hK373 _ _ ?_
       (try clear hK373 K373)
       refine wl_region ?_
       refine st (.int .i64 (wrap64 (x360 + 1))) rfl rfl (xr_bin _ _ _ rfl rfl rfl (B.add_i64 _ _)) ?_
       refine mv_ rfl ?_
       refine wl_end ?_
       (try simp only [ls0, ls1])
       exact jmpL (fun a_ h_ => ih366 k407 (by omega) a_ _ h_) (fun g_ => ⟨_, Go.bits .or .u64 x358 (shl .u64 (IntKind.u64.wrap (Go.bits .andNot .u8 (rd l0 x360) 128)) (IntKind.u64.wrap (wrap64 (7 * x360)))), wrap64 (x360 + 1), g_, rfl, HS402, (by omega), HJ403, H⟩) rfl
      rw [if_neg c414] at H
      (try rw [(decide_eq_false c414)])
      refine wp_cond_false rfl ?_
      refine wp_skip ?_
      (try simp only [ls0, ls1])
      refine hK412 _ _ ?_
      (try clear hK412 K412)
      refine wp_seq_k fun K415 hK415 => ?_
      refine wp_seq_k fun K416 hK416 => ?_
      have hj418 : ∀ (kq423 : Nat) (C419 : Nat → Nat) (w420 : World) (x422 : Bool) (g_ : Nat → Value), Step c w C419 w420 [] → kq423 ≤ k407 → num_Get.j0 kq423 l0 x358 x360 x422 = some (r1, r2, r3) → K416 ⟨#[(g_ 0), (g_ 1), .int .u64 (Go.bits .or .u64 x358 (shl .u64 (IntKind.u64.wrap (Go.bits .andNot .u8 (rd l0 x360) 128)) (IntKind.u64.wrap (wrap64 (7 * x360))))), (g_ 3), (g_ 4), .int .i64 x360, (g_ 6), (g_ 7), (g_ 8), (g_ 9), (g_ 10), (g_ 11), (g_ 12), (g_ 13), (g_ 14), (g_ 15), (g_ 16), (g_ 17), (g_ 18), (g_ 19), (g_ 20), (g_ 21), (g_ 22), (g_ 23), (g_ 24), (g_ 25), (g_ 26), (g_ 27), (g_ 28), (g_ 29), (g_ 30), (g_ 31), (g_ 32), (g_ 33), (g_ 34), (g_ 35), (g_ 36), (g_ 37), (g_ 38), (g_ 39), (g_ 40), (g_ 41), (g_ 42), .bool x422, (g_ 44), (g_ 45), (g_ 46), (g_ 47)], []⟩ w420 := by
       intro kq423 C419 w420 x422 g_ HS421 hk424  H
       cases kq423 with
       | zero => exact absurd H (by simp [num_Get.j0])
       | succ k425 =>
        simp only [num_Get.j0] at H
        refine hK416 _ _ ?_
        (try clear hK416)
        by_cases c426 : x422 = true
        ·rw [if_pos c426] at H
         (try rw [c426])
         refine wp_cond_true rfl ?_
         refine wp_seq_k fun K427 hK427 => ?_
         refine wl_region ?_
         refine st (.int .u64 0) rfl rfl (xr_assign _ rfl rfl) ?_
         refine st (.int .i64 0) rfl rfl (xr_assign _ rfl rfl) ?_
         refine st (.int .i64 4) rfl rfl (xr_assign _ rfl rfl) ?_
         simp only [ls0, ls1]
         refine wl_end ?_
         (try simp only [ls0, ls1])
         refine hK427 _ _ ?_
         (try clear hK427 K427)
         refine wp_ret ?_
         (try simp only [Exit.inBlock, Exit.then, Exit.noGoto])
         (try simp only [ls0, ls1])
         simp only [Option.some.injEq, Prod.mk.injEq] at H
         obtain ⟨rfl, rfl, rfl⟩ := H
         refine bodyPost_ret (results_tmp3 rfl _ _ _) rfl ?_
         exact ⟨_, rfl, HS421⟩
        rw [if_neg c426] at H
        (try rw [(Bool.eq_false_iff.mpr c426)])
        refine wp_cond_false rfl ?_
        refine wp_skip ?_
        (try simp only [ls0, ls1])
        refine hK415 _ _ ?_
        (try clear hK415 K415)
        refine wp_seq_k fun K428 hK428 => ?_
        refine wl_region ?_
        refine mv_ rfl ?_
        refine mv_ rfl ?_
        refine st (.int .i64 (wrap64 (x360 + 1))) rfl rfl (xr_bin _ _ _ rfl rfl rfl (B.add_i64 _ _)) ?_
        refine as_ rfl ?_
        simp only [ls0, ls1]
        refine as_ rfl ?_
        refine st (.int .i64 0) rfl rfl (xr_assign _ rfl rfl) ?_
        refine wl_end ?_
        (try simp only [ls0, ls1])
        refine hK428 _ _ ?_
        (try clear hK428 K428)
        refine wp_ret ?_
        (try simp only [Exit.inBlock, Exit.then, Exit.noGoto])
        (try simp only [ls0, ls1])
        simp only [Option.some.injEq, Prod.mk.injEq] at H
        obtain ⟨rfl, rfl, rfl⟩ := H
        refine bodyPost_ret (results_tmp3 rfl _ _ _) rfl ?_
        exact ⟨_, rfl, HS421⟩
      refine wl_region ?_
      refine mv_ rfl ?_
      refine st (.bool (decide ((IntKind.u64.wrap (Go.bits .andNot .u8 (rd l0 x360) 128)) = 0))) rfl rfl (xr_bin _ _ _ rfl rfl rfl (B.eql_u64 _ _)) ?_
      refine mv_ rfl ?_
      by_cases c429 : (IntKind.u64.wrap (Go.bits .andNot .u8 (rd l0 x360) 128)) = 0
      ·rw [if_pos c429] at H
       (try rw [(decide_eq_true c429)])
       refine on_guard (guard_on 2 true 40 rfl rfl rfl) ?_
       refine mv_ rfl ?_
       simp only [ls0, ls1]
       refine on_guard (guard_on 2 true 40 rfl rfl rfl) ?_
       refine st (.bool (decide (x360 > 0))) rfl rfl (xr_bin _ _ _ rfl rfl rfl (B.gtr_i64 _ _)) ?_
       refine st (.bool (decide (x360 > 0))) rfl rfl (xr_pick true _ rfl rfl rfl) ?_
       refine wl_end ?_
       (try simp only [ls0, ls1])
       exact jmp (fun g_ => hj418 _ _ _ (decide (x360 > 0)) g_ HS402 (by omega) H) rfl
      rw [if_neg c429] at H
      (try rw [(decide_eq_false c429)])
      refine sk_guard (guard_off 2 true 40 rfl rfl false (by decide) rfl) rfl ?_
      refine sk_guard (guard_off 2 true 40 rfl rfl false (by decide) rfl) rfl ?_
      refine st (.bool false) rfl rfl (xr_pick false _ rfl rfl rfl) ?_
      refine wl_end ?_
      (try simp only [ls0, ls1])
      exact jmp (fun g_ => hj418 _ _ _ (false) g_ HS402 (by omega) H) rfl
    refine wl_region ?_
    refine mv_ rfl ?_
    refine st (.bool (decide (x360 = 9))) rfl rfl (xr_bin _ _ _ rfl rfl rfl (B.eql_i64 _ _)) ?_
    refine mv_ rfl ?_
    by_cases c430 : x360 = 9
    ·rw [if_pos c430] at H
     (try rw [(decide_eq_true c430)])
     refine on_guard (guard_on 2 true 20 rfl rfl rfl) ?_
     refine mv_ rfl ?_
     simp only [ls0, ls1]
     refine on_guard (guard_on 2 true 20 rfl rfl rfl) ?_
     refine st (.bool (decide ((IntKind.u64.wrap (Go.bits .andNot .u8 (rd l0 x360) 128)) > 1))) rfl rfl (xr_bin _ _ _ rfl rfl rfl (B.gtr_u64 _ _)) ?_
     refine st (.bool (decide ((IntKind.u64.wrap (Go.bits .andNot .u8 (rd l0 x360) 128)) > 1))) rfl rfl (xr_pick true _ rfl rfl rfl) ?_
     refine mv_ rfl ?_
     by_cases c431 : (IntKind.u64.wrap (Go.bits .andNot .u8 (rd l0 x360) 128)) > 1
     ·rw [if_pos c431] at H
      (try rw [(decide_eq_true c431)])
      refine sk_guard (guard_off 6 false 24 rfl rfl true (by decide) rfl) rfl ?_
      simp only [ls0, ls1]
      refine sk_guard (guard_off 6 false 24 rfl rfl true (by decide) rfl) rfl ?_
      refine st (.bool true) rfl rfl (xr_pick true _ rfl rfl rfl) ?_
      refine wl_end ?_
      (try simp only [ls0, ls1])
      exact jmp (fun g_ => hj399 _ _ _ (true) g_ HS364 (by omega) HJ359 H) rfl
     rw [if_neg c431] at H
     (try rw [(decide_eq_false c431)])
     refine on_guard (guard_on 6 false 24 rfl rfl rfl) ?_
     refine mv_ rfl ?_
     refine on_guard (guard_on 6 false 24 rfl rfl rfl) ?_
     refine st (.bool (decide (x360 ≥ 10))) rfl rfl (xr_bin _ _ _ rfl rfl rfl (B.geq_i64 _ _)) ?_
     refine st (.bool (decide (x360 ≥ 10))) rfl rfl (xr_pick false _ rfl rfl rfl) ?_
     refine wl_end ?_
     (try simp only [ls0, ls1])
     exact jmp (fun g_ => hj399 _ _ _ (decide (x360 ≥ 10)) g_ HS364 (by omega) HJ359 H) rfl
    rw [if_neg c430] at H
    (try rw [(decide_eq_false c430)])
    refine sk_guard (guard_off 2 true 20 rfl rfl false (by decide) rfl) rfl ?_
    refine sk_guard (guard_off 2 true 20 rfl rfl false (by decide) rfl) rfl ?_
    refine st (.bool false) rfl rfl (xr_pick false _ rfl rfl rfl) ?_
    refine mv_ rfl ?_
    simp only [ls0, ls1]
    refine on_guard (guard_on 6 false 24 rfl rfl rfl) ?_
    refine mv_ rfl ?_
    refine on_guard (guard_on 6 false 24 rfl rfl rfl) ?_
    refine st (.bool (decide (x360 ≥ 10))) rfl rfl (xr_bin _ _ _ rfl rfl rfl (B.geq_i64 _ _)) ?_
    refine st (.bool (decide (x360 ≥ 10))) rfl rfl (xr_pick false _ rfl rfl rfl) ?_
    refine wl_end ?_
    (try simp only [ls0, ls1])
    exact jmp (fun g_ => hj399 _ _ _ (decide (x360 ≥ 10)) g_ HS364 (by omega) HJ359 H) rfl
   rw [if_neg c372] at H
   (try rw [(decide_eq_false c372)])
   refine wp_cond_false rfl ?_
   refine wp_exit ?_
   (try simp only [ls0, ls1])
   refine hK218 _ _ ?_
   (try clear hK218 K218)
   refine wp_seq_k fun K432 hK432 => ?_
   refine wl_region ?_
   refine st (.int .u64 0) rfl rfl (xr_assign _ rfl rfl) ?_
   refine st (.int .i64 0) rfl rfl (xr_assign _ rfl rfl) ?_
   refine st (.int .i64 2) rfl rfl (xr_assign _ rfl rfl) ?_
   refine wl_end ?_
   (try simp only [ls0, ls1])
   refine hK432 _ _ ?_
   (try clear hK432 K432)
   refine wp_ret ?_
   (try simp only [Exit.inBlock, Exit.then, Exit.noGoto])
   (try simp only [ls0, ls1])
   simp only [Option.some.injEq, Prod.mk.injEq] at H
   obtain ⟨rfl, rfl, rfl⟩ := H
   refine bodyPost_ret (results_tmp3 rfl _ _ _) rfl ?_
   exact ⟨_, rfl, HS364⟩

/-! ### blazonref01_GetShort: function 25 -/
mutual
def blazonref01_GetShort.j0 : Nat → (List Int) → Int → Int → Int → Bool → Option (Int × Int × Int)
  | 0, _, _, _, _, _ => none
  | k + 1, l0, x370, x371, x372, x436 => if x436 = true then (some (0, 0, 4)) else (some (IntKind.u64.wrap (x370 + (IntKind.u64.wrap ((IntKind.u64.wrap (Int.tmod (rd l0 x372) 128)) * x371))), wrap64 (x372 + 1), 0))
def blazonref01_GetShort.j1 : Nat → (List Int) → Int → Int → Int → Bool → Option (Int × Int × Int)
  | 0, _, _, _, _, _ => none
  | k + 1, l0, x370, x371, x372, x415 => if x415 = true then (some (0, 0, 4)) else (if 0 ≤ x372 then (if x372 < (l0.length : Int) then (if (rd l0 x372) < 128 then (if (IntKind.u64.wrap (Int.tmod (rd l0 x372) 128)) = 0 then (blazonref01_GetShort.j0 k l0 x370 x371 x372 (decide (x372 > 0))) else (blazonref01_GetShort.j0 k l0 x370 x371 x372 false)) else (blazonref01_GetShort.l0 k l0 (IntKind.u64.wrap (x370 + (IntKind.u64.wrap ((IntKind.u64.wrap (Int.tmod (rd l0 x372) 128)) * x371)))) (IntKind.u64.wrap (x371 * 128)) (wrap64 (x372 + 1)))) else (none)) else (none))
def blazonref01_GetShort.l0 : Nat → (List Int) → Int → Int → Int → Option (Int × Int × Int)
  | 0, _, _, _, _ => none
  | k + 1, l0, x370, x371, x372 => if x372 < (l0.length : Int) then (if 0 ≤ x372 then (if x372 = 9 then (if (IntKind.u64.wrap (Int.tmod (rd l0 x372) 128)) > 1 then (blazonref01_GetShort.j1 k l0 x370 x371 x372 true) else (blazonref01_GetShort.j1 k l0 x370 x371 x372 (decide (x372 > 9)))) else (blazonref01_GetShort.j1 k l0 x370 x371 x372 (decide (x372 > 9)))) else (none)) else (some (0, 0, 2))
end
def blazonref01_GetShort.f (k : Nat) (l0 : List Int) : Option (Int × Int × Int) := blazonref01_GetShort.l0 k l0 0 1 0

set_option maxHeartbeats 8000000 in
set_option maxRecDepth 100000 in
theorem blazonref01_GetShort.calls (k : Nat) (A0 : Option Addr) (c0 : Nat) (l0 : List Int) (r1 : Int) (r2 : Int) (r3 : Int) (c : Nat → Nat) (w : World) (hc : ∀ k, c k < 10) (HP0 : Ft c [0] w (fun w_ => (Kd.int .u8).C w_ A0 l0.length l0)) (HCP0 : l0.length ≤ c0) (H : blazonref01_GetShort.f k l0 = some (r1, r2, r3)) :
    Calls Try.prog 25 #[.slice A0 l0.length c0] w fun e w' => ∃ (c' : Nat → Nat) , e = .returned (.tuple #[.int .u64 r1, .int .i64 r2, .int .i64 r3]) ∧ Step c w c' w' [] := by
 unfold blazonref01_GetShort.f at H
 have HS := Step.refl c w []
 go_enter Try.func25, Try.ntmps25
 refine wp_seq_k fun K224 hK224 => ?_
 refine wl_region ?_
 refine st (.int .u64 0) rfl rfl (xr_assign _ rfl rfl) ?_
 refine st (.int .i64 0) rfl rfl (xr_assign _ rfl rfl) ?_
 refine st (.int .i64 0) rfl rfl (xr_assign _ rfl rfl) ?_
 refine wl_end ?_
 (try simp only [ls0, ls1])
 refine hK224 _ _ ?_
 (try clear hK224 K224)
 refine wp_seq_k fun K225 hK225 => ?_
 refine wl_region ?_
 refine st (.int .u64 0) rfl rfl (xr_assign _ rfl rfl) ?_
 refine wl_end ?_
 (try simp only [ls0, ls1])
 refine hK225 _ _ ?_
 (try clear hK225 K225)
 refine wp_seq_k fun K226 hK226 => ?_
 refine wl_region ?_
 refine st (.int .u64 1) rfl rfl (xr_assign _ rfl rfl) ?_
 refine wl_end ?_
 (try simp only [ls0, ls1])
 refine hK226 _ _ ?_
 (try clear hK226 K226)
 refine wp_seq_k fun K227 hK227 => ?_
 refine wp_seq_k fun K228 hK228 => ?_
 refine wl_region ?_
 refine st (.int .i64 0) rfl rfl (xr_assign _ rfl rfl) ?_
 refine wl_end ?_
 (try simp only [ls0, ls1])
 refine hK228 _ _ ?_
 (try clear hK228 K228)
 refine wp_block ?_
 (try simp only [ls0, ls1])
 refine wp_looped (looped_fin (fun kq375 a_ w374 => ∃ (C373 : Nat → Nat) (x370 : Int) (x371 : Int) (x372 : Int) (g_ : Nat → Value), a_ = ⟨#[.slice A0 l0.length c0, (g_ 1), (g_ 2), (g_ 3), (g_ 4), .int .u64 x370, .int .u64 x371, .int .i64 x372, (g_ 8), (g_ 9), (g_ 10), (g_ 11), (g_ 12), (g_ 13), (g_ 14), (g_ 15), (g_ 16), (g_ 17), (g_ 18), (g_ 19), (g_ 20), (g_ 21), (g_ 22), (g_ 23), (g_ 24), (g_ 25), (g_ 26), (g_ 27), (g_ 28), (g_ 29), (g_ 30), (g_ 31), (g_ 32), (g_ 33), (g_ 34), (g_ 35), (g_ 36), (g_ 37), (g_ 38), (g_ 39), (g_ 40), (g_ 41), (g_ 42), (g_ 43), (g_ 44), (g_ 45), (g_ 46), (g_ 47), (g_ 48), (g_ 49), (g_ 50), (g_ 51)], []⟩ ∧ Step c w C373 w374 [] ∧ kq375 ≤ k ∧ (Ft C373 [0] w374 (fun w_ => (Kd.int .u8).C w_ A0 l0.length l0)) ∧ blazonref01_GetShort.l0 kq375 l0 x370 x371 x372 = some (r1, r2, r3)) ?step fun hL_ => ?init)
 case init =>
  exact jmpL (fun a_ h_ => hL_ k a_ _ h_) (fun g_ => ⟨_, 0, 1, 0, g_, rfl, HS, Nat.le_refl _, HP0, H⟩) rfl
 case step =>
  intro kq375 ih378 a379 w374 hr380
  obtain ⟨C373, x370, x371, x372, g_, rfl, HS376, hk377, HJ369, H⟩ := hr380
  refine looped_round ?_
  cases kq375 with
  | zero => exact absurd H (by simp [blazonref01_GetShort.l0])
  | succ k381 =>
   simp only [blazonref01_GetShort.l0] at H
   refine wp_seq_k fun K382 hK382 => ?_
   refine wp_seq_k fun K383 hK383 => ?_
   refine wl_region ?_
   refine mv_ rfl ?_
   refine mv_ rfl ?_
   refine st (.int .i64 (l0.length : Int)) rfl rfl (xr_builtin #[.slice A0 l0.length c0] (.int .i64 (l0.length : Int)) rfl (mp_ rfl) (by first | rfl | (go_simp; done) | (go_simp; rfl) | (go_simp; exact i64_w _) | (go_simp; exact i32_w _))) ?_
   refine st (.bool (decide (x372 < (l0.length : Int)))) rfl rfl (xr_bin _ _ _ rfl rfl rfl (B.lss_i64 _ _)) ?_
   simp only [ls0, ls1]
   refine wl_end ?_
   (try simp only [ls0, ls1])
   refine hK383 _ _ ?_
   (try clear hK383 K383)
   by_cases c384 : x372 < (l0.length : Int)
   ·rw [if_pos c384] at H
    (try rw [(decide_eq_true c384)])
    refine wp_cond_true rfl ?_
    refine wp_skip ?_
    (try simp only [ls0, ls1])
    refine hK382 _ _ ?_
    (try clear hK382 K382)
    refine wp_seq_k fun K385 hK385 => ?_
    refine wp_block ?_
    refine wp_seq_k fun K386 hK386 => ?_
    refine wl_region ?_
    refine mv_ rfl ?_
    refine mv_ rfl ?_
    obtain ⟨c387, H⟩ := if_some H
    obtain ⟨ad388, hA389⟩ := c_addr (Ft.now HJ369) (pos_of (j := x372) (by first | assumption | decide) (by first | assumption | omega))
    refine st (.pointer (some (ad388.add ((x372 : Int).toNat * 1)))) rfl rfl (xr_indexAddr _ _ _ rfl rfl rfl (index_at Try.underlying23 info5 hA389 (by first | assumption | decide | omega) (by first | assumption | decide | omega))) ?_
    refine st (.int .u8 (rd l0 x372)) rfl rfl (xr_load _ _ rfl rfl (load_int Try.underlying5 rfl hA389 (Ft.now HJ369) (by first | assumption | decide | omega) (by first | assumption | decide | omega))) ?_
    simp only [ls0, ls1]
    refine st (.int .u8 (Int.tmod (rd l0 x372) 128)) rfl rfl (xr_bin _ _ _ rfl rfl rfl (B.rem_u8 _ _ (by decide))) ?_
    refine st (.int .u64 (IntKind.u64.wrap (Int.tmod (rd l0 x372) 128))) rfl rfl (xr_conv (.int .u8 (Int.tmod (rd l0 x372) 128)) _ rfl rfl (by first | rfl | (go_simp; done) | (go_simp; rfl) | (go_simp; exact i64_w _) | (go_simp; exact i32_w _))) ?_
    refine as_ rfl ?_
    refine wl_end ?_
    (try simp only [ls0, ls1])
    refine hK386 _ _ ?_
    (try clear hK386 K386)
    refine wp_seq_k fun K390 hK390 => ?_
    refine wp_seq_k fun K407 hK407 => ?_
    have hj410 : ∀ (kq416 : Nat) (C411 : Nat → Nat) (w412 : World) (x415 : Bool) (g_ : Nat → Value), Step c w C411 w412 [] → kq416 ≤ k381 → (Ft C411 [0] w412 (fun w_ => (Kd.int .u8).C w_ A0 l0.length l0)) → blazonref01_GetShort.j1 kq416 l0 x370 x371 x372 x415 = some (r1, r2, r3) → K407 ⟨#[.slice A0 l0.length c0, (g_ 1), (g_ 2), (g_ 3), (g_ 4), .int .u64 x370, .int .u64 x371, .int .i64 x372, .int .u64 (IntKind.u64.wrap (Int.tmod (rd l0 x372) 128)), (g_ 9), (g_ 10), (g_ 11), (g_ 12), (g_ 13), (g_ 14), (g_ 15), (g_ 16), (g_ 17), (g_ 18), (g_ 19), (g_ 20), (g_ 21), (g_ 22), (g_ 23), (g_ 24), (g_ 25), (g_ 26), (g_ 27), (g_ 28), (g_ 29), .bool x415, (g_ 31), (g_ 32), (g_ 33), (g_ 34), (g_ 35), (g_ 36), (g_ 37), (g_ 38), (g_ 39), (g_ 40), (g_ 41), (g_ 42), (g_ 43), (g_ 44), (g_ 45), (g_ 46), (g_ 47), (g_ 48), (g_ 49), (g_ 50), (g_ 51)], []⟩ w412 := by
     intro kq416 C411 w412 x415 g_ HS413 hk417 HJ414 H
     cases kq416 with
     | zero => exact absurd H (by simp [blazonref01_GetShort.j1])
     | succ k418 =>
      simp only [blazonref01_GetShort.j1] at H
      refine hK407 _ _ ?_
      (try clear hK407)
      by_cases c419 : x415 = true
      ·rw [if_pos c419] at H
       (try rw [c419])
       refine wp_cond_true rfl ?_
       refine wp_seq_k fun K420 hK420 => ?_
       refine wl_region ?_
       refine st (.int .u64 0) rfl rfl (xr_assign _ rfl rfl) ?_
       refine st (.int .i64 0) rfl rfl (xr_assign _ rfl rfl) ?_
       refine st (.int .i64 4) rfl rfl (xr_assign _ rfl rfl) ?_
       refine wl_end ?_
       (try simp only [ls0, ls1])
       refine hK420 _ _ ?_
       (try clear hK420 K420)
       refine wp_ret ?_
       (try simp only [Exit.inBlock, Exit.then, Exit.noGoto])
       (try simp only [ls0, ls1])
       simp only [Option.some.injEq, Prod.mk.injEq] at H
       obtain ⟨rfl, rfl, rfl⟩ := H
       refine bodyPost_ret (results_tmp3 rfl _ _ _) rfl ?_
       exact ⟨_, rfl, HS413⟩
      rw [if_neg c419] at H
      (try rw [(Bool.eq_false_iff.mpr c419)])
      refine wp_cond_false rfl ?_
      refine wp_skip ?_
      (try simp only [ls0, ls1])
      refine hK390 _ _ ?_
      (try clear hK390 K390)
      refine wp_seq_k fun K421 hK421 => ?_
      refine wl_region ?_
      refine mv_ rfl ?_
      refine mv_ rfl ?_
      refine mv_ rfl ?_
      refine st (.int .u64 (IntKind.u64.wrap ((IntKind.u64.wrap (Int.tmod (rd l0 x372) 128)) * x371))) rfl rfl (xr_bin _ _ _ rfl rfl rfl (B.mul_u64 _ _)) ?_
      simp only [ls0, ls1]
      refine st (.int .u64 (IntKind.u64.wrap (x370 + (IntKind.u64.wrap ((IntKind.u64.wrap (Int.tmod (rd l0 x372) 128)) * x371))))) rfl rfl (xr_bin _ _ _ rfl rfl rfl (B.add_u64 _ _)) ?_
      refine as_ rfl ?_
      refine wl_end ?_
      (try simp only [ls0, ls1])
      refine hK421 _ _ ?_
      (try clear hK421 K421)
      refine wp_seq_k fun K422 hK422 => ?_
      refine wl_region ?_
      refine mv_ rfl ?_
      refine st (.int .u64 (IntKind.u64.wrap (x371 * 128))) rfl rfl (xr_bin _ _ _ rfl rfl rfl (B.mul_u64 _ _)) ?_
      refine as_ rfl ?_
      refine wl_end ?_
      (try simp only [ls0, ls1])
      refine hK422 _ _ ?_
      (try clear hK422 K422)
      refine wp_seq_k fun K423 hK423 => ?_
      refine wl_region ?_
      refine mv_ rfl ?_
      refine mv_ rfl ?_
      obtain ⟨c424, H⟩ := if_some H
      obtain ⟨c425, H⟩ := if_some H
      obtain ⟨ad426, hA427⟩ := c_addr (Ft.now HJ414) (pos_of (j := x372) (by first | assumption | decide) (by first | assumption | omega))
      refine st (.pointer (some (ad426.add ((x372 : Int).toNat * 1)))) rfl rfl (xr_indexAddr _ _ _ rfl rfl rfl (index_at Try.underlying23 info5 hA427 (by first | assumption | decide | omega) (by first | assumption | decide | omega))) ?_
      refine st (.int .u8 (rd l0 x372)) rfl rfl (xr_load _ _ rfl rfl (load_int Try.underlying5 rfl hA427 (Ft.now HJ414) (by first | assumption | decide | omega) (by first | assumption | decide | omega))) ?_
      simp only [ls0, ls1]
      refine st (.bool (decide ((rd l0 x372) < 128))) rfl rfl (xr_bin _ _ _ rfl rfl rfl (B.lss_u8 _ _)) ?_
      refine wl_end ?_
      (try simp only [ls0, ls1])
      refine hK423 _ _ ?_
      (try clear hK423 K423)
      by_cases c428 : (rd l0 x372) < 128
      ·rw [if_pos c428] at H
       (try rw [(decide_eq_true c428)])
       refine wp_cond_true rfl ?_
       refine wp_seq_k fun K429 hK429 => ?_
       refine wp_seq_k fun K430 hK430 => ?_
       have hj432 : ∀ (kq437 : Nat) (C433 : Nat → Nat) (w434 : World) (x436 : Bool) (g_ : Nat → Value), Step c w C433 w434 [] → kq437 ≤ k418 → blazonref01_GetShort.j0 kq437 l0 x370 x371 x372 x436 = some (r1, r2, r3) → K430 ⟨#[(g_ 0), (g_ 1), (g_ 2), (g_ 3), (g_ 4), .int .u64 (IntKind.u64.wrap (x370 + (IntKind.u64.wrap ((IntKind.u64.wrap (Int.tmod (rd l0 x372) 128)) * x371)))), (g_ 6), .int .i64 x372, (g_ 8), (g_ 9), (g_ 10), (g_ 11), (g_ 12), (g_ 13), (g_ 14), (g_ 15), (g_ 16), (g_ 17), (g_ 18), (g_ 19), (g_ 20), (g_ 21), (g_ 22), (g_ 23), (g_ 24), (g_ 25), (g_ 26), (g_ 27), (g_ 28), (g_ 29), (g_ 30), (g_ 31), (g_ 32), (g_ 33), (g_ 34), (g_ 35), (g_ 36), (g_ 37), (g_ 38), (g_ 39), (g_ 40), (g_ 41), (g_ 42), (g_ 43), (g_ 44), (g_ 45), (g_ 46), (g_ 47), .bool x436, (g_ 49), (g_ 50), (g_ 51)], []⟩ w434 := by
        intro kq437 C433 w434 x436 g_ HS435 hk438  H
        cases kq437 with
        | zero => exact absurd H (by simp [blazonref01_GetShort.j0])
        | succ k439 =>
         simp only [blazonref01_GetShort.j0] at H
         refine hK430 _ _ ?_
         (try clear hK430)
         by_cases c440 : x436 = true
         ·rw [if_pos c440] at H
          (try rw [c440])
          refine wp_cond_true rfl ?_
          refine wp_seq_k fun K441 hK441 => ?_
          refine wl_region ?_
          refine st (.int .u64 0) rfl rfl (xr_assign _ rfl rfl) ?_
          refine st (.int .i64 0) rfl rfl (xr_assign _ rfl rfl) ?_
          refine st (.int .i64 4) rfl rfl (xr_assign _ rfl rfl) ?_
          simp only [ls0, ls1]
          refine wl_end ?_
          (try simp only [ls0, ls1])
          refine hK441 _ _ ?_
          (try clear hK441 K441)
          refine wp_ret ?_
          (try simp only [Exit.inBlock, Exit.then, Exit.noGoto])
          (try simp only [ls0, ls1])
          simp only [Option.some.injEq, Prod.mk.injEq] at H
          obtain ⟨rfl, rfl, rfl⟩ := H
          refine bodyPost_ret (results_tmp3 rfl _ _ _) rfl ?_
          exact ⟨_, rfl, HS435⟩
         rw [if_neg c440] at H
         (try rw [(Bool.eq_false_iff.mpr c440)])
         refine wp_cond_false rfl ?_
         refine wp_skip ?_
         (try simp only [ls0, ls1])
         refine hK429 _ _ ?_
         (try clear hK429 K429)
         refine wp_seq_k fun K442 hK442 => ?_
         refine wl_region ?_
         refine mv_ rfl ?_
         refine mv_ rfl ?_
         refine st (.int .i64 (wrap64 (x372 + 1))) rfl rfl (xr_bin _ _ _ rfl rfl rfl (B.add_i64 _ _)) ?_
         refine as_ rfl ?_
         simp only [ls0, ls1]
         refine as_ rfl ?_
         refine st (.int .i64 0) rfl rfl (xr_assign _ rfl rfl) ?_
         refine wl_end ?_
         (try simp only [ls0, ls1])
         refine hK442 _ _ ?_
         (try clear hK442 K442)
         refine wp_ret ?_
         (try simp only [Exit.inBlock, Exit.then, Exit.noGoto])
         (try simp only [ls0, ls1])
         simp only [Option.some.injEq, Prod.mk.injEq] at H
         obtain ⟨rfl, rfl, rfl⟩ := H
         refine bodyPost_ret (results_tmp3 rfl _ _ _) rfl ?_
         exact ⟨_, rfl, HS435⟩
       refine wl_region ?_
       refine mv_ rfl ?_
       refine st (.bool (decide ((IntKind.u64.wrap (Int.tmod (rd l0 x372) 128)) = 0))) rfl rfl (xr_bin _ _ _ rfl rfl rfl (B.eql_u64 _ _)) ?_
       refine mv_ rfl ?_
       by_cases c443 : (IntKind.u64.wrap (Int.tmod (rd l0 x372) 128)) = 0
       ·rw [if_pos c443] at H
        (try rw [(decide_eq_true c443)])
        refine on_guard (guard_on 2 true 45 rfl rfl rfl) ?_
        refine mv_ rfl ?_
        simp only [ls0, ls1]
        refine on_guard (guard_on 2 true 45 rfl rfl rfl) ?_
        refine st (.bool (decide (x372 > 0))) rfl rfl (xr_bin _ _ _ rfl rfl rfl (B.gtr_i64 _ _)) ?_
        refine st (.bool (decide (x372 > 0))) rfl rfl (xr_pick true _ rfl rfl rfl) ?_
        refine wl_end ?_
        (try simp only [ls0, ls1])
        exact jmp (fun g_ => hj432 _ _ _ (decide (x372 > 0)) g_ HS413 (by omega) H) rfl
       rw [if_neg c443] at H
       (try rw [(decide_eq_false c443)])
       refine sk_guard (guard_off 2 true 45 rfl rfl false (by decide) rfl) rfl ?_
       refine sk_guard (guard_off 2 true 45 rfl rfl false (by decide) rfl) rfl ?_
       refine st (.bool false) rfl rfl (xr_pick false _ rfl rfl rfl) ?_
       refine wl_end ?_
       (try simp only [ls0, ls1])
       exact jmp (fun g_ => hj432 _ _ _ (false) g_ HS413 (by omega) H) rfl
      rw [if_neg c428] at H
      (try rw [(decide_eq_false c428)])
      refine wp_cond_false rfl ?_
      refine wp_skip ?_
      (try simp only [ls0, ls1])
      refine hK385 _ _ ?_
      (try clear hK385 K385)
      refine wl_region ?_
      refine mv_ rfl ?_
      refine st (.int .i64 (wrap64 (x372 + 1))) rfl rfl (xr_bin _ _ _ rfl rfl rfl (B.add_i64 _ _)) ?_
      refine as_ rfl ?_
      refine wl_end ?_
      (try simp only [ls0, ls1])
      exact jmpL (fun a_ h_ => ih378 k418 (by omega) a_ _ h_) (fun g_ => ⟨_, IntKind.u64.wrap (x370 + (IntKind.u64.wrap ((IntKind.u64.wrap (Int.tmod (rd l0 x372) 128)) * x371))), IntKind.u64.wrap (x371 * 128), wrap64 (x372 + 1), g_, rfl, HS413, (by omega), HJ414, H⟩) rfl
    refine wl_region ?_
    refine mv_ rfl ?_
    refine st (.bool (decide (x372 = 9))) rfl rfl (xr_bin _ _ _ rfl rfl rfl (B.eql_i64 _ _)) ?_
    refine mv_ rfl ?_
    by_cases c444 : x372 = 9
    ·rw [if_pos c444] at H
     (try rw [(decide_eq_true c444)])
     refine on_guard (guard_on 2 true 23 rfl rfl rfl) ?_
     refine mv_ rfl ?_
     simp only [ls0, ls1]
     refine on_guard (guard_on 2 true 23 rfl rfl rfl) ?_
     refine st (.bool (decide ((IntKind.u64.wrap (Int.tmod (rd l0 x372) 128)) > 1))) rfl rfl (xr_bin _ _ _ rfl rfl rfl (B.gtr_u64 _ _)) ?_
     refine st (.bool (decide ((IntKind.u64.wrap (Int.tmod (rd l0 x372) 128)) > 1))) rfl rfl (xr_pick true _ rfl rfl rfl) ?_
     refine mv_ rfl ?_
     by_cases c445 : (IntKind.u64.wrap (Int.tmod (rd l0 x372) 128)) > 1
     ·rw [if_pos c445] at H
      (try rw [(decide_eq_true c445)])
      refine sk_guard (guard_off 6 false 27 rfl rfl true (by decide) rfl) rfl ?_
      simp only [ls0, ls1]
      refine sk_guard (guard_off 6 false 27 rfl rfl true (by decide) rfl) rfl ?_
      refine st (.bool true) rfl rfl (xr_pick true _ rfl rfl rfl) ?_
      refine wl_end ?_
      (try simp only [ls0, ls1])
      exact jmp (fun g_ => hj410 _ _ _ (true) g_ HS376 (by omega) HJ369 H) rfl
     rw [if_neg c445] at H
     (try rw [(decide_eq_false c445)])
     refine on_guard (guard_on 6 false 27 rfl rfl rfl) ?_
     refine mv_ rfl ?_
     refine on_guard (guard_on 6 false 27 rfl rfl rfl) ?_
     refine st (.bool (decide (x372 > 9))) rfl rfl (xr_bin _ _ _ rfl rfl rfl (B.gtr_i64 _ _)) ?_
     refine st (.bool (decide (x372 > 9))) rfl rfl (xr_pick false _ rfl rfl rfl) ?_
     refine wl_end ?_
     (try simp only [ls0, ls1])
     exact jmp (fun g_ => hj410 _ _ _ (decide (x372 > 9)) g_ HS376 (by omega) HJ369 H) rfl
    rw [if_neg c444] at H
    (try rw [(decide_eq_false c444)])
    refine sk_guard (guard_off 2 true 23 rfl rfl false (by decide) rfl) rfl ?_
    refine sk_guard (guard_off 2 true 23 rfl rfl false (by decide) rfl) rfl ?_
    refine st (.bool false) rfl rfl (xr_pick false _ rfl rfl rfl) ?_
    refine mv_ rfl ?_
    simp only [ls0, ls1]
    refine on_guard (guard_on 6 false 27 rfl rfl rfl) ?_
    refine mv_ rfl ?_
    refine on_guard (guard_on 6 false 27 rfl rfl rfl) ?_
    refine st (.bool (decide (x372 > 9))) rfl rfl (xr_bin _ _ _ rfl rfl rfl (B.gtr_i64 _ _)) ?_
    refine st (.bool (decide (x372 > 9))) rfl rfl (xr_pick false _ rfl rfl rfl) ?_
    refine wl_end ?_
    (try simp only [ls0, ls1])
    exact jmp (fun g_ => hj410 _ _ _ (decide (x372 > 9)) g_ HS376 (by omega) HJ369 H) rfl
   rw [if_neg c384] at H
   (try rw [(decide_eq_false c384)])
   refine wp_cond_false rfl ?_
   refine wp_exit ?_
   (try simp only [ls0, ls1])
   refine hK227 _ _ ?_
   (try clear hK227 K227)
   refine wp_seq_k fun K446 hK446 => ?_
   refine wl_region ?_
   refine st (.int .u64 0) rfl rfl (xr_assign _ rfl rfl) ?_
   refine st (.int .i64 0) rfl rfl (xr_assign _ rfl rfl) ?_
   refine st (.int .i64 2) rfl rfl (xr_assign _ rfl rfl) ?_
   refine wl_end ?_
   (try simp only [ls0, ls1])
   refine hK446 _ _ ?_
   (try clear hK446 K446)
   refine wp_ret ?_
   (try simp only [Exit.inBlock, Exit.then, Exit.noGoto])
   (try simp only [ls0, ls1])
   simp only [Option.some.injEq, Prod.mk.injEq] at H
   obtain ⟨rfl, rfl, rfl⟩ := H
   refine bodyPost_ret (results_tmp3 rfl _ _ _) rfl ?_
   exact ⟨_, rfl, HS376⟩

/-! ### blazonref01_Kept: function 26 -/
def blazonref01_Kept.f (k : Nat) (l0 : List Int) (l1 : List Int) : Option (Bool) := if 0 ≤ (wrap64 ((l1.length : Int) + 3)) then (if (wrap64 ((l1.length : Int) + 3)) ≤ ((l0 ++ [77, 78, 79]).length : Int) then ((some ((l0 ++ [77, 78, 79]).take (wrap64 ((l1.length : Int) + 3) : Int).toNat : List Int)).bind fun y48 => (if 0 ≤ (l1.length : Int) then (if (l1.length : Int) ≤ (y48.length : Int) then ((some (y48.take ((l1.length : Int) : Int).toNat : List Int)).bind fun y59 => ((blazonref01_Same.f k y59 l1).bind fun t67 => (if t67 = true then (if (l1.length : Int) < (y48.length : Int) then (if (rd y48 (l1.length : Int)) = 77 then (if 0 ≤ (wrap64 ((l1.length : Int) + 1)) then (if (wrap64 ((l1.length : Int) + 1)) < (y48.length : Int) then (if (rd y48 (wrap64 ((l1.length : Int) + 1))) = 78 then (if 0 ≤ (wrap64 ((l1.length : Int) + 2)) then (if (wrap64 ((l1.length : Int) + 2)) < (y48.length : Int) then (some (decide ((rd y48 (wrap64 ((l1.length : Int) + 2))) = 79))) else (none)) else (none)) else (some false)) else (none)) else (none)) else (some false)) else (none)) else (some false)))) else (none)) else (none))) else (none)) else (none)

set_option maxHeartbeats 8000000 in
set_option maxRecDepth 100000 in
theorem blazonref01_Kept.calls (k : Nat) (A0 : Option Addr) (c0 : Nat) (l0 : List Int) (A1 : Option Addr) (c1 : Nat) (l1 : List Int) (r : Bool) (c : Nat → Nat) (w : World) (hc : ∀ k, c k < 10) (HP0 : Ft c [0] w (fun w_ => (Kd.int .u8).C w_ A0 l0.length l0)) (HCP0 : l0.length ≤ c0) (HT0 : Ft c [0] w (fun w_ => (Kd.int .u8).C w_ A0 (l0 ++ [77, 78, 79]).length (l0 ++ [77, 78, 79]))) (HTC0 : (l0 ++ [77, 78, 79]).length ≤ c0) (HP1 : Ft c [0] w (fun w_ => (Kd.int .u8).C w_ A1 l1.length l1)) (HCP1 : l1.length ≤ c1) (H : blazonref01_Kept.f k l0 l1 = some r) :
    Calls Try.prog 26 #[.slice A0 l0.length c0, .slice A1 l1.length c1] w fun e w' => ∃ (c' : Nat → Nat) , e = .returned (.bool r) ∧ Step c w c' w' [] := by
 unfold blazonref01_Kept.f at H
 have HS := Step.refl c w []
 go_enter Try.func26, Try.ntmps26
 refine wp_seq_k fun K44 hK44 => ?_
 refine wl_region ?_
 refine st (.bool false) rfl rfl (xr_assign _ rfl rfl) ?_
 refine wl_end ?_
 (try simp only [ls0, ls1])
 refine hK44 _ _ ?_
 (try clear hK44 K44)
 refine wp_seq_k fun K45 hK45 => ?_
 refine wl_region ?_
 refine mv_ rfl ?_
 refine mv_ rfl ?_
 refine st (.int .i64 (l1.length : Int)) rfl rfl (xr_builtin #[.slice A1 l1.length c1] (.int .i64 (l1.length : Int)) rfl (mp_ rfl) (by first | rfl | (go_simp; done) | (go_simp; rfl) | (go_simp; exact i64_w _) | (go_simp; exact i32_w _))) ?_
 refine st (.int .i64 (wrap64 ((l1.length : Int) + 3))) rfl rfl (xr_bin _ _ _ rfl rfl rfl (B.add_i64 _ _)) ?_
 simp only [ls0, ls1]
 obtain ⟨c46, H⟩ := if_some H
 obtain ⟨c47, H⟩ := if_some H
 obtain ⟨y48, A49, H⟩ := bnd H
 obtain ⟨iz55, hiz55, _, hzz55, _⟩ := info_parts info5
 obtain ⟨hr54, HR52, HC53⟩ := cutOver (t := 23) (Kd.int .u8) 5 .i64 Try.underlying23 hiz55 (n0 := l0.length) HT0 HTC0 (by first | assumption | omega | decide) (by first | assumption | omega | decide) (Option.some.inj A49)
 refine st (.slice A0 y48.length c0) rfl rfl (xr_slice (.slice A0 l0.length c0) none (some (.int .i64 (wrap64 ((l1.length : Int) + 3)))) none (.slice A0 y48.length c0) rfl rfl rfl rfl rfl (hr54 _)) ?_
 clear hr54 hiz55 hzz55
 refine as_ rfl ?_
 refine wl_end ?_
 (try simp only [ls0, ls1])
 refine hK45 _ _ ?_
 (try clear hK45 K45)
 refine wp_seq_k fun K56 hK56 => ?_
 refine wl_region ?_
 refine mv_ rfl ?_
 refine mv_ rfl ?_
 refine st (.int .i64 (l1.length : Int)) rfl rfl (xr_builtin #[.slice A1 l1.length c1] (.int .i64 (l1.length : Int)) rfl (mp_ rfl) (by first | rfl | (go_simp; done) | (go_simp; rfl) | (go_simp; exact i64_w _) | (go_simp; exact i32_w _))) ?_
 obtain ⟨c57, H⟩ := if_some H
 obtain ⟨c58, H⟩ := if_some H
 obtain ⟨y59, A60, H⟩ := bnd H
 obtain ⟨iz66, hiz66, _, hzz66, _⟩ := info_parts info5
 obtain ⟨hr65, HR63, HC64⟩ := cutTo (t := 23) (Kd.int .u8) 5 .i64 Try.underlying23 hiz66 HR52 HC53 (by first | assumption | omega | decide) (by first | assumption | omega | decide) (Option.some.inj A60)
 refine st (.slice A0 y59.length c0) rfl rfl (xr_slice (.slice A0 y48.length c0) none (some (.int .i64 (l1.length : Int))) none (.slice A0 y59.length c0) rfl rfl rfl rfl rfl (hr65 _)) ?_
 simp only [ls0, ls1]
 clear hr65 hiz66 hzz66
 refine mv_ rfl ?_
 obtain ⟨t67, A68, H⟩ := bnd H
 refine st_call #[.slice A0 y59.length c0, .slice A1 l1.length c1] rfl rfl Try.func17 (by kernel_rfl) rfl rfl (mp_ rfl) ?_
 refine (blazonref01_Same.calls k A0 c0 y59 A1 c1 l1 t67  (fun z_ => pal [(0, 0)] (c z_)) w (fun _ => pal_lt rfl _) (Ft.arg HR63 rfl) HC64 (Ft.arg HP1 rfl) HCP1 A68).mono ?_
 rintro _ w70 ⟨C71, rfl, hs72⟩
 refine ⟨_, rfl, ?_⟩
 replace hs72 := Step.lift (U := [(0, 0)]) hs72 [] rfl rfl
 generalize up c C71 w.heap.size [(0, 0)] = C71_ at hs72
 replace HT0 := HT0.thru hs72 rfl
 replace HP1 := HP1.thru hs72 rfl
 replace HR52 := HR52.thru hs72 rfl
 replace HS := HS.trans hs72 hc rfl
 (try simp only [ls0, ls1])
 refine mv_ rfl ?_
 by_cases c73 : t67 = true
 ·rw [if_pos c73] at H
  (try rw [c73])
  refine on_guard (guard_on 6 true 17 rfl rfl rfl) ?_
  refine mv_ rfl ?_
  refine on_guard (guard_on 6 true 17 rfl rfl rfl) ?_
  refine mv_ rfl ?_
  refine on_guard (guard_on 6 true 17 rfl rfl rfl) ?_
  refine st (.int .i64 (l1.length : Int)) rfl rfl (xr_builtin #[.slice A1 l1.length c1] (.int .i64 (l1.length : Int)) rfl (mp_ rfl) (by first | rfl | (go_simp; done) | (go_simp; rfl) | (go_simp; exact i64_w _) | (go_simp; exact i32_w _))) ?_
  simp only [ls0, ls1]
  refine on_guard (guard_on 6 true 17 rfl rfl rfl) ?_
  obtain ⟨c74, H⟩ := if_some H
  obtain ⟨ad75, hA76⟩ := c_addr (Ft.now HR52) (pos_of (j := (l1.length : Int)) (by first | assumption | decide) (by first | assumption | omega))
  refine st (.pointer (some (ad75.add (((l1.length : Int) : Int).toNat * 1)))) rfl rfl (xr_indexAddr _ _ _ rfl rfl rfl (index_at Try.underlying23 info5 hA76 (by first | assumption | decide | omega) (by first | assumption | decide | omega))) ?_
  refine on_guard (guard_on 6 true 17 rfl rfl rfl) ?_
  refine st (.int .u8 (rd y48 (l1.length : Int))) rfl rfl (xr_load _ _ rfl rfl (load_int Try.underlying5 rfl hA76 (Ft.now HR52) (by first | assumption | decide | omega) (by first | assumption | decide | omega))) ?_
  refine on_guard (guard_on 6 true 17 rfl rfl rfl) ?_
  refine st (.bool (decide ((rd y48 (l1.length : Int)) = 77))) rfl rfl (xr_bin _ _ _ rfl rfl rfl (B.eql_u8 _ _)) ?_
  refine st (.bool (decide ((rd y48 (l1.length : Int)) = 77))) rfl rfl (xr_pick true _ rfl rfl rfl) ?_
  simp only [ls0, ls1]
  refine mv_ rfl ?_
  by_cases c77 : (rd y48 (l1.length : Int)) = 77
  ·rw [if_pos c77] at H
   (try rw [(decide_eq_true c77)])
   refine on_guard (guard_on 14 true 25 rfl rfl rfl) ?_
   refine mv_ rfl ?_
   refine on_guard (guard_on 14 true 25 rfl rfl rfl) ?_
   refine mv_ rfl ?_
   refine on_guard (guard_on 14 true 25 rfl rfl rfl) ?_
   refine st (.int .i64 (l1.length : Int)) rfl rfl (xr_builtin #[.slice A1 l1.length c1] (.int .i64 (l1.length : Int)) rfl (mp_ rfl) (by first | rfl | (go_simp; done) | (go_simp; rfl) | (go_simp; exact i64_w _) | (go_simp; exact i32_w _))) ?_
   simp only [ls0, ls1]
   refine on_guard (guard_on 14 true 25 rfl rfl rfl) ?_
   refine st (.int .i64 (wrap64 ((l1.length : Int) + 1))) rfl rfl (xr_bin _ _ _ rfl rfl rfl (B.add_i64 _ _)) ?_
   refine on_guard (guard_on 14 true 25 rfl rfl rfl) ?_
   obtain ⟨c78, H⟩ := if_some H
   obtain ⟨c79, H⟩ := if_some H
   obtain ⟨ad80, hA81⟩ := c_addr (Ft.now HR52) (pos_of (j := (wrap64 ((l1.length : Int) + 1))) (by first | assumption | decide) (by first | assumption | omega))
   refine st (.pointer (some (ad80.add ((wrap64 ((l1.length : Int) + 1) : Int).toNat * 1)))) rfl rfl (xr_indexAddr _ _ _ rfl rfl rfl (index_at Try.underlying23 info5 hA81 (by first | assumption | decide | omega) (by first | assumption | decide | omega))) ?_
   refine on_guard (guard_on 14 true 25 rfl rfl rfl) ?_
   refine st (.int .u8 (rd y48 (wrap64 ((l1.length : Int) + 1)))) rfl rfl (xr_load _ _ rfl rfl (load_int Try.underlying5 rfl hA81 (Ft.now HR52) (by first | assumption | decide | omega) (by first | assumption | decide | omega))) ?_
   refine on_guard (guard_on 14 true 25 rfl rfl rfl) ?_
   refine st (.bool (decide ((rd y48 (wrap64 ((l1.length : Int) + 1))) = 78))) rfl rfl (xr_bin _ _ _ rfl rfl rfl (B.eql_u8 _ _)) ?_
   simp only [ls0, ls1]
   refine st (.bool (decide ((rd y48 (wrap64 ((l1.length : Int) + 1))) = 78))) rfl rfl (xr_pick true _ rfl rfl rfl) ?_
   refine mv_ rfl ?_
   by_cases c82 : (rd y48 (wrap64 ((l1.length : Int) + 1))) = 78
   ·rw [if_pos c82] at H
    (try rw [(decide_eq_true c82)])
    refine on_guard (guard_on 23 true 34 rfl rfl rfl) ?_
    refine mv_ rfl ?_
    refine on_guard (guard_on 23 true 34 rfl rfl rfl) ?_
    refine mv_ rfl ?_
    simp only [ls0, ls1]
    refine on_guard (guard_on 23 true 34 rfl rfl rfl) ?_
    refine st (.int .i64 (l1.length : Int)) rfl rfl (xr_builtin #[.slice A1 l1.length c1] (.int .i64 (l1.length : Int)) rfl (mp_ rfl) (by first | rfl | (go_simp; done) | (go_simp; rfl) | (go_simp; exact i64_w _) | (go_simp; exact i32_w _))) ?_
    refine on_guard (guard_on 23 true 34 rfl rfl rfl) ?_
    refine st (.int .i64 (wrap64 ((l1.length : Int) + 2))) rfl rfl (xr_bin _ _ _ rfl rfl rfl (B.add_i64 _ _)) ?_
    refine on_guard (guard_on 23 true 34 rfl rfl rfl) ?_
    obtain ⟨c83, H⟩ := if_some H
    obtain ⟨c84, H⟩ := if_some H
    obtain ⟨ad85, hA86⟩ := c_addr (Ft.now HR52) (pos_of (j := (wrap64 ((l1.length : Int) + 2))) (by first | assumption | decide) (by first | assumption | omega))
    refine st (.pointer (some (ad85.add ((wrap64 ((l1.length : Int) + 2) : Int).toNat * 1)))) rfl rfl (xr_indexAddr _ _ _ rfl rfl rfl (index_at Try.underlying23 info5 hA86 (by first | assumption | decide | omega) (by first | assumption | decide | omega))) ?_
    refine on_guard (guard_on 23 true 34 rfl rfl rfl) ?_
    refine st (.int .u8 (rd y48 (wrap64 ((l1.length : Int) + 2)))) rfl rfl (xr_load _ _ rfl rfl (load_int Try.underlying5 rfl hA86 (Ft.now HR52) (by first | assumption | decide | omega) (by first | assumption | decide | omega))) ?_
    simp only [ls0, ls1]
    refine on_guard (guard_on 23 true 34 rfl rfl rfl) ?_
    refine st (.bool (decide ((rd y48 (wrap64 ((l1.length : Int) + 2))) = 79))) rfl rfl (xr_bin _ _ _ rfl rfl rfl (B.eql_u8 _ _)) ?_
    refine st (.bool (decide ((rd y48 (wrap64 ((l1.length : Int) + 2))) = 79))) rfl rfl (xr_pick true _ rfl rfl rfl) ?_
    refine as_ rfl ?_
    refine wl_end ?_
    (try simp only [ls0, ls1])
    refine hK56 _ _ ?_
    (try clear hK56 K56)
    refine wp_ret ?_
    (try simp only [Exit.inBlock, Exit.then, Exit.noGoto])
    (try simp only [ls0, ls1])
    obtain rfl := Option.some.inj H
    refine bodyPost_ret (results_tmp rfl _ _ _) rfl ?_
    exact ⟨_, rfl, HS⟩
   rw [if_neg c82] at H
   (try rw [(decide_eq_false c82)])
   refine sk_guard (guard_off 23 true 34 rfl rfl false (by decide) rfl) rfl ?_
   refine sk_guard (guard_off 23 true 34 rfl rfl false (by decide) rfl) rfl ?_
   refine sk_guard (guard_off 23 true 34 rfl rfl false (by decide) rfl) rfl ?_
   refine sk_guard (guard_off 23 true 34 rfl rfl false (by decide) rfl) rfl ?_
   simp only [ls0, ls1]
   refine sk_guard (guard_off 23 true 34 rfl rfl false (by decide) rfl) rfl ?_
   refine sk_guard (guard_off 23 true 34 rfl rfl false (by decide) rfl) rfl ?_
   refine sk_guard (guard_off 23 true 34 rfl rfl false (by decide) rfl) rfl ?_
   refine st (.bool false) rfl rfl (xr_pick false _ rfl rfl rfl) ?_
   simp only [ls0, ls1]
   refine as_ rfl ?_
   refine wl_end ?_
   (try simp only [ls0, ls1])
   refine hK56 _ _ ?_
   (try clear hK56 K56)
   refine wp_ret ?_
   (try simp only [Exit.inBlock, Exit.then, Exit.noGoto])
   (try simp only [ls0, ls1])
   obtain rfl := Option.some.inj H
   refine bodyPost_ret (results_tmp rfl _ _ _) rfl ?_
   exact ⟨_, rfl, HS⟩
  rw [if_neg c77] at H
  (try rw [(decide_eq_false c77)])
  refine sk_guard (guard_off 14 true 25 rfl rfl false (by decide) rfl) rfl ?_
  refine sk_guard (guard_off 14 true 25 rfl rfl false (by decide) rfl) rfl ?_
  refine sk_guard (guard_off 14 true 25 rfl rfl false (by decide) rfl) rfl ?_
  refine sk_guard (guard_off 14 true 25 rfl rfl false (by decide) rfl) rfl ?_
  simp only [ls0, ls1]
  refine sk_guard (guard_off 14 true 25 rfl rfl false (by decide) rfl) rfl ?_
  refine sk_guard (guard_off 14 true 25 rfl rfl false (by decide) rfl) rfl ?_
  refine sk_guard (guard_off 14 true 25 rfl rfl false (by decide) rfl) rfl ?_
  refine st (.bool false) rfl rfl (xr_pick false _ rfl rfl rfl) ?_
  simp only [ls0, ls1]
  refine mv_ rfl ?_
  refine sk_guard (guard_off 23 true 34 rfl rfl false (by decide) rfl) rfl ?_
  refine sk_guard (guard_off 23 true 34 rfl rfl false (by decide) rfl) rfl ?_
  refine sk_guard (guard_off 23 true 34 rfl rfl false (by decide) rfl) rfl ?_
  simp only [ls0, ls1]
  refine sk_guard (guard_off 23 true 34 rfl rfl false (by decide) rfl) rfl ?_
  refine sk_guard (guard_off 23 true 34 rfl rfl false (by decide) rfl) rfl ?_
  refine sk_guard (guard_off 23 true 34 rfl rfl false (by decide) rfl) rfl ?_
  refine sk_guard (guard_off 23 true 34 rfl rfl false (by decide) rfl) rfl ?_
  simp only [ls0, ls1]
  refine st (.bool false) rfl rfl (xr_pick false _ rfl rfl rfl) ?_
  refine as_ rfl ?_
  refine wl_end ?_
  (try simp only [ls0, ls1])
  refine hK56 _ _ ?_
  (try clear hK56 K56)
  refine wp_ret ?_
  (try simp only [Exit.inBlock, Exit.then, Exit.noGoto])
  (try simp only [ls0, ls1])
  obtain rfl := Option.some.inj H
  refine bodyPost_ret (results_tmp rfl _ _ _) rfl ?_
  exact ⟨_, rfl, HS⟩
 rw [if_neg c73] at H
 (try rw [(Bool.eq_false_iff.mpr c73)])
 refine sk_guard (guard_off 6 true 17 rfl rfl false (by decide) rfl) rfl ?_
 refine sk_guard (guard_off 6 true 17 rfl rfl false (by decide) rfl) rfl ?_
 refine sk_guard (guard_off 6 true 17 rfl rfl false (by decide) rfl) rfl ?_
 refine sk_guard (guard_off 6 true 17 rfl rfl false (by decide) rfl) rfl ?_
 simp only [ls0, ls1]
 refine sk_guard (guard_off 6 true 17 rfl rfl false (by decide) rfl) rfl ?_
 refine sk_guard (guard_off 6 true 17 rfl rfl false (by decide) rfl) rfl ?_
 refine st (.bool false) rfl rfl (xr_pick false _ rfl rfl rfl) ?_
 refine mv_ rfl ?_
 simp only [ls0, ls1]
 refine sk_guard (guard_off 14 true 25 rfl rfl false (by decide) rfl) rfl ?_
 refine sk_guard (guard_off 14 true 25 rfl rfl false (by decide) rfl) rfl ?_
 refine sk_guard (guard_off 14 true 25 rfl rfl false (by decide) rfl) rfl ?_
 refine sk_guard (guard_off 14 true 25 rfl rfl false (by decide) rfl) rfl ?_
 simp only [ls0, ls1]
 refine sk_guard (guard_off 14 true 25 rfl rfl false (by decide) rfl) rfl ?_
 refine sk_guard (guard_off 14 true 25 rfl rfl false (by decide) rfl) rfl ?_
 refine sk_guard (guard_off 14 true 25 rfl rfl false (by decide) rfl) rfl ?_
 refine st (.bool false) rfl rfl (xr_pick false _ rfl rfl rfl) ?_
 simp only [ls0, ls1]
 refine mv_ rfl ?_
 refine sk_guard (guard_off 23 true 34 rfl rfl false (by decide) rfl) rfl ?_
 refine sk_guard (guard_off 23 true 34 rfl rfl false (by decide) rfl) rfl ?_
 refine sk_guard (guard_off 23 true 34 rfl rfl false (by decide) rfl) rfl ?_
 simp only [ls0, ls1]
 refine sk_guard (guard_off 23 true 34 rfl rfl false (by decide) rfl) rfl ?_
 refine sk_guard (guard_off 23 true 34 rfl rfl false (by decide) rfl) rfl ?_
 refine sk_guard (guard_off 23 true 34 rfl rfl false (by decide) rfl) rfl ?_
 refine sk_guard (guard_off 23 true 34 rfl rfl false (by decide) rfl) rfl ?_
 simp only [ls0, ls1]
 refine st (.bool false) rfl rfl (xr_pick false _ rfl rfl rfl) ?_
 refine as_ rfl ?_
 refine wl_end ?_
 (try simp only [ls0, ls1])
 refine hK56 _ _ ?_
 (try clear hK56 K56)
 refine wp_ret ?_
 (try simp only [Exit.inBlock, Exit.then, Exit.noGoto])
 (try simp only [ls0, ls1])
 obtain rfl := Option.some.inj H
 refine bodyPost_ret (results_tmp rfl _ _ _) rfl ?_
 exact ⟨_, rfl, HS⟩

/-! ### blazonref01_Short: function 27 -/
def blazonref01_Short.l0 : Nat → Int → (List Int) → Option (List Int)
  | 0, _, _ => none
  | k + 1, x120, x121 => if x120 > 127 then (if x121.length < 140737488355328 then ((some (x121 ++ [(IntKind.u64.wrap ((Int.tmod x120 128) + 128)) % 256] : List Int)).bind fun y141 => (blazonref01_Short.l0 k (IntKind.u64.wrap (Int.tdiv x120 128)) y141)) else (none)) else (if x121.length < 140737488355328 then ((some (x121 ++ [(x120) % 256] : List Int)).bind fun y152 => (some y152)) else (none))
def blazonref01_Short.f (k : Nat) (a0 : Int) : Option (List Int) := blazonref01_Short.l0 k a0 ([] : List Int)

set_option maxHeartbeats 8000000 in
set_option maxRecDepth 100000 in
theorem blazonref01_Short.calls (k : Nat) (a0 : Int) (r : List Int) (c : Nat → Nat) (w : World) (hc : ∀ k, c k < 10)  (H : blazonref01_Short.f k a0 = some r) :
    Calls Try.prog 27 #[.int .u64 a0] w fun e w' => ∃ (c' : Nat → Nat) (A_r : Option Addr) (c_r : Nat), e = .returned (.slice A_r r.length c_r) ∧ Step c w c' w' [] ∧ Own c' 5 w' (Kd.int .u8) 5 (.slice A_r r.length c_r) r ∧ r.length ≤ c_r := by
 unfold blazonref01_Short.f at H
 have HS := Step.refl c w []
 go_enter Try.func27, Try.ntmps27
 refine wp_seq_k fun K81 hK81 => ?_
 refine wl_region ?_
 refine st (.slice none 0 0) rfl rfl (xr_assign _ rfl rfl) ?_
 refine wl_end ?_
 (try simp only [ls0, ls1])
 refine hK81 _ _ ?_
 (try clear hK81 K81)
 refine wp_seq_k fun K82 hK82 => ?_
 refine wl_region ?_
 refine st (.slice none 0 0) rfl rfl (xr_assign _ rfl rfl) ?_
 refine wl_end ?_
 (try simp only [ls0, ls1])
 refine hK82 _ _ ?_
 (try clear hK82 K82)
 refine wp_seq_k fun K83 hK83 => ?_
 refine wp_block ?_
 (try simp only [ls0, ls1])
 refine wp_looped (looped_fin (fun kq129 a_ w128 => ∃ (C127 : Nat → Nat) (x120 : Int) (A122 : Option Addr) (n123 cp124 : Nat) (x121 : List Int) (g_ : Nat → Value), a_ = ⟨#[.int .u64 x120, (g_ 1), (g_ 2), .slice A122 n123 cp124, (g_ 4), (g_ 5), (g_ 6), (g_ 7), (g_ 8), (g_ 9), (g_ 10), (g_ 11), (g_ 12), (g_ 13), (g_ 14), (g_ 15), (g_ 16), (g_ 17), (g_ 18), (g_ 19)], []⟩ ∧ Step c w C127 w128 [] ∧ kq129 ≤ k ∧ (Own C127 11 w128 (Kd.int .u8) 5 (.slice A122 n123 cp124) x121) ∧ (n123 ≤ cp124) ∧ blazonref01_Short.l0 kq129 x120 x121 = some r) ?step fun hL_ => ?init)
 case init =>
  exact jmpL (fun a_ h_ => hL_ k a_ _ h_) (fun g_ => ⟨_, a0, none, 0, 0, ([] : List Int), g_, rfl, HS, Nat.le_refl _, (Own.nil _ _ _ _ _), (Nat.le_refl 0), H⟩) rfl
 case step =>
  intro kq129 ih132 a133 w128 hr134
  obtain ⟨C127, x120, A122, n123, cp124, x121, g_, rfl, HS130, hk131, HJ126, HC125, H⟩ := hr134
  refine looped_round ?_
  obtain rfl : n123 = x121.length := HJ126.at_.1
  cases kq129 with
  | zero => exact absurd H (by simp [blazonref01_Short.l0])
  | succ k135 =>
   simp only [blazonref01_Short.l0] at H
   refine wp_seq_k fun K136 hK136 => ?_
   refine wp_seq_k fun K137 hK137 => ?_
   refine wl_region ?_
   refine mv_ rfl ?_
   refine st (.bool (decide (x120 > 127))) rfl rfl (xr_bin _ _ _ rfl rfl rfl (B.gtr_u64 _ _)) ?_
   refine wl_end ?_
   (try simp only [ls0, ls1])
   refine hK137 _ _ ?_
   (try clear hK137 K137)
   by_cases c138 : x120 > 127
   ·rw [if_pos c138] at H
    (try rw [(decide_eq_true c138)])
    refine wp_cond_true rfl ?_
    refine wp_skip ?_
    (try simp only [ls0, ls1])
    refine hK136 _ _ ?_
    (try clear hK136 K136)
    refine wp_block ?_
    refine wp_seq_k fun K139 hK139 => ?_
    refine wl_region ?_
    refine mv_ rfl ?_
    refine mv_ rfl ?_
    refine st (.int .u64 (Int.tmod x120 128)) rfl rfl (xr_bin _ _ _ rfl rfl rfl (B.rem_u64 _ _ (by decide))) ?_
    refine st (.int .u64 (IntKind.u64.wrap ((Int.tmod x120 128) + 128))) rfl rfl (xr_bin _ _ _ rfl rfl rfl (B.add_u64 _ _)) ?_
    simp only [ls0, ls1]
    refine st (.int .u8 ((IntKind.u64.wrap ((Int.tmod x120 128) + 128)) % 256)) rfl rfl (xr_conv (.int .u64 (IntKind.u64.wrap ((Int.tmod x120 128) + 128))) _ rfl rfl (by first | rfl | (go_simp; done) | (go_simp; rfl) | (go_simp; exact i64_w _) | (go_simp; exact i32_w _))) ?_
    refine ev_run (w1 := w128.alloc (.cells #[.int .u8 ((IntKind.u64.wrap ((Int.tmod x120 128) + 128)) % 256)] 5)) (.slice (some ⟨w128.heap.size, 0, none⟩) 1 1) rfl rfl (by first | (go_simp; done) | (go_simp; rfl)) ?_
    (try simp only [Act.put, List.setIfInBounds_toArray, ls0, ls1])
    obtain ⟨c140, H⟩ := if_some H
    obtain ⟨y141, A142, H⟩ := bnd H
    refine Own.append (Kd.int .u8) (C := C127) (i := 11) rfl (.tmp 6) (.tmp 11) 23 5 (.int .u8 0) 1 rfl Try.underlying23 info5 rfl (by decide) (by decide) (.slice A122 x121.length cp124) x121 ((IntKind.u64.wrap ((Int.tmod x120 128) + 128)) % 256) [.int .u8 ((IntKind.u64.wrap ((Int.tmod x120 128) + 128)) % 256)] rfl rfl (fk_int .u8 _ _ ((IntKind.u64.wrap ((Int.tmod x120 128) + 128)) % 256)) HJ126 (by decide) (by omega) (Option.some.inj A142) ?_
    intro A143 cp144 w145 C146 HO147 HC148 hs149
    replace HS130 := HS130.trans hs149 hc rfl
    (try simp only [ls0, ls1])
    refine as_ rfl ?_
    refine wl_end ?_
    (try simp only [ls0, ls1])
    refine hK139 _ _ ?_
    (try clear hK139 K139)
    refine wl_region ?_
    refine mv_ rfl ?_
    refine st (.int .u64 (IntKind.u64.wrap (Int.tdiv x120 128))) rfl rfl (xr_bin _ _ _ rfl rfl rfl (B.quo_u64 _ _ (by decide))) ?_
    refine as_ rfl ?_
    refine wl_end ?_
    (try simp only [ls0, ls1])
    exact jmpL (fun a_ h_ => ih132 k135 (by omega) a_ _ h_) (fun g_ => ⟨_, IntKind.u64.wrap (Int.tdiv x120 128), A143, y141.length, cp144, y141, g_, rfl, HS130, (by omega), HO147, HC148, H⟩) rfl
   rw [if_neg c138] at H
   (try rw [(decide_eq_false c138)])
   refine wp_cond_false rfl ?_
   refine wp_exit ?_
   (try simp only [ls0, ls1])
   refine hK83 _ _ ?_
   (try clear hK83 K83)
   refine wp_seq_k fun K150 hK150 => ?_
   refine wl_region ?_
   refine mv_ rfl ?_
   refine mv_ rfl ?_
   refine st (.int .u8 ((x120) % 256)) rfl rfl (xr_conv (.int .u64 x120) _ rfl rfl (by first | rfl | (go_simp; done) | (go_simp; rfl) | (go_simp; exact i64_w _) | (go_simp; exact i32_w _))) ?_
   refine ev_run (w1 := w128.alloc (.cells #[.int .u8 ((x120) % 256)] 5)) (.slice (some ⟨w128.heap.size, 0, none⟩) 1 1) rfl rfl (by first | (go_simp; done) | (go_simp; rfl)) ?_
   (try simp only [Act.put, List.setIfInBounds_toArray, ls0, ls1])
   obtain ⟨c151, H⟩ := if_some H
   obtain ⟨y152, A153, H⟩ := bnd H
   refine Own.append (Kd.int .u8) (C := C127) (i := 11) rfl (.tmp 15) (.tmp 18) 23 5 (.int .u8 0) 1 rfl Try.underlying23 info5 rfl (by decide) (by decide) (.slice A122 x121.length cp124) x121 ((x120) % 256) [.int .u8 ((x120) % 256)] rfl rfl (fk_int .u8 _ _ ((x120) % 256)) HJ126 (by decide) (by omega) (Option.some.inj A153) ?_
   intro A154 cp155 w156 C157 HO158 HC159 hs160
   replace HS130 := HS130.trans hs160 hc rfl
   (try simp only [ls0, ls1])
   refine as_ rfl ?_
   refine wl_end ?_
   (try simp only [ls0, ls1])
   refine hK150 _ _ ?_
   (try clear hK150 K150)
   refine wp_ret ?_
   (try simp only [Exit.inBlock, Exit.then, Exit.noGoto])
   (try simp only [ls0, ls1])
   replace HO158 := Own.recolor (b := 5) HO158 (by decide)
   replace HS130 := Step.recol (a := 11) (b := 5) HS130 hc (by decide)
   obtain rfl := Option.some.inj H
   refine bodyPost_ret (results_tmp rfl _ _ _) rfl ?_
   exact ⟨_, A154, cp155, rfl, HS130, HO158, HC159⟩

/-! ### num_Put_full: function 16 -/
def num_Put_full.l0 : Nat → (List Int) → Int → Option (List Int)
  | 0, _, _ => none
  | k + 1, x120, x126 => if x126 ≥ 128 then (if x120.length < 140737488355328 then ((some (x120 ++ [Go.bits .or .u8 ((x126) % 256) 128] : List Int)).bind fun y141 => (num_Put_full.l0 k y141 (shr .u64 x126 7))) else (none)) else (if x120.length < 140737488355328 then ((some (x120 ++ [(x126) % 256] : List Int)).bind fun y152 => (some y152)) else (none))
def num_Put_full.f (k : Nat) (l0 : List Int) (a1 : Int) : Option (List Int) := num_Put_full.l0 k l0 a1

set_option maxHeartbeats 8000000 in
set_option maxRecDepth 100000 in
theorem num_Put_full.calls (k : Nat) (A0 : Option Addr) (l0 : List Int) (a1 : Int) (r : List Int) (c : Nat → Nat) (w : World) (hc : ∀ k, c k < 10) (HP0 : Ft c [0] w (fun w_ => (Kd.int .u8).C w_ A0 l0.length l0)) (H : num_Put_full.f k l0 a1 = some r) :
    Calls Try.prog 16 #[.slice A0 l0.length l0.length, .int .u64 a1] w fun e w' => ∃ (c' : Nat → Nat) (A_r : Option Addr) (c_r : Nat), e = .returned (.slice A_r r.length c_r) ∧ Step c w c' w' [] ∧ Ft c' [0] w' (fun w_ => (Kd.int .u8).C w_ A_r r.length r) ∧ r.length ≤ c_r := by
 unfold num_Put_full.f at H
 have HS := Step.refl c w []
 go_enter Try.func16, Try.ntmps16
 have HF0 : OwnG c 11 w .u8 5 (.slice A0 l0.length l0.length) l0 := OwnG.full HP0
 refine wp_seq_k fun K81 hK81 => ?_
 refine wl_region ?_
 refine st (.slice none 0 0) rfl rfl (xr_assign _ rfl rfl) ?_
 refine wl_end ?_
 (try simp only [ls0, ls1])
 refine hK81 _ _ ?_
 (try clear hK81 K81)
 refine wp_seq_k fun K82 hK82 => ?_
 refine wp_block ?_
 (try simp only [ls0, ls1])
 refine wp_looped (looped_fin (fun kq129 a_ w128 => ∃ (C127 : Nat → Nat) (x126 : Int) (A121 : Option Addr) (n122 cp123 : Nat) (x120 : List Int) (g_ : Nat → Value), a_ = ⟨#[.slice A121 n122 cp123, .int .u64 x126, (g_ 2), (g_ 3), (g_ 4), (g_ 5), (g_ 6), (g_ 7), (g_ 8), (g_ 9), (g_ 10), (g_ 11), (g_ 12), (g_ 13), (g_ 14), (g_ 15), (g_ 16), (g_ 17), (g_ 18), (g_ 19)], []⟩ ∧ Step c w C127 w128 [] ∧ kq129 ≤ k ∧ (OwnG C127 12 w128 .u8 5 (.slice A121 n122 cp123) x120) ∧ (n122 ≤ cp123) ∧ num_Put_full.l0 kq129 x120 x126 = some r) ?step fun hL_ => ?init)
 case init =>
  replace HF0 := OwnG.recolor (b := 12) HF0 (by decide)
  replace HS := Step.recol (a := 11) (b := 12) HS hc (by decide)
  exact jmpL (fun a_ h_ => hL_ k a_ _ h_) (fun g_ => ⟨_, a1, A0, l0.length, l0.length, l0, g_, rfl, HS, Nat.le_refl _, HF0, (Nat.le_refl _), H⟩) rfl
 case step =>
  intro kq129 ih132 a133 w128 hr134
  obtain ⟨C127, x126, A121, n122, cp123, x120, g_, rfl, HS130, hk131, HJ125, HC124, H⟩ := hr134
  refine looped_round ?_
  obtain rfl : n122 = x120.length := HJ125.at_.1
  cases kq129 with
  | zero => exact absurd H (by simp [num_Put_full.l0])
  | succ k135 =>
   simp only [num_Put_full.l0] at H
   refine wp_seq_k fun K136 hK136 => ?_
   refine wp_seq_k fun K137 hK137 => ?_
   refine wl_region ?_
   refine mv_ rfl ?_
   refine st (.bool (decide (x126 ≥ 128))) rfl rfl (xr_bin _ _ _ rfl rfl rfl (B.geq_u64 _ _)) ?_
   refine wl_end ?_
   (try simp only [ls0, ls1])
   refine hK137 _ _ ?_
   (try clear hK137 K137)
   by_cases c138 : x126 ≥ 128
   ·rw [if_pos c138] at H
    (try rw [(decide_eq_true c138)])
    refine wp_cond_true rfl ?_
    refine wp_skip ?_
    (try simp only [ls0, ls1])
    refine hK136 _ _ ?_
    (try clear hK136 K136)
    refine wp_block ?_
    refine wp_seq_k fun K139 hK139 => ?_
    refine wl_region ?_
    refine mv_ rfl ?_
    refine mv_ rfl ?_
    refine st (.int .u8 ((x126) % 256)) rfl rfl (xr_conv (.int .u64 x126) _ rfl rfl (by first | rfl | (go_simp; done) | (go_simp; rfl) | (go_simp; exact i64_w _) | (go_simp; exact i32_w _))) ?_
    refine st (.int .u8 (Go.bits .or .u8 ((x126) % 256) 128)) rfl rfl (xr_bin _ _ _ rfl rfl rfl (B.or_u8 _ _)) ?_
    simp only [ls0, ls1]
    refine ev_run (w1 := w128.alloc (.cells #[.int .u8 (Go.bits .or .u8 ((x126) % 256) 128)] 5)) (.slice (some ⟨w128.heap.size, 0, none⟩) 1 1) rfl rfl (by first | (go_simp; done) | (go_simp; rfl)) ?_
    (try simp only [Act.put, List.setIfInBounds_toArray, ls0, ls1])
    obtain ⟨c140, H⟩ := if_some H
    obtain ⟨y141, A142, H⟩ := bnd H
    refine OwnG.append .u8 (C := C127) (i := 12) rfl (.tmp 7) (.tmp 11) 23 5 1 rfl Try.underlying23 info5 (by decide) (.slice A121 x120.length cp123) x120 (Go.bits .or .u8 ((x126) % 256) 128) rfl rfl HJ125 (by decide) (by omega) (Option.some.inj A142) ?_
    intro A143 cp144 w145 C146 HO147 HC148 hs149
    replace HS130 := HS130.trans hs149 hc rfl
    (try simp only [ls0, ls1])
    refine as_ rfl ?_
    refine wl_end ?_
    (try simp only [ls0, ls1])
    refine hK139 _ _ ?_
    (try clear hK139 K139)
    refine wl_region ?_
    refine mv_ rfl ?_
    refine st (.int .u64 (shr .u64 x126 7)) rfl rfl (xr_bin _ _ _ rfl rfl rfl (B.shr_u64_u64 _ _ (by decide))) ?_
    refine as_ rfl ?_
    refine wl_end ?_
    (try simp only [ls0, ls1])
    exact jmpL (fun a_ h_ => ih132 k135 (by omega) a_ _ h_) (fun g_ => ⟨_, shr .u64 x126 7, A143, y141.length, cp144, y141, g_, rfl, HS130, (by omega), HO147, HC148, H⟩) rfl
   rw [if_neg c138] at H
   (try rw [(decide_eq_false c138)])
   refine wp_cond_false rfl ?_
   refine wp_exit ?_
   (try simp only [ls0, ls1])
   refine hK82 _ _ ?_
   (try clear hK82 K82)
   refine wp_seq_k fun K150 hK150 => ?_
   refine wl_region ?_
   refine mv_ rfl ?_
   refine mv_ rfl ?_
   refine st (.int .u8 ((x126) % 256)) rfl rfl (xr_conv (.int .u64 x126) _ rfl rfl (by first | rfl | (go_simp; done) | (go_simp; rfl) | (go_simp; exact i64_w _) | (go_simp; exact i32_w _))) ?_
   refine ev_run (w1 := w128.alloc (.cells #[.int .u8 ((x126) % 256)] 5)) (.slice (some ⟨w128.heap.size, 0, none⟩) 1 1) rfl rfl (by first | (go_simp; done) | (go_simp; rfl)) ?_
   (try simp only [Act.put, List.setIfInBounds_toArray, ls0, ls1])
   obtain ⟨c151, H⟩ := if_some H
   obtain ⟨y152, A153, H⟩ := bnd H
   refine OwnG.append .u8 (C := C127) (i := 12) rfl (.tmp 15) (.tmp 18) 23 5 1 rfl Try.underlying23 info5 (by decide) (.slice A121 x120.length cp123) x120 ((x126) % 256) rfl rfl HJ125 (by decide) (by omega) (Option.some.inj A153) ?_
   intro A154 cp155 w156 C157 HO158 HC159 hs160
   replace HS130 := HS130.trans hs160 hc rfl
   (try simp only [ls0, ls1])
   refine as_ rfl ?_
   refine wl_end ?_
   (try simp only [ls0, ls1])
   refine hK150 _ _ ?_
   (try clear hK150 K150)
   refine wp_ret ?_
   (try simp only [Exit.inBlock, Exit.then, Exit.noGoto])
   (try simp only [ls0, ls1])
   have HR161 := Ft.recolor (a := 12) (b := 0) (HO158.ft) [0] rfl
   replace HS130 := Step.recol (a := 12) (b := 0) HS130 hc (by decide)
   obtain rfl := Option.some.inj H
   refine bodyPost_ret (results_tmp rfl _ _ _) rfl ?_
   exact ⟨_, A154, cp155, rfl, HS130, HR161, HC159⟩

end Go.Proofs.Ytbpagdgbehefkaa.PNsh
