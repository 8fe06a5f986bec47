-- By cprint.py, a program of this work. Lean checks it.
import Derived.Test.YtpfepkkpbampkaaPOrdx0
import Derived.Test.YtpfepkkpbampkaaPOrdx1
import Derived.Test.YtpfepkkpbampkaaPOrdx2
import Derived.Test.YtpfepkkpbampkaaPOrdx3
namespace Go.Proofs.Ytpfepkkpbampkaa.POrd
open Go.RowKit Go.Proofs.YtpfepkkpbampkaaW.PrintWords Go.Proofs.YtpfepkkpbampkaaW.PrintLast Go.Proofs.YtpfepkkpbampkaaW.PrintMore
set_option linter.unusedVariables false
set_option linter.unusedSimpArgs false

/-! ### order_New: function 8 -/
mutual
def order_New.l0 : Nat → (List (S25)) → (List Int) → (List Int) → (List ByteArray) → (List (ByteArray × Int)) → Int → Option ((Option S47) × Int × Int)
  | 0, _, _, _, _, _, _ => none
  | k + 1, l0, t5051, t5052, x4990, x4996, x5149 => if x5149 < (l0.length : Int) then (if 0 ≤ x5149 then (if ((rd_T25 l0 x5149).f1) = (⟨#[]⟩ : ByteArray) then (order_New.l0 k l0 t5051 t5052 x4990 x4996 (wrap64 (x5149 + 1))) else ((order_Order_Most.f (some (⟨x4990, x4996, t5051, t5052⟩ : S47) : Option S47) (mget 0 x4996 ((rd_T25 l0 x5149).f1)) (mget 0 x4996 ((rd_T25 l0 x5149).f0))).bind fun t5193 => (if t5193 = true then (some ((none : Option S47), x5149, 16)) else (order_New.l0 k l0 t5051 t5052 x4990 x4996 (wrap64 (x5149 + 1)))))) else (none)) else (some ((some (⟨x4990, x4996, t5051, t5052⟩ : S47) : Option S47), 0, 0))
def order_New.l1 : Nat → (List (S25)) → Int → (List ByteArray) → (List (ByteArray × Int)) → (List Int) → Option ((Option S47) × Int × Int)
  | 0, _, _, _, _, _ => none
  | k + 1, l0, x4989, x4990, x4996, x4999 => if x4989 < (l0.length : Int) then (if 0 ≤ x4989 then ((order_Order_pair.f k x4990 x4996 x4999 (List.replicate 64 (0 : Int)) ((rd_T25 l0 x4989).f0) ((rd_T25 l0 x4989).f1) ((rd_T25 l0 x4989).f2)).bind fun bt5030 => (if bt5030.1 = 0 then (order_New.l1 k l0 (wrap64 (x4989 + 1)) bt5030.2.1 bt5030.2.2.1 bt5030.2.2.2) else (some ((none : Option S47), x4989, bt5030.1)))) else (none)) else ((order_Order_close.f k x4990 x4996 x4999 (List.replicate 64 (0 : Int))).bind fun bt5051 => (order_New.l0 k l0 bt5051.1 bt5051.2 x4990 x4996 0))
end
def order_New.f (k : Nat) (l0 : List (S25)) : Option ((Option S47) × Int × Int) := order_New.l1 k l0 0 ([] : List ByteArray) ([] : List (ByteArray × Int)) (List.replicate 64 (0 : Int))

set_option maxHeartbeats 2000000 in
set_option maxRecDepth 100000 in
theorem order_New.calls (k : Nat) (A0 : Option Addr) (c0 : Nat) (l0 : List (S25)) (r1 : Option S47) (r2 : Int) (r3 : Int) (c : Nat → Nat) (w : World) (hc : ∀ k, c k < 10) (HP0 : Ft c [0] w (fun w_ => k25.C w_ A0 l0.length l0)) (HCP0 : l0.length ≤ c0) (H : order_New.f k l0 = some (r1, r2, r3)) :
    Calls Try.prog 8 #[.slice A0 l0.length c0] w fun e w' => ∃ (c' : Nat → Nat) (v_r1 : Value), e = .returned (.tuple #[v_r1, .int .i64 r2, .int .i64 r3]) ∧ Step c w c' w' [] ∧ Ft c' [0] w' (fun w_ => (Kd.ptr 47 k47).K w_ r1 [v_r1]) := by
  unfold order_New.f at H
  have HS := Step.refl c w []
  go_enter Try.func8, Try.ntmps8
  refine wp_seq_k fun K4725 hK4725 => ?_
  refine wl_region ?_
  refine st (.pointer none) rfl rfl (xr_assign (.pointer none) rfl rfl) ?_
  simp only [ls0, ls1]
  refine st (.int .i64 0) rfl rfl (xr_assign (.int .i64 0) rfl rfl) ?_
  simp only [ls0, ls1]
  refine st (.int .i64 0) rfl rfl (xr_assign (.int .i64 0) rfl rfl) ?_
  simp only [ls0, ls1]
  refine wl_end ?_
  (try simp only [Act.put, List.setIfInBounds_toArray, ls0, ls1])
  refine hK4725 _ _ ?_
  (try clear hK4725 K4725)
  refine wp_seq_k fun K4726 hK4726 => ?_
  refine wl_region ?_
  refine mp_new (C := c) Value.string (Value.int .i64) 11 rfl rfl rfl ?_
  intro mb4727 w4728 C4729 HM4730 hs4731
  replace HP0 := HP0.thru hs4731 rfl
  replace HS := HS.trans hs4731 hc rfl
  (try simp only [Act.put, List.setIfInBounds_toArray, ls0, ls1])
  refine st (.agg (List.toArray ([.slice none 0 0, .map (some mb4727)] ++ (List.map (Value.int .u64) (List.replicate 64 (0 : Int)) ++ (List.map (Value.int .u64) (List.replicate 64 (0 : Int))))))) rfl rfl (xr_build #[(1, .map (some mb4727))] (.agg (List.toArray ([.slice none 0 0, .map (some mb4727)] ++ (List.map (Value.int .u64) (List.replicate 64 (0 : Int)) ++ (List.map (Value.int .u64) (List.replicate 64 (0 : Int))))))) rfl (by simp only [List.map_toArray, List.map_cons, List.map_nil]; first | done | rfl) (by kernel_rfl)) ?_
  simp only [ls0, ls1]
  refine bx_new (C := C4729) 47 ([.slice none 0 0, .map (some mb4727)] ++ (List.map (Value.int .u64) (List.replicate 64 (0 : Int)) ++ (List.map (Value.int .u64) (List.replicate 64 (0 : Int))))) 12 rfl rfl (by kernel_rfl) ?_
  intro g4732 w4733 C4734 HX4735 hs4736
  replace HP0 := HP0.thru hs4736 rfl
  replace HM4730 := HM4730.thru hs4736 rfl
  replace HS := HS.trans hs4736 hc rfl
  (try simp only [Act.put, List.setIfInBounds_toArray, ls0, ls1])
  refine st (.pointer (some ⟨g4732, 0, none⟩)) rfl rfl (xr_assign (.pointer (some ⟨g4732, 0, none⟩)) rfl rfl) ?_
  simp only [ls0, ls1]
  refine wl_end ?_
  (try simp only [Act.put, List.setIfInBounds_toArray, ls0, ls1])
  refine hK4726 _ _ ?_
  (try clear hK4726 K4726)
  refine wp_seq_k fun K4737 hK4737 => ?_
  refine wp_seq_k fun K4894 hK4894 => ?_
  refine wl_region ?_
  refine st (.slice A0 l0.length c0) rfl rfl (xr_move (.slice A0 l0.length c0) rfl rfl) ?_
  simp only [ls0, ls1]
  refine st (.int .i64 (l0.length : Int)) rfl rfl (xr_builtin #[.slice A0 l0.length c0] (.int .i64 (l0.length : Int)) rfl (by simp only [List.map_toArray, List.map_cons, List.map_nil]; first | done | rfl) (by first | rfl | (go_simp; done) | (go_simp; rfl) | (go_simp; exact i64_w _) | (go_simp; exact i32_w _))) ?_
  simp only [ls0, ls1]
  refine st (.int .i64 0) rfl rfl (xr_move (.int .i64 0) rfl rfl) ?_
  simp only [ls0, ls1]
  refine wl_end ?_
  (try simp only [Act.put, List.setIfInBounds_toArray, ls0, ls1])
  refine hK4894 _ _ ?_
  (try clear hK4894 K4894)
  refine wp_block ?_
  (try simp only [Act.put, List.setIfInBounds_toArray, ls0, ls1])
  refine wp_looped (looped_ind (fun kq5005 a_ w5004 => ∃ (C5003 : Nat → Nat) (x4989 : Int) (x4999 : List Int) (A4991 : Option Addr) (n4992 cp4993 : Nat) (x4990 : List ByteArray) (mb4997 : Nat) (x4996 : List (ByteArray × Int)) (g5002 : Nat → Value), a_ = ⟨#[.slice A0 l0.length c0, (g5002 1), .pointer (some ⟨g4732, 0, none⟩), (g5002 3), (g5002 4), (g5002 5), (g5002 6), (g5002 7), (g5002 8), (g5002 9), (g5002 10), (g5002 11), (g5002 12), .slice A0 l0.length c0, .int .i64 (l0.length : Int), .int .i64 x4989, (g5002 16), (g5002 17), (g5002 18), (g5002 19), (g5002 20), (g5002 21), (g5002 22), (g5002 23), (g5002 24), (g5002 25), (g5002 26), (g5002 27), (g5002 28), (g5002 29), (g5002 30), (g5002 31), (g5002 32), (g5002 33), (g5002 34), (g5002 35), (g5002 36), (g5002 37), (g5002 38), (g5002 39), (g5002 40), (g5002 41), (g5002 42), (g5002 43), (g5002 44), (g5002 45), (g5002 46), (g5002 47), (g5002 48), (g5002 49), (g5002 50), (g5002 51), (g5002 52), (g5002 53), (g5002 54), (g5002 55), (g5002 56), (g5002 57), (g5002 58), (g5002 59), (g5002 60)], []⟩ ∧ Step c w C5003 w5004 [] ∧ kq5005 ≤ k ∧ (Ft C5003 [0] w5004 (fun w_ => k25.C w_ A0 l0.length l0)) ∧ (Own C5003 13 w5004 Kd.string 9 (.slice A4991 n4992 cp4993) x4990) ∧ (n4992 ≤ cp4993) ∧ (Mp Value.string (Value.int .i64) C5003 14 w5004 mb4997 x4996) ∧ (x4999.length = 64) ∧ (Bx C5003 12 w5004 g4732 47 ([.slice A4991 n4992 cp4993, .map (some mb4997)] ++ (List.map (Value.int .u64) x4999 ++ (List.map (Value.int .u64) (List.replicate 64 (0 : Int)))))) ∧ order_New.l1 kq5005 l0 x4989 x4990 x4996 x4999 = some (r1, r2, r3)) ?step k _ _ ?init)
  case init =>
    replace HP0 := Ft.recol (a := 11) (b := 14) HP0 (.inl rfl)
    replace HM4730 := Mp.recolor (y := 14) HM4730
    replace HX4735 := Bx.recol (a := 11) (b := 14) HX4735 (by decide)
    replace HS := Step.recol (a := 11) (b := 14) HS hc (by decide)
    exact ⟨_, 0, (List.replicate 64 (0 : Int)), none, 0, 0, ([] : List ByteArray), mb4727, ([] : List (ByteArray × Int)), (fun q_ => List.getD [undef, undef, undef, .int .i64 0, .int .i64 0, undef, undef, undef, undef, undef, .map (some mb4727), .agg (List.toArray ([.slice none 0 0, .map (some mb4727)] ++ (List.map (Value.int .u64) (List.replicate 64 (0 : Int)) ++ (List.map (Value.int .u64) (List.replicate 64 (0 : Int)))))), .pointer (some ⟨g4732, 0, none⟩), undef, undef, undef, undef, undef, undef, undef, undef, undef, undef, undef, undef, undef, undef, undef, undef, undef, undef, undef, undef, undef, undef, undef, undef, undef, undef, undef, undef, undef, undef, undef, undef, undef, undef, undef, undef, undef, undef, undef, undef, undef, undef, undef, undef, undef, undef, undef, undef] q_ undef), rfl, HS, Nat.le_refl _, HP0, (Own.nil _ _ _ _ _), (Nat.le_refl 0), HM4730, (List.length_replicate), HX4735, H⟩
  case step =>
    intro kq5005 ih5008 a5009 w5004 hr5010
    obtain ⟨C5003, x4989, x4999, A4991, n4992, cp4993, x4990, mb4997, x4996, g5002, rfl, HS5006, hk5007, HJ4988, HJ4995, HC4994, HJ4998, HL5000, HJ5001, H⟩ := hr5010
    refine looped_round ?_
    obtain rfl : n4992 = x4990.length := HJ4995.at_.1
    cases kq5005 with
    | zero => exact absurd H (by simp [order_New.l1])
    | succ k5011 =>
      simp only [order_New.l1] at H
      refine wp_seq_k fun K5012 hK5012 => ?_
      refine wl_region ?_
      refine st (.bool (decide (x4989 < (l0.length : Int)))) rfl rfl (xr_bin (.int .i64 x4989) (.int .i64 (l0.length : Int)) (.bool (decide (x4989 < (l0.length : Int)))) rfl rfl rfl (B.lss_i64 x4989 (l0.length : Int))) ?_
      simp only [ls0, ls1]
      refine wl_end ?_
      (try simp only [Act.put, List.setIfInBounds_toArray, ls0, ls1])
      refine hK5012 _ _ ?_
      (try clear hK5012 K5012)
      refine wp_seq_k fun K5013 hK5013 => ?_
      by_cases c5014 : x4989 < (l0.length : Int)
      · rw [if_pos c5014] at H
        (try rw [(decide_eq_true c5014)])
        (try simp only [Bool.not_true, Bool.not_false])
        refine wp_cond_true rfl ?_
        refine wp_skip ?_
        (try simp only [Act.put, List.setIfInBounds_toArray, ls0, ls1])
        refine hK5013 _ _ ?_
        (try clear hK5013 K5013)
        refine wp_seq_k fun K5015 hK5015 => ?_
        refine wp_block ?_
        refine wp_seq_k fun K5016 hK5016 => ?_
        refine wl_region ?_
        refine st (.int .i64 x4989) rfl rfl (xr_move (.int .i64 x4989) rfl rfl) ?_
        simp only [ls0, ls1]
        by_cases c5017 : 0 ≤ x4989
        · rw [if_pos c5017] at H
          obtain ⟨ad5018, hA5019⟩ := c_addr (Ft.now HJ4988) (pos_of (j := x4989) (by first | assumption | decide) (by first | assumption | omega))
          refine st (.pointer (some (ad5018.add ((x4989 : Int).toNat * 3)))) rfl rfl (xr_indexAddr (.slice A0 l0.length c0) (.int .i64 x4989) (.pointer (some (ad5018.add ((x4989 : Int).toNat * 3)))) rfl rfl rfl (index_at Try.underlying22 info25 hA5019 (by first | assumption | decide | omega) (by first | assumption | decide | omega))) ?_
          simp only [ls0, ls1]
          refine st (.agg #[.string ((rd_T25 l0 x4989).f0), .string ((rd_T25 l0 x4989).f1), .int .i64 ((rd_T25 l0 x4989).f2)]) rfl rfl (xr_load (.pointer (some (ad5018.add ((x4989 : Int).toNat * 3)))) (.agg #[.string ((rd_T25 l0 x4989).f0), .string ((rd_T25 l0 x4989).f1), .int .i64 ((rd_T25 l0 x4989).f2)]) rfl rfl (by obtain ⟨ad_, cs_, e_, _, hK_, hc_⟩ := Kd.C_get (Ft.now HJ4988) z25 x4989 (by first | assumption | decide | omega) (by first | assumption | decide | omega); rw [hA5019] at e_; injection e_ with e_; subst e_; obtain rfl := k25_open hK_; exact load_agg (cs := [.string ((rd_T25 l0 x4989).f0), .string ((rd_T25 l0 x4989).f1), .int .i64 ((rd_T25 l0 x4989).f2)]) Try.underlying25 rfl (by kernel_rfl) (fun j_ u_ hu_ => by first | (rw [add_add]; exact hc_ _ _ hu_) | exact add_cells hc_ hu_))) ?_
          simp only [ls0, ls1]
          refine bx_new (C := C5003) 25 ([.string (⟨#[]⟩ : ByteArray), .string (⟨#[]⟩ : ByteArray), .int .i64 0]) 15 rfl rfl (by first | (go_simp; done) | (go_simp; rfl)) ?_
          intro g5021 w5022 C5023 HX5024 hs5025
          replace HJ4988 := HJ4988.thru hs5025 rfl
          replace HJ5001 := HJ5001.thru hs5025 rfl
          replace HJ4995 := HJ4995.thru hs5025 rfl
          replace HJ4998 := HJ4998.thru hs5025 rfl
          replace HS5006 := HS5006.trans hs5025 hc rfl
          (try simp only [Act.put, List.setIfInBounds_toArray, ls0, ls1])
          refine st (.int .i64 x4989) rfl rfl (xr_assign (.int .i64 x4989) rfl rfl) ?_
          simp only [ls0, ls1]
          refine bx_store (C := C5023) (z := 15) (g := g5021) (j := 0) (tb := 25) (u := .agg #[.string ((rd_T25 l0 x4989).f0), .string ((rd_T25 l0 x4989).f1), .int .i64 ((rd_T25 l0 x4989).f2)]) (seg := [.string ((rd_T25 l0 x4989).f0), .string ((rd_T25 l0 x4989).f1), .int .i64 ((rd_T25 l0 x4989).f2)]) (xs := [.string (⟨#[]⟩ : ByteArray), .string (⟨#[]⟩ : ByteArray), .int .i64 0]) rfl rfl rfl rfl rfl rfl (by first | kernel_rfl | rfl) (by simp [Value.oneCell']) HX5024 (by simp only [List.length_cons, List.length_nil]; omega) rfl ?_
          intro w5026 HX5027 hs5028
          replace HJ4988 := HJ4988.thru hs5028 rfl
          replace HJ5001 := HJ5001.thru hs5028 rfl
          replace HJ4995 := HJ4995.thru hs5028 rfl
          replace HJ4998 := HJ4998.thru hs5028 rfl
          replace HS5006 := HS5006.trans hs5028 hc rfl
          (try simp only [Act.put, List.setIfInBounds_toArray, ls0, ls1])
          refine wl_end ?_
          (try simp only [Act.put, List.setIfInBounds_toArray, ls0, ls1])
          refine hK5016 _ _ ?_
          (try clear hK5016 K5016)
          refine wp_seq_k fun K5029 hK5029 => ?_
          refine wl_region ?_
          refine st (.pointer (some ⟨g4732, 0, none⟩)) rfl rfl (xr_move (.pointer (some ⟨g4732, 0, none⟩)) rfl rfl) ?_
          simp only [ls0, ls1]
          refine st (.agg #[.string ((rd_T25 l0 x4989).f0), .string ((rd_T25 l0 x4989).f1), .int .i64 ((rd_T25 l0 x4989).f2)]) rfl rfl (xr_load (.pointer (some ⟨g5021, 0, none⟩)) (.agg #[.string ((rd_T25 l0 x4989).f0), .string ((rd_T25 l0 x4989).f1), .int .i64 ((rd_T25 l0 x4989).f2)]) rfl rfl (load_agg (cs := [.string ((rd_T25 l0 x4989).f0), .string ((rd_T25 l0 x4989).f1), .int .i64 ((rd_T25 l0 x4989).f2)]) Try.underlying25 rfl (by kernel_rfl) (bx_cells (l := ([.string ((rd_T25 l0 x4989).f0), .string ((rd_T25 l0 x4989).f1), .int .i64 ((rd_T25 l0 x4989).f2)])) (HX5027).2 0 rfl))) ?_
          simp only [ls0, ls1]
          obtain ⟨⟨t5030, t5031, t5032, t5033⟩, A5034, H⟩ := Option.bind_eq_some_iff.mp H
          (try dsimp only at H)
          refine st_call #[.pointer (some ⟨g4732, 0, none⟩), .agg #[.string ((rd_T25 l0 x4989).f0), .string ((rd_T25 l0 x4989).f1), .int .i64 ((rd_T25 l0 x4989).f2)]] rfl rfl Try.func18 (by kernel_rfl) rfl rfl (by simp only [List.map_toArray, List.map_cons, List.map_nil]; first | done | rfl) ?_
          refine (order_Order_pair.calls k5011 g4732 A4991 cp4993 x4990 mb4997 x4996 x4999 (List.replicate 64 (0 : Int)) ((rd_T25 l0 x4989).f0) ((rd_T25 l0 x4989).f1) ((rd_T25 l0 x4989).f2) t5030 t5031 t5032 t5033  (fun z_ => pal [(0, 0), (12, 1), (13, 2), (14, 3)] (C5023 z_)) w5026 (fun _ => pal_lt rfl _) (Bx.arg HJ5001 rfl) (Own.arg HJ4995 rfl rfl) HC4994 (Mp.arg HJ4998 rfl) HL5000 (List.length_replicate) A5034).mono ?_
          rintro _ w5036 ⟨C5037, A5039, cp5040, mb5043, rfl, hs5038, HO5041, HC5042, HM5044, HL5045, HX5046⟩
          refine ⟨_, rfl, ?_⟩
          replace HO5041 := Own.res (U := [(0, 0), (1, 12), (2, 13), (3, 14)]) (j := 13) HO5041 hs5038 (by rfl) (by decide) rfl rfl
          replace HM5044 := Mp.res (U := [(0, 0), (1, 12), (2, 13), (3, 14)]) (j := 14) HM5044 hs5038 (by rfl) (by decide) rfl
          replace HX5046 := Bx.res (U := [(0, 0), (1, 12), (2, 13), (3, 14)]) (j := 12) HX5046 hs5038 (by rfl) (by decide) rfl
          replace hs5038 := Step.lift (U := [(0, 0), (1, 12), (2, 13), (3, 14)]) hs5038 [12, 13, 14] rfl rfl
          generalize up C5023 C5037 w5026.heap.size [(0, 0), (1, 12), (2, 13), (3, 14)] = C5037_ at HO5041 HM5044 HX5046 hs5038
          replace HJ4988 := HJ4988.thru hs5038 rfl
          replace HX5027 := HX5027.thru hs5038 rfl
          replace HS5006 := HS5006.trans hs5038 hc rfl
          (try simp only [Act.put, List.setIfInBounds_toArray, ls0, ls1])
          refine st (.int .i64 t5030) rfl rfl (xr_assign (.int .i64 t5030) rfl rfl) ?_
          simp only [ls0, ls1]
          refine wl_end ?_
          (try simp only [Act.put, List.setIfInBounds_toArray, ls0, ls1])
          refine hK5029 _ _ ?_
          (try clear hK5029 K5029)
          refine wp_seq_k fun K5047 hK5047 => ?_
          refine wl_region ?_
          refine st (.int .i64 t5030) rfl rfl (xr_move (.int .i64 t5030) rfl rfl) ?_
          simp only [ls0, ls1]
          refine st (.bool (!decide (t5030 = 0))) rfl rfl (xr_bin (.int .i64 t5030) (.int .i64 0) (.bool (!decide (t5030 = 0))) rfl rfl rfl (B.neq_i64 t5030 0)) ?_
          simp only [ls0, ls1]
          refine wl_end ?_
          (try simp only [Act.put, List.setIfInBounds_toArray, ls0, ls1])
          refine hK5047 _ _ ?_
          (try clear hK5047 K5047)
          by_cases c5048 : t5030 = 0
          · rw [if_pos c5048] at H
            (try rw [(decide_eq_true c5048)])
            (try simp only [Bool.not_true, Bool.not_false])
            refine wp_cond_false rfl ?_
            refine wp_skip ?_
            (try simp only [Act.put, List.setIfInBounds_toArray, ls0, ls1])
            refine hK5015 _ _ ?_
            (try clear hK5015 K5015)
            refine wl_region ?_
            refine st (.int .i64 (wrap64 (x4989 + 1))) rfl rfl (xr_bin (.int .i64 x4989) (.int .i64 1) (.int .i64 (wrap64 (x4989 + 1))) rfl rfl rfl (B.add_i64 x4989 1)) ?_
            simp only [ls0, ls1]
            refine st (.int .i64 (wrap64 (x4989 + 1))) rfl rfl (xr_move (.int .i64 (wrap64 (x4989 + 1))) rfl rfl) ?_
            simp only [ls0, ls1]
            refine wl_end ?_
            (try simp only [Act.put, List.setIfInBounds_toArray, ls0, ls1])
            exact ih5008 k5011 (by omega) _ _ ⟨_, wrap64 (x4989 + 1), t5033, A5039, t5031.length, cp5040, t5031, mb5043, t5032, (fun q_ => List.getD [undef, (g5002 1), undef, (g5002 3), (g5002 4), .int .i64 x4989, .pointer (some ⟨g5021, 0, none⟩), .int .i64 t5030, (g5002 8), (g5002 9), (g5002 10), (g5002 11), (g5002 12), undef, undef, undef, .bool true, .int .i64 x4989, .pointer (some (ad5018.add ((x4989 : Int).toNat * 3))), .agg #[.string ((rd_T25 l0 x4989).f0), .string ((rd_T25 l0 x4989).f1), .int .i64 ((rd_T25 l0 x4989).f2)], .pointer (some ⟨g4732, 0, none⟩), .agg #[.string ((rd_T25 l0 x4989).f0), .string ((rd_T25 l0 x4989).f1), .int .i64 ((rd_T25 l0 x4989).f2)], .int .i64 t5030, .int .i64 t5030, .bool false, (g5002 25), (g5002 26), .int .i64 (wrap64 (x4989 + 1)), (g5002 28), (g5002 29), (g5002 30), (g5002 31), (g5002 32), (g5002 33), (g5002 34), (g5002 35), (g5002 36), (g5002 37), (g5002 38), (g5002 39), (g5002 40), (g5002 41), (g5002 42), (g5002 43), (g5002 44), (g5002 45), (g5002 46), (g5002 47), (g5002 48), (g5002 49), (g5002 50), (g5002 51), (g5002 52), (g5002 53), (g5002 54), (g5002 55), (g5002 56), (g5002 57), (g5002 58), (g5002 59), (g5002 60)] q_ undef), rfl, HS5006, (by omega), HJ4988, HO5041, HC5042, HM5044, HL5045, HX5046, H⟩
          · rw [if_neg c5048] at H
            (try rw [(decide_eq_false c5048)])
            (try simp only [Bool.not_true, Bool.not_false])
            refine wp_cond_true rfl ?_
            refine wp_seq_k fun K5049 hK5049 => ?_
            refine wl_region ?_
            refine st (.int .i64 x4989) rfl rfl (xr_move (.int .i64 x4989) rfl rfl) ?_
            simp only [ls0, ls1]
            refine st (.int .i64 t5030) rfl rfl (xr_move (.int .i64 t5030) rfl rfl) ?_
            simp only [ls0, ls1]
            refine st (.pointer none) rfl rfl (xr_assign (.pointer none) rfl rfl) ?_
            simp only [ls0, ls1]
            refine st (.int .i64 x4989) rfl rfl (xr_assign (.int .i64 x4989) rfl rfl) ?_
            simp only [ls0, ls1]
            refine st (.int .i64 t5030) rfl rfl (xr_assign (.int .i64 t5030) rfl rfl) ?_
            simp only [ls0, ls1]
            refine wl_end ?_
            (try simp only [Act.put, List.setIfInBounds_toArray, ls0, ls1])
            refine hK5049 _ _ ?_
            (try clear hK5049 K5049)
            refine wp_ret ?_
            (try simp only [Exit.inBlock, Exit.then, Exit.noGoto])
            (try simp only [Act.put, List.setIfInBounds_toArray, ls0, ls1])
            simp only [Option.some.injEq, Prod.mk.injEq] at H
            obtain ⟨rfl, rfl, rfl⟩ := H
            refine bodyPost_ret (results_tmp3 rfl _ _ _) rfl ?_
            exact ⟨_, (.pointer none), rfl, HS5006, (ptr_nil _ _ _ _ _)⟩
        · rw [if_neg c5017] at H
          exact absurd H (by simp)
      · rw [if_neg c5014] at H
        (try rw [(decide_eq_false c5014)])
        (try simp only [Bool.not_true, Bool.not_false])
        refine wp_cond_false rfl ?_
        refine wp_exit ?_
        (try simp only [Act.put, List.setIfInBounds_toArray, ls0, ls1])
        refine hK4737 _ _ ?_
        (try clear hK4737 K4737)
        refine wp_seq_k fun K5050 hK5050 => ?_
        refine wl_region ?_
        refine st (.pointer (some ⟨g4732, 0, none⟩)) rfl rfl (xr_move (.pointer (some ⟨g4732, 0, none⟩)) rfl rfl) ?_
        simp only [ls0, ls1]
        obtain ⟨⟨t5051, t5052⟩, A5053, H⟩ := Option.bind_eq_some_iff.mp H
        (try dsimp only at H)
        refine st_call #[.pointer (some ⟨g4732, 0, none⟩)] rfl rfl Try.func19 (by kernel_rfl) rfl rfl (by simp only [List.map_toArray, List.map_cons, List.map_nil]; first | done | rfl) ?_
        refine (order_Order_close.calls k5011 g4732 A4991 cp4993 x4990 (.map (some mb4997)) x4996 x4999 (List.replicate 64 (0 : Int)) t5051 t5052  (fun z_ => pal [(0, 0), (12, 1), (13, 0), (14, 0)] (C5003 z_)) w5004 (fun _ => pal_lt rfl _) (Bx.arg HJ5001 rfl) (Ft.arg (HJ4995.ft) rfl) HC4994 (Ft.arg (HJ4998.ft) rfl) HL5000 (List.length_replicate) A5053).mono ?_
        rintro _ w5055 ⟨C5056, rfl, hs5057, HL5058, HL5059, HX5060⟩
        refine ⟨_, rfl, ?_⟩
        replace HX5060 := Bx.res (U := [(0, 0), (1, 12)]) (j := 12) HX5060 hs5057 (by rfl) (by decide) rfl
        replace hs5057 := Step.lift (U := [(0, 0), (1, 12)]) hs5057 [12] rfl rfl
        generalize up C5003 C5056 w5004.heap.size [(0, 0), (1, 12)] = C5056_ at HX5060 hs5057
        replace HJ4988 := HJ4988.thru hs5057 rfl
        replace HJ4995 := HJ4995.thru hs5057 rfl
        replace HJ4998 := HJ4998.thru hs5057 rfl
        replace HS5006 := HS5006.trans hs5057 hc rfl
        (try simp only [Act.put, List.setIfInBounds_toArray, ls0, ls1])
        refine wl_end ?_
        (try simp only [Act.put, List.setIfInBounds_toArray, ls0, ls1])
        refine hK5050 _ _ ?_
        (try clear hK5050 K5050)
        refine wp_seq_k fun K5061 hK5061 => ?_
        refine wp_seq_k fun K5062 hK5062 => ?_
        refine wl_region ?_
        refine st (.slice A0 l0.length c0) rfl rfl (xr_move (.slice A0 l0.length c0) rfl rfl) ?_
        simp only [ls0, ls1]
        refine st (.int .i64 (l0.length : Int)) rfl rfl (xr_builtin #[.slice A0 l0.length c0] (.int .i64 (l0.length : Int)) rfl (by simp only [List.map_toArray, List.map_cons, List.map_nil]; first | done | rfl) (by first | rfl | (go_simp; done) | (go_simp; rfl) | (go_simp; exact i64_w _) | (go_simp; exact i32_w _))) ?_
        simp only [ls0, ls1]
        refine st (.int .i64 0) rfl rfl (xr_move (.int .i64 0) rfl rfl) ?_
        simp only [ls0, ls1]
        refine wl_end ?_
        (try simp only [Act.put, List.setIfInBounds_toArray, ls0, ls1])
        refine hK5062 _ _ ?_
        (try clear hK5062 K5062)
        refine wp_block ?_
        (try simp only [Act.put, List.setIfInBounds_toArray, ls0, ls1])
        refine wp_looped (looped_ind (fun kq5156 a_ w5155 => ∃ (C5154 : Nat → Nat) (x5149 : Int) (g5153 : Nat → Value), a_ = ⟨#[(g5153 0), (g5153 1), .pointer (some ⟨g4732, 0, none⟩), (g5153 3), (g5153 4), (g5153 5), (g5153 6), (g5153 7), (g5153 8), (g5153 9), (g5153 10), (g5153 11), (g5153 12), (g5153 13), (g5153 14), (g5153 15), (g5153 16), (g5153 17), (g5153 18), (g5153 19), (g5153 20), (g5153 21), (g5153 22), (g5153 23), (g5153 24), (g5153 25), (g5153 26), (g5153 27), (g5153 28), (g5153 29), .slice A0 l0.length c0, .int .i64 (l0.length : Int), .int .i64 x5149, (g5153 33), (g5153 34), (g5153 35), (g5153 36), (g5153 37), (g5153 38), (g5153 39), (g5153 40), (g5153 41), (g5153 42), (g5153 43), (g5153 44), (g5153 45), (g5153 46), (g5153 47), (g5153 48), (g5153 49), (g5153 50), (g5153 51), (g5153 52), (g5153 53), (g5153 54), (g5153 55), (g5153 56), (g5153 57), (g5153 58), (g5153 59), (g5153 60)], []⟩ ∧ Step c w C5154 w5155 [] ∧ kq5156 ≤ k5011 ∧ (Ft C5154 [0] w5155 (fun w_ => k25.C w_ A0 l0.length l0)) ∧ (Own C5154 13 w5155 Kd.string 9 (.slice A4991 x4990.length cp4993) x4990) ∧ (Mp Value.string (Value.int .i64) C5154 14 w5155 mb4997 x4996) ∧ (Bx C5154 12 w5155 g4732 47 ([.slice A4991 x4990.length cp4993, .map (some mb4997)] ++ (List.map (Value.int .u64) t5051 ++ (List.map (Value.int .u64) t5052)))) ∧ order_New.l0 kq5156 l0 t5051 t5052 x4990 x4996 x5149 = some (r1, r2, r3)) ?step k5011 _ _ ?init)
        case init =>
          exact ⟨_, 0, (fun q_ => List.getD [.slice A0 l0.length c0, (g5002 1), undef, (g5002 3), (g5002 4), (g5002 5), (g5002 6), (g5002 7), (g5002 8), (g5002 9), (g5002 10), (g5002 11), (g5002 12), .slice A0 l0.length c0, .int .i64 (l0.length : Int), .int .i64 x4989, .bool false, (g5002 17), (g5002 18), (g5002 19), (g5002 20), (g5002 21), (g5002 22), (g5002 23), (g5002 24), (g5002 25), (g5002 26), (g5002 27), .pointer (some ⟨g4732, 0, none⟩), .tuple #[], undef, undef, undef, (g5002 33), (g5002 34), (g5002 35), (g5002 36), (g5002 37), (g5002 38), (g5002 39), (g5002 40), (g5002 41), (g5002 42), (g5002 43), (g5002 44), (g5002 45), (g5002 46), (g5002 47), (g5002 48), (g5002 49), (g5002 50), (g5002 51), (g5002 52), (g5002 53), (g5002 54), (g5002 55), (g5002 56), (g5002 57), (g5002 58), (g5002 59), (g5002 60)] q_ undef), rfl, HS5006, Nat.le_refl _, HJ4988, HJ4995, HJ4998, HX5060, H⟩
        case step =>
          intro kq5156 ih5159 a5160 w5155 hr5161
          obtain ⟨C5154, x5149, g5153, rfl, HS5157, hk5158, HJ5148, HJ5150, HJ5151, HJ5152, H⟩ := hr5161
          refine looped_round ?_
          cases kq5156 with
          | zero => exact absurd H (by simp [order_New.l0])
          | succ k5162 =>
            simp only [order_New.l0] at H
            refine wp_seq_k fun K5163 hK5163 => ?_
            refine wl_region ?_
            refine st (.bool (decide (x5149 < (l0.length : Int)))) rfl rfl (xr_bin (.int .i64 x5149) (.int .i64 (l0.length : Int)) (.bool (decide (x5149 < (l0.length : Int)))) rfl rfl rfl (B.lss_i64 x5149 (l0.length : Int))) ?_
            simp only [ls0, ls1]
            refine wl_end ?_
            (try simp only [Act.put, List.setIfInBounds_toArray, ls0, ls1])
            refine hK5163 _ _ ?_
            (try clear hK5163 K5163)
            refine wp_seq_k fun K5164 hK5164 => ?_
            by_cases c5165 : x5149 < (l0.length : Int)
            · rw [if_pos c5165] at H
              (try rw [(decide_eq_true c5165)])
              (try simp only [Bool.not_true, Bool.not_false])
              refine wp_cond_true rfl ?_
              refine wp_skip ?_
              (try simp only [Act.put, List.setIfInBounds_toArray, ls0, ls1])
              refine hK5164 _ _ ?_
              (try clear hK5164 K5164)
              refine wp_seq_k fun K5166 hK5166 => ?_
              refine wp_block ?_
              refine wp_seq_k fun K5167 hK5167 => ?_
              refine wl_region ?_
              refine st (.int .i64 x5149) rfl rfl (xr_move (.int .i64 x5149) rfl rfl) ?_
              simp only [ls0, ls1]
              by_cases c5168 : 0 ≤ x5149
              · rw [if_pos c5168] at H
                obtain ⟨ad5169, hA5170⟩ := c_addr (Ft.now HJ5148) (pos_of (j := x5149) (by first | assumption | decide) (by first | assumption | omega))
                refine st (.pointer (some (ad5169.add ((x5149 : Int).toNat * 3)))) rfl rfl (xr_indexAddr (.slice A0 l0.length c0) (.int .i64 x5149) (.pointer (some (ad5169.add ((x5149 : Int).toNat * 3)))) rfl rfl rfl (index_at Try.underlying22 info25 hA5170 (by first | assumption | decide | omega) (by first | assumption | decide | omega))) ?_
                simp only [ls0, ls1]
                refine st (.agg #[.string ((rd_T25 l0 x5149).f0), .string ((rd_T25 l0 x5149).f1), .int .i64 ((rd_T25 l0 x5149).f2)]) rfl rfl (xr_load (.pointer (some (ad5169.add ((x5149 : Int).toNat * 3)))) (.agg #[.string ((rd_T25 l0 x5149).f0), .string ((rd_T25 l0 x5149).f1), .int .i64 ((rd_T25 l0 x5149).f2)]) rfl rfl (by obtain ⟨ad_, cs_, e_, _, hK_, hc_⟩ := Kd.C_get (Ft.now HJ5148) z25 x5149 (by first | assumption | decide | omega) (by first | assumption | decide | omega); rw [hA5170] at e_; injection e_ with e_; subst e_; obtain rfl := k25_open hK_; exact load_agg (cs := [.string ((rd_T25 l0 x5149).f0), .string ((rd_T25 l0 x5149).f1), .int .i64 ((rd_T25 l0 x5149).f2)]) Try.underlying25 rfl (by kernel_rfl) (fun j_ u_ hu_ => by first | (rw [add_add]; exact hc_ _ _ hu_) | exact add_cells hc_ hu_))) ?_
                simp only [ls0, ls1]
                refine bx_new (C := C5154) 25 ([.string (⟨#[]⟩ : ByteArray), .string (⟨#[]⟩ : ByteArray), .int .i64 0]) 15 rfl rfl (by first | (go_simp; done) | (go_simp; rfl)) ?_
                intro g5172 w5173 C5174 HX5175 hs5176
                replace HJ5148 := HJ5148.thru hs5176 rfl
                replace HJ5152 := HJ5152.thru hs5176 rfl
                replace HJ5150 := HJ5150.thru hs5176 rfl
                replace HJ5151 := HJ5151.thru hs5176 rfl
                replace HS5157 := HS5157.trans hs5176 hc rfl
                (try simp only [Act.put, List.setIfInBounds_toArray, ls0, ls1])
                refine st (.int .i64 x5149) rfl rfl (xr_assign (.int .i64 x5149) rfl rfl) ?_
                simp only [ls0, ls1]
                refine bx_store (C := C5174) (z := 15) (g := g5172) (j := 0) (tb := 25) (u := .agg #[.string ((rd_T25 l0 x5149).f0), .string ((rd_T25 l0 x5149).f1), .int .i64 ((rd_T25 l0 x5149).f2)]) (seg := [.string ((rd_T25 l0 x5149).f0), .string ((rd_T25 l0 x5149).f1), .int .i64 ((rd_T25 l0 x5149).f2)]) (xs := [.string (⟨#[]⟩ : ByteArray), .string (⟨#[]⟩ : ByteArray), .int .i64 0]) rfl rfl rfl rfl rfl rfl (by first | kernel_rfl | rfl) (by simp [Value.oneCell']) HX5175 (by simp only [List.length_cons, List.length_nil]; omega) rfl ?_
                intro w5177 HX5178 hs5179
                replace HJ5148 := HJ5148.thru hs5179 rfl
                replace HJ5152 := HJ5152.thru hs5179 rfl
                replace HJ5150 := HJ5150.thru hs5179 rfl
                replace HJ5151 := HJ5151.thru hs5179 rfl
                replace HS5157 := HS5157.trans hs5179 hc rfl
                (try simp only [Act.put, List.setIfInBounds_toArray, ls0, ls1])
                refine wl_end ?_
                (try simp only [Act.put, List.setIfInBounds_toArray, ls0, ls1])
                refine hK5167 _ _ ?_
                (try clear hK5167 K5167)
                refine wp_seq_k fun K5180 hK5180 => ?_
                (try simp only [Act.put, List.setIfInBounds_toArray, ls0, ls1])
                refine al_start #[false, false, false, false, false, false, false, false, false, false, false, false, false, false, false, false, false, false, false, false, false] rfl rfl rfl (fun w_ => w_.heap[g4732]? = some (.cells (List.toArray ([.slice A4991 x4990.length cp4993, .map (some mb4997)] ++ (List.map (Value.int .u64) t5051 ++ (List.map (Value.int .u64) t5052)))) 47 (0, 0)) ∧ w_.heap[g5172]? = some (.cells (List.toArray ([.string ((rd_T25 l0 x5149).f0), .string ((rd_T25 l0 x5149).f1), .int .i64 ((rd_T25 l0 x5149).f2)])) 25 (0, 0)) ∧ Kd.MapIs Value.string (Value.int .i64) w_ mb4997 x4996) ⟨(HJ5152.drew).2, (HX5178.drew).2, (HJ5151.drew).2⟩ [] ?_
                replace HJ5148 := HJ5148.drew
                replace HJ5152 := HJ5152.drew
                replace HJ5150 := HJ5150.drew
                replace HJ5151 := HJ5151.drew
                replace HX5178 := HX5178.drew
                replace HS5157 := Step.ofDrew HS5157
                generalize w5177.drew = w5190 at *
                refine al_pure 0 37 (.pointer (some ⟨g5172, 1, none⟩)) #[true, false, false, false, false, false, false, false, false, false, false, false, false, false, false, false, false, false, false, false, false] rfl rfl (by kernel_rfl) (fun _ _ _ h_ => h_) rfl (fun w_ => xr_fieldAddr (.pointer (some ⟨g5172, 0, none⟩)) (.pointer (some ⟨g5172, 1, none⟩)) rfl rfl (bx_field2 Try.underlying25 rfl rfl (by kernel_rfl))) ?_
                simp only [ls0, ls1]
                refine al_take 1 38 (.string ((rd_T25 l0 x5149).f1)) #[true, true, false, false, false, false, false, false, false, false, false, false, false, false, false, false, false, false, false, false, false] rfl rfl (by kernel_rfl) (fun _ _ _ h_ => h_) rfl (fun w_ hS_ => xr_load (.pointer (some ⟨g5172, 1, none⟩)) (.string ((rd_T25 l0 x5149).f1)) rfl rfl (load_cell Try.underlying9 rfl (bx_cell (l := ([.string ((rd_T25 l0 x5149).f0), .string ((rd_T25 l0 x5149).f1), .int .i64 ((rd_T25 l0 x5149).f2)])) hS_.2.1 1 rfl))) ⟨(HJ5152).2, (HX5178).2, (HJ5151).2⟩ ?_
                simp only [ls0, ls1]
                refine al_pure 2 39 (.bool (!decide (((rd_T25 l0 x5149).f1) = (⟨#[]⟩ : ByteArray)))) #[true, true, true, false, false, false, false, false, false, false, false, false, false, false, false, false, false, false, false, false, false] rfl rfl (by kernel_rfl) (fun _ _ _ h_ => h_) rfl (fun w_ => xr_bin (.string ((rd_T25 l0 x5149).f1)) (.string (⟨#[]⟩ : ByteArray)) (.bool (!decide (((rd_T25 l0 x5149).f1) = (⟨#[]⟩ : ByteArray)))) rfl rfl rfl (B.neq_str ((rd_T25 l0 x5149).f1) (⟨#[]⟩ : ByteArray))) ?_
                simp only [ls0, ls1]
                refine al_pure 3 40 (.bool (!decide (((rd_T25 l0 x5149).f1) = (⟨#[]⟩ : ByteArray)))) #[true, true, true, true, false, false, false, false, false, false, false, false, false, false, false, false, false, false, false, false, false] rfl rfl (by kernel_rfl) (fun _ _ _ h_ => h_) rfl (fun w_ => xr_move (.bool (!decide (((rd_T25 l0 x5149).f1) = (⟨#[]⟩ : ByteArray)))) rfl rfl) ?_
                simp only [ls0, ls1]
                by_cases c5191 : ((rd_T25 l0 x5149).f1) = (⟨#[]⟩ : ByteArray)
                · rw [if_pos c5191] at H
                  (try rw [(decide_eq_true c5191)])
                  (try simp only [Bool.not_true, Bool.not_false])
                  refine al_off 4 41 #[true, true, true, true, true, false, false, false, false, false, false, false, false, false, false, false, false, false, false, false, false] rfl rfl (by kernel_rfl) (fun _ _ _ h_ => h_) (guard_off 3 true 40 rfl rfl false (by decide) rfl) ?_
                  simp only [ls0, ls1]
                  refine al_off 5 42 #[true, true, true, true, true, true, false, false, false, false, false, false, false, false, false, false, false, false, false, false, false] rfl rfl (by kernel_rfl) (fun _ _ _ h_ => h_) (guard_off 3 true 40 rfl rfl false (by decide) rfl) ?_
                  simp only [ls0, ls1]
                  refine al_off 6 43 #[true, true, true, true, true, true, true, false, false, false, false, false, false, false, false, false, false, false, false, false, false] rfl rfl (by kernel_rfl) (fun _ _ _ h_ => h_) (guard_off 3 true 40 rfl rfl false (by decide) rfl) ?_
                  simp only [ls0, ls1]
                  refine al_off 7 44 #[true, true, true, true, true, true, true, true, false, false, false, false, false, false, false, false, false, false, false, false, false] rfl rfl (by kernel_rfl) (fun _ _ _ h_ => h_) (guard_off 3 true 40 rfl rfl false (by decide) rfl) ?_
                  simp only [ls0, ls1]
                  refine al_off 8 45 #[true, true, true, true, true, true, true, true, true, false, false, false, false, false, false, false, false, false, false, false, false] rfl rfl (by kernel_rfl) (fun _ _ _ h_ => h_) (guard_off 3 true 40 rfl rfl false (by decide) rfl) ?_
                  simp only [ls0, ls1]
                  refine al_off 9 46 #[true, true, true, true, true, true, true, true, true, true, false, false, false, false, false, false, false, false, false, false, false] rfl rfl (by kernel_rfl) (fun _ _ _ h_ => h_) (guard_off 3 true 40 rfl rfl false (by decide) rfl) ?_
                  simp only [ls0, ls1]
                  refine al_off 10 47 #[true, true, true, true, true, true, true, true, true, true, true, false, false, false, false, false, false, false, false, false, false] rfl rfl (by kernel_rfl) (fun _ _ _ h_ => h_) (guard_off 3 true 40 rfl rfl false (by decide) rfl) ?_
                  simp only [ls0, ls1]
                  refine al_off 11 48 #[true, true, true, true, true, true, true, true, true, true, true, true, false, false, false, false, false, false, false, false, false] rfl rfl (by kernel_rfl) (fun _ _ _ h_ => h_) (guard_off 3 true 40 rfl rfl false (by decide) rfl) ?_
                  simp only [ls0, ls1]
                  refine al_off 12 49 #[true, true, true, true, true, true, true, true, true, true, true, true, true, false, false, false, false, false, false, false, false] rfl rfl (by kernel_rfl) (fun _ _ _ h_ => h_) (guard_off 3 true 40 rfl rfl false (by decide) rfl) ?_
                  simp only [ls0, ls1]
                  refine al_off 13 50 #[true, true, true, true, true, true, true, true, true, true, true, true, true, true, false, false, false, false, false, false, false] rfl rfl (by kernel_rfl) (fun _ _ _ h_ => h_) (guard_off 3 true 40 rfl rfl false (by decide) rfl) ?_
                  simp only [ls0, ls1]
                  refine al_off 14 51 #[true, true, true, true, true, true, true, true, true, true, true, true, true, true, true, false, false, false, false, false, false] rfl rfl (by kernel_rfl) (fun _ _ _ h_ => h_) (guard_off 3 true 40 rfl rfl false (by decide) rfl) ?_
                  simp only [ls0, ls1]
                  refine al_off 15 52 #[true, true, true, true, true, true, true, true, true, true, true, true, true, true, true, true, false, false, false, false, false] rfl rfl (by kernel_rfl) (fun _ _ _ h_ => h_) (guard_off 3 true 40 rfl rfl false (by decide) rfl) ?_
                  simp only [ls0, ls1]
                  refine al_off 16 53 #[true, true, true, true, true, true, true, true, true, true, true, true, true, true, true, true, true, false, false, false, false] rfl rfl (by kernel_rfl) (fun _ _ _ h_ => h_) (guard_off 3 true 40 rfl rfl false (by decide) rfl) ?_
                  simp only [ls0, ls1]
                  refine al_off 17 54 #[true, true, true, true, true, true, true, true, true, true, true, true, true, true, true, true, true, true, false, false, false] rfl rfl (by kernel_rfl) (fun _ _ _ h_ => h_) (guard_off 3 true 40 rfl rfl false (by decide) rfl) ?_
                  simp only [ls0, ls1]
                  refine al_off 18 55 #[true, true, true, true, true, true, true, true, true, true, true, true, true, true, true, true, true, true, true, false, false] rfl rfl (by kernel_rfl) (fun _ _ _ h_ => h_) (guard_off 3 true 40 rfl rfl false (by decide) rfl) ?_
                  simp only [ls0, ls1]
                  refine al_off 19 56 #[true, true, true, true, true, true, true, true, true, true, true, true, true, true, true, true, true, true, true, true, false] rfl rfl (by kernel_rfl) (fun _ _ _ h_ => h_) (guard_off 3 true 40 rfl rfl false (by decide) rfl) ?_
                  simp only [ls0, ls1]
                  refine al_pure 20 57 (.bool false) #[true, true, true, true, true, true, true, true, true, true, true, true, true, true, true, true, true, true, true, true, true] rfl rfl (by kernel_rfl) (fun _ _ _ h_ => h_) rfl (fun w_ => xr_pick false (.bool false) rfl rfl rfl) ?_
                  simp only [ls0, ls1]
                  refine al_end (by kernel_rfl) ?_
                  (try simp only [Act.put, List.setIfInBounds_toArray, ls0, ls1])
                  refine hK5180 _ _ ?_
                  (try clear hK5180 K5180)
                  refine wp_cond_false rfl ?_
                  refine wp_skip ?_
                  (try simp only [Act.put, List.setIfInBounds_toArray, ls0, ls1])
                  refine hK5166 _ _ ?_
                  (try clear hK5166 K5166)
                  refine wl_region ?_
                  refine st (.int .i64 (wrap64 (x5149 + 1))) rfl rfl (xr_bin (.int .i64 x5149) (.int .i64 1) (.int .i64 (wrap64 (x5149 + 1))) rfl rfl rfl (B.add_i64 x5149 1)) ?_
                  simp only [ls0, ls1]
                  refine st (.int .i64 (wrap64 (x5149 + 1))) rfl rfl (xr_move (.int .i64 (wrap64 (x5149 + 1))) rfl rfl) ?_
                  simp only [ls0, ls1]
                  refine wl_end ?_
                  (try simp only [Act.put, List.setIfInBounds_toArray, ls0, ls1])
                  exact ih5159 k5162 (by omega) _ _ ⟨_, wrap64 (x5149 + 1), (fun q_ => List.getD [(g5153 0), (g5153 1), undef, (g5153 3), (g5153 4), (g5153 5), (g5153 6), (g5153 7), .int .i64 x5149, .pointer (some ⟨g5172, 0, none⟩), (g5153 10), (g5153 11), (g5153 12), (g5153 13), (g5153 14), (g5153 15), (g5153 16), (g5153 17), (g5153 18), (g5153 19), (g5153 20), (g5153 21), (g5153 22), (g5153 23), (g5153 24), (g5153 25), (g5153 26), (g5153 27), (g5153 28), (g5153 29), undef, undef, undef, .bool true, .int .i64 x5149, .pointer (some (ad5169.add ((x5149 : Int).toNat * 3))), .agg #[.string ((rd_T25 l0 x5149).f0), .string ((rd_T25 l0 x5149).f1), .int .i64 ((rd_T25 l0 x5149).f2)], .pointer (some ⟨g5172, 1, none⟩), .string ((rd_T25 l0 x5149).f1), .bool false, .bool false, undef, undef, undef, undef, undef, undef, undef, undef, undef, undef, undef, undef, undef, undef, undef, undef, .bool false, (g5153 58), .int .i64 (wrap64 (x5149 + 1)), (g5153 60)] q_ undef), rfl, HS5157, (by omega), HJ5148, HJ5150, HJ5151, HJ5152, H⟩
                · rw [if_neg c5191] at H
                  (try rw [(decide_eq_false c5191)])
                  (try simp only [Bool.not_true, Bool.not_false])
                  refine al_pure 4 41 (.pointer (some ⟨g4732, 0, none⟩)) #[true, true, true, true, true, false, false, false, false, false, false, false, false, false, false, false, false, false, false, false, false] rfl rfl (by kernel_rfl) (fun _ _ _ h_ => h_) (guard_on 3 true 40 rfl rfl rfl) (fun w_ => xr_move (.pointer (some ⟨g4732, 0, none⟩)) rfl rfl) ?_
                  simp only [ls0, ls1]
                  refine al_pure 5 42 (.pointer (some ⟨g4732, 0, none⟩)) #[true, true, true, true, true, true, false, false, false, false, false, false, false, false, false, false, false, false, false, false, false] rfl rfl (by kernel_rfl) (fun _ _ _ h_ => h_) (guard_on 3 true 40 rfl rfl rfl) (fun w_ => xr_move (.pointer (some ⟨g4732, 0, none⟩)) rfl rfl) ?_
                  simp only [ls0, ls1]
                  refine al_pure 6 43 (.pointer (some ⟨g4732, 0, none⟩)) #[true, true, true, true, true, true, true, false, false, false, false, false, false, false, false, false, false, false, false, false, false] rfl rfl (by kernel_rfl) (fun _ _ _ h_ => h_) (guard_on 3 true 40 rfl rfl rfl) (fun w_ => xr_nilCheck ⟨g4732, 0, none⟩ rfl rfl) ?_
                  simp only [ls0, ls1]
                  refine al_pure 7 44 (.pointer (some ⟨g4732, 1, none⟩)) #[true, true, true, true, true, true, true, true, false, false, false, false, false, false, false, false, false, false, false, false, false] rfl rfl (by kernel_rfl) (fun _ _ _ h_ => h_) (guard_on 3 true 40 rfl rfl rfl) (fun w_ => xr_fieldAddr (.pointer (some ⟨g4732, 0, none⟩)) (.pointer (some ⟨g4732, 1, none⟩)) rfl rfl (bx_field2 Try.underlying47 rfl rfl (by kernel_rfl))) ?_
                  simp only [ls0, ls1]
                  refine al_pure 9 46 (.pointer (some ⟨g5172, 1, none⟩)) #[true, true, true, true, true, true, true, true, false, true, false, false, false, false, false, false, false, false, false, false, false] rfl rfl (by kernel_rfl) (fun _ _ _ h_ => h_) (guard_on 3 true 40 rfl rfl rfl) (fun w_ => xr_fieldAddr (.pointer (some ⟨g5172, 0, none⟩)) (.pointer (some ⟨g5172, 1, none⟩)) rfl rfl (bx_field2 Try.underlying25 rfl rfl (by kernel_rfl))) ?_
                  simp only [ls0, ls1]
                  refine al_pure 12 49 (.pointer (some ⟨g4732, 0, none⟩)) #[true, true, true, true, true, true, true, true, false, true, false, false, true, false, false, false, false, false, false, false, false] rfl rfl (by kernel_rfl) (fun _ _ _ h_ => h_) (guard_on 3 true 40 rfl rfl rfl) (fun w_ => xr_move (.pointer (some ⟨g4732, 0, none⟩)) rfl rfl) ?_
                  simp only [ls0, ls1]
                  refine al_pure 13 50 (.pointer (some ⟨g4732, 0, none⟩)) #[true, true, true, true, true, true, true, true, false, true, false, false, true, true, false, false, false, false, false, false, false] rfl rfl (by kernel_rfl) (fun _ _ _ h_ => h_) (guard_on 3 true 40 rfl rfl rfl) (fun w_ => xr_nilCheck ⟨g4732, 0, none⟩ rfl rfl) ?_
                  simp only [ls0, ls1]
                  refine al_pure 14 51 (.pointer (some ⟨g4732, 1, none⟩)) #[true, true, true, true, true, true, true, true, false, true, false, false, true, true, true, false, false, false, false, false, false] rfl rfl (by kernel_rfl) (fun _ _ _ h_ => h_) (guard_on 3 true 40 rfl rfl rfl) (fun w_ => xr_fieldAddr (.pointer (some ⟨g4732, 0, none⟩)) (.pointer (some ⟨g4732, 1, none⟩)) rfl rfl (bx_field2 Try.underlying47 rfl rfl (by kernel_rfl))) ?_
                  simp only [ls0, ls1]
                  refine al_pure 16 53 (.pointer (some ⟨g5172, 0, none⟩)) #[true, true, true, true, true, true, true, true, false, true, false, false, true, true, true, false, true, false, false, false, false] rfl rfl (by kernel_rfl) (fun _ _ _ h_ => h_) (guard_on 3 true 40 rfl rfl rfl) (fun w_ => xr_fieldAddr (.pointer (some ⟨g5172, 0, none⟩)) (.pointer (some ⟨g5172, 0, none⟩)) rfl rfl (bx_field2 Try.underlying25 rfl rfl (by kernel_rfl))) ?_
                  simp only [ls0, ls1]
                  refine al_take 8 45 (.map (some mb4997)) #[true, true, true, true, true, true, true, true, true, true, false, false, true, true, true, false, true, false, false, false, false] rfl rfl (by kernel_rfl) (fun _ _ _ h_ => h_) (guard_on 3 true 40 rfl rfl rfl) (fun w_ hS_ => xr_load (.pointer (some ⟨g4732, 1, none⟩)) (.map (some mb4997)) rfl rfl (load_cell Try.underlying43 rfl (bx_cell (l := ([.slice A4991 x4990.length cp4993, .map (some mb4997)] ++ (List.map (Value.int .u64) t5051 ++ (List.map (Value.int .u64) t5052)))) hS_.1 1 rfl))) ⟨(HJ5152).2, (HX5178).2, (HJ5151).2⟩ ?_
                  simp only [ls0, ls1]
                  refine al_take 10 47 (.string ((rd_T25 l0 x5149).f1)) #[true, true, true, true, true, true, true, true, true, true, true, false, true, true, true, false, true, false, false, false, false] rfl rfl (by kernel_rfl) (fun _ _ _ h_ => h_) (guard_on 3 true 40 rfl rfl rfl) (fun w_ hS_ => xr_load (.pointer (some ⟨g5172, 1, none⟩)) (.string ((rd_T25 l0 x5149).f1)) rfl rfl (load_cell Try.underlying9 rfl (bx_cell (l := ([.string ((rd_T25 l0 x5149).f0), .string ((rd_T25 l0 x5149).f1), .int .i64 ((rd_T25 l0 x5149).f2)])) hS_.2.1 1 rfl))) ⟨(HJ5152).2, (HX5178).2, (HJ5151).2⟩ ?_
                  simp only [ls0, ls1]
                  refine al_take 11 48 (.int .i64 (mget 0 x4996 ((rd_T25 l0 x5149).f1))) #[true, true, true, true, true, true, true, true, true, true, true, true, true, true, true, false, true, false, false, false, false] rfl rfl (by kernel_rfl) (fun _ _ _ h_ => h_) (guard_on 3 true 40 rfl rfl rfl) (fun w_ hS_ => xr_lookup (.map (some mb4997)) (.string ((rd_T25 l0 x5149).f1)) (.int .i64 (mget 0 x4996 ((rd_T25 l0 x5149).f1))) rfl rfl rfl (look_map (z := 0) (keyK_str Try.underlying9) Try.underlying43 info3 hS_.2.2 ((rd_T25 l0 x5149).f1) false)) ⟨(HJ5152).2, (HX5178).2, (HJ5151).2⟩ ?_
                  simp only [ls0, ls1]
                  refine al_take 15 52 (.map (some mb4997)) #[true, true, true, true, true, true, true, true, true, true, true, true, true, true, true, true, true, false, false, false, false] rfl rfl (by kernel_rfl) (fun _ _ _ h_ => h_) (guard_on 3 true 40 rfl rfl rfl) (fun w_ hS_ => xr_load (.pointer (some ⟨g4732, 1, none⟩)) (.map (some mb4997)) rfl rfl (load_cell Try.underlying43 rfl (bx_cell (l := ([.slice A4991 x4990.length cp4993, .map (some mb4997)] ++ (List.map (Value.int .u64) t5051 ++ (List.map (Value.int .u64) t5052)))) hS_.1 1 rfl))) ⟨(HJ5152).2, (HX5178).2, (HJ5151).2⟩ ?_
                  simp only [ls0, ls1]
                  refine al_take 17 54 (.string ((rd_T25 l0 x5149).f0)) #[true, true, true, true, true, true, true, true, true, true, true, true, true, true, true, true, true, true, false, false, false] rfl rfl (by kernel_rfl) (fun _ _ _ h_ => h_) (guard_on 3 true 40 rfl rfl rfl) (fun w_ hS_ => xr_load (.pointer (some ⟨g5172, 0, none⟩)) (.string ((rd_T25 l0 x5149).f0)) rfl rfl (load_cell Try.underlying9 rfl (bx_cell (l := ([.string ((rd_T25 l0 x5149).f0), .string ((rd_T25 l0 x5149).f1), .int .i64 ((rd_T25 l0 x5149).f2)])) hS_.2.1 0 rfl))) ⟨(HJ5152).2, (HX5178).2, (HJ5151).2⟩ ?_
                  simp only [ls0, ls1]
                  refine al_take 18 55 (.int .i64 (mget 0 x4996 ((rd_T25 l0 x5149).f0))) #[true, true, true, true, true, true, true, true, true, true, true, true, true, true, true, true, true, true, true, false, false] rfl rfl (by kernel_rfl) (fun _ _ _ h_ => h_) (guard_on 3 true 40 rfl rfl rfl) (fun w_ hS_ => xr_lookup (.map (some mb4997)) (.string ((rd_T25 l0 x5149).f0)) (.int .i64 (mget 0 x4996 ((rd_T25 l0 x5149).f0))) rfl rfl rfl (look_map (z := 0) (keyK_str Try.underlying9) Try.underlying43 info3 hS_.2.2 ((rd_T25 l0 x5149).f0) false)) ⟨(HJ5152).2, (HX5178).2, (HJ5151).2⟩ ?_
                  simp only [ls0, ls1]
                  have HP5192 : Ft C5174 [0, 12, 13, 14] w5190 (fun w_ => (Kd.ptr 47 k47).K w_ (some (⟨x4990, x4996, t5051, t5052⟩ : S47)) [.pointer (some ⟨g4732, 0, none⟩)]) := ptr_mk (Ft.more (HJ5152.ft) rfl) (k47_mkF _ _ (⟨x4990, x4996, t5051, t5052⟩ : S47) HC4994 (Ft.more (HJ5150.ft) rfl) (Ft.more (HJ5151.ft) rfl) HL5058 HL5059)
                  obtain ⟨t5193, A5194, H⟩ := Option.bind_eq_some_iff.mp H
                  (try dsimp only at H)
                  refine al_one 19 #[true, true, true, true, true, true, true, true, true, true, true, true, true, true, true, true, true, true, true, true, false] rfl rfl (by kernel_rfl) rfl (fun K_ hK_ => ?_)
                  refine goes_ Try.func11 (by kernel_rfl) rfl #[.pointer (some ⟨g4732, 0, none⟩), .int .i64 (mget 0 x4996 ((rd_T25 l0 x5149).f1)), .int .i64 (mget 0 x4996 ((rd_T25 l0 x5149).f0))] (guard_on 3 true 40 rfl rfl rfl) rfl rfl (by rw [map_ev]; simp only [List.map_toArray, List.map_cons, List.map_nil]; first | done | rfl) ?_
                  refine (order_Order_Most.calls (.pointer (some ⟨g4732, 0, none⟩)) (some (⟨x4990, x4996, t5051, t5052⟩ : S47) : Option S47) (mget 0 x4996 ((rd_T25 l0 x5149).f1)) (mget 0 x4996 ((rd_T25 l0 x5149).f0)) t5193  (fun z_ => pal [(0, 0), (12, 0), (13, 0), (14, 0)] (C5174 z_)) w5190 (fun _ => pal_lt rfl _) (Ft.arg HP5192 rfl) A5194).mono ?_
                  rintro _ w5196 ⟨C5197, rfl, hs5198⟩
                  refine ⟨_, rfl, ?_⟩
                  replace hs5198 := Step.lift (U := [(0, 0)]) hs5198 [] rfl rfl
                  generalize up C5174 C5197 w5190.heap.size [(0, 0)] = C5197_ at hs5198
                  replace HJ5148 := HJ5148.thru hs5198 rfl
                  replace HJ5152 := HJ5152.thru hs5198 rfl
                  replace HJ5150 := HJ5150.thru hs5198 rfl
                  replace HJ5151 := HJ5151.thru hs5198 rfl
                  replace HX5178 := HX5178.thru hs5198 rfl
                  replace HS5157 := HS5157.trans hs5198 hc rfl
                  refine hK_ _ _ ⟨(HJ5152).2, (HX5178).2, (HJ5151).2⟩ ?_
                  clear hK_ K_
                  (try simp only [Act.put, List.setIfInBounds_toArray, ls0, ls1])
                  refine al_pure 20 57 (.bool t5193) #[true, true, true, true, true, true, true, true, true, true, true, true, true, true, true, true, true, true, true, true, true] rfl rfl (by kernel_rfl) (fun _ _ _ h_ => h_) rfl (fun w_ => xr_pick true (.bool t5193) rfl rfl rfl) ?_
                  simp only [ls0, ls1]
                  refine al_end (by kernel_rfl) ?_
                  (try simp only [Act.put, List.setIfInBounds_toArray, ls0, ls1])
                  refine hK5180 _ _ ?_
                  (try clear hK5180 K5180)
                  by_cases c5199 : t5193 = true
                  · rw [if_pos c5199] at H
                    (try rw [c5199])
                    (try simp only [Bool.not_true, Bool.not_false])
                    refine wp_cond_true rfl ?_
                    refine wp_seq_k fun K5200 hK5200 => ?_
                    refine wl_region ?_
                    refine st (.int .i64 x5149) rfl rfl (xr_move (.int .i64 x5149) rfl rfl) ?_
                    simp only [ls0, ls1]
                    refine st (.pointer none) rfl rfl (xr_assign (.pointer none) rfl rfl) ?_
                    simp only [ls0, ls1]
                    refine st (.int .i64 x5149) rfl rfl (xr_assign (.int .i64 x5149) rfl rfl) ?_
                    simp only [ls0, ls1]
                    refine st (.int .i64 16) rfl rfl (xr_assign (.int .i64 16) rfl rfl) ?_
                    simp only [ls0, ls1]
                    refine wl_end ?_
                    (try simp only [Act.put, List.setIfInBounds_toArray, ls0, ls1])
                    refine hK5200 _ _ ?_
                    (try clear hK5200 K5200)
                    refine wp_ret ?_
                    (try simp only [Exit.inBlock, Exit.then, Exit.noGoto])
                    (try simp only [Act.put, List.setIfInBounds_toArray, ls0, ls1])
                    simp only [Option.some.injEq, Prod.mk.injEq] at H
                    obtain ⟨rfl, rfl, rfl⟩ := H
                    refine bodyPost_ret (results_tmp3 rfl _ _ _) rfl ?_
                    exact ⟨_, (.pointer none), rfl, HS5157, (ptr_nil _ _ _ _ _)⟩
                  · rw [if_neg c5199] at H
                    (try rw [(Bool.eq_false_iff.mpr c5199)])
                    (try simp only [Bool.not_true, Bool.not_false])
                    refine wp_cond_false rfl ?_
                    refine wp_skip ?_
                    (try simp only [Act.put, List.setIfInBounds_toArray, ls0, ls1])
                    refine hK5166 _ _ ?_
                    (try clear hK5166 K5166)
                    refine wl_region ?_
                    refine st (.int .i64 (wrap64 (x5149 + 1))) rfl rfl (xr_bin (.int .i64 x5149) (.int .i64 1) (.int .i64 (wrap64 (x5149 + 1))) rfl rfl rfl (B.add_i64 x5149 1)) ?_
                    simp only [ls0, ls1]
                    refine st (.int .i64 (wrap64 (x5149 + 1))) rfl rfl (xr_move (.int .i64 (wrap64 (x5149 + 1))) rfl rfl) ?_
                    simp only [ls0, ls1]
                    refine wl_end ?_
                    (try simp only [Act.put, List.setIfInBounds_toArray, ls0, ls1])
                    exact ih5159 k5162 (by omega) _ _ ⟨_, wrap64 (x5149 + 1), (fun q_ => List.getD [(g5153 0), (g5153 1), undef, (g5153 3), (g5153 4), (g5153 5), (g5153 6), (g5153 7), .int .i64 x5149, .pointer (some ⟨g5172, 0, none⟩), (g5153 10), (g5153 11), (g5153 12), (g5153 13), (g5153 14), (g5153 15), (g5153 16), (g5153 17), (g5153 18), (g5153 19), (g5153 20), (g5153 21), (g5153 22), (g5153 23), (g5153 24), (g5153 25), (g5153 26), (g5153 27), (g5153 28), (g5153 29), undef, undef, undef, .bool true, .int .i64 x5149, .pointer (some (ad5169.add ((x5149 : Int).toNat * 3))), .agg #[.string ((rd_T25 l0 x5149).f0), .string ((rd_T25 l0 x5149).f1), .int .i64 ((rd_T25 l0 x5149).f2)], .pointer (some ⟨g5172, 1, none⟩), .string ((rd_T25 l0 x5149).f1), .bool true, .bool true, .pointer (some ⟨g4732, 0, none⟩), .pointer (some ⟨g4732, 0, none⟩), .pointer (some ⟨g4732, 0, none⟩), .pointer (some ⟨g4732, 1, none⟩), .map (some mb4997), .pointer (some ⟨g5172, 1, none⟩), .string ((rd_T25 l0 x5149).f1), .int .i64 (mget 0 x4996 ((rd_T25 l0 x5149).f1)), .pointer (some ⟨g4732, 0, none⟩), .pointer (some ⟨g4732, 0, none⟩), .pointer (some ⟨g4732, 1, none⟩), .map (some mb4997), .pointer (some ⟨g5172, 0, none⟩), .string ((rd_T25 l0 x5149).f0), .int .i64 (mget 0 x4996 ((rd_T25 l0 x5149).f0)), .bool false, .bool false, (g5153 58), .int .i64 (wrap64 (x5149 + 1)), (g5153 60)] q_ undef), rfl, HS5157, (by omega), HJ5148, HJ5150, HJ5151, HJ5152, H⟩
              · rw [if_neg c5168] at H
                exact absurd H (by simp)
            · rw [if_neg c5165] at H
              (try rw [(decide_eq_false c5165)])
              (try simp only [Bool.not_true, Bool.not_false])
              refine wp_cond_false rfl ?_
              refine wp_exit ?_
              (try simp only [Act.put, List.setIfInBounds_toArray, ls0, ls1])
              refine hK5061 _ _ ?_
              (try clear hK5061 K5061)
              refine wp_seq_k fun K5201 hK5201 => ?_
              refine wl_region ?_
              refine st (.pointer (some ⟨g4732, 0, none⟩)) rfl rfl (xr_move (.pointer (some ⟨g4732, 0, none⟩)) rfl rfl) ?_
              simp only [ls0, ls1]
              refine st (.pointer (some ⟨g4732, 0, none⟩)) rfl rfl (xr_assign (.pointer (some ⟨g4732, 0, none⟩)) rfl rfl) ?_
              simp only [ls0, ls1]
              refine st (.int .i64 0) rfl rfl (xr_assign (.int .i64 0) rfl rfl) ?_
              simp only [ls0, ls1]
              refine st (.int .i64 0) rfl rfl (xr_assign (.int .i64 0) rfl rfl) ?_
              simp only [ls0, ls1]
              refine wl_end ?_
              (try simp only [Act.put, List.setIfInBounds_toArray, ls0, ls1])
              refine hK5201 _ _ ?_
              (try clear hK5201 K5201)
              refine wp_ret ?_
              (try simp only [Exit.inBlock, Exit.then, Exit.noGoto])
              (try simp only [Act.put, List.setIfInBounds_toArray, ls0, ls1])
              replace HJ5148 := Ft.recol (a := 12) (b := 0) HJ5148 (.inl rfl)
              have HX5202 := Ft.recolor (a := 12) (b := 0) (HJ5152.ft) [0] rfl
              replace HJ5150 := Own.recol (a := 12) (b := 0) HJ5150 (by decide) (by decide)
              replace HJ5151 := Mp.recol (x := 12) (y := 0) HJ5151 (by decide)
              replace HS5157 := Step.recol (a := 12) (b := 0) HS5157 hc (by decide)
              replace HJ5148 := Ft.recol (a := 13) (b := 0) HJ5148 (.inl rfl)
              replace HX5202 := Ft.recol (a := 13) (b := 0) HX5202 (.inl rfl)
              have HR5203 := Ft.recolor (a := 13) (b := 0) (HJ5150.ft) [0] rfl
              replace HJ5151 := Mp.recol (x := 13) (y := 0) HJ5151 (by decide)
              replace HS5157 := Step.recol (a := 13) (b := 0) HS5157 hc (by decide)
              replace HJ5148 := Ft.recol (a := 14) (b := 0) HJ5148 (.inl rfl)
              replace HX5202 := Ft.recol (a := 14) (b := 0) HX5202 (.inl rfl)
              replace HR5203 := Ft.recol (a := 14) (b := 0) HR5203 (.inl rfl)
              have HR5204 := Ft.recolor (a := 14) (b := 0) (HJ5151.ft) [0] rfl
              replace HS5157 := Step.recol (a := 14) (b := 0) HS5157 hc (by decide)
              have HP5205 : Ft (recol (recol (recol C5154 12 0) 13 0) 14 0) [0] w5155 (fun w_ => (Kd.ptr 47 k47).K w_ (some (⟨x4990, x4996, t5051, t5052⟩ : S47)) [.pointer (some ⟨g4732, 0, none⟩)]) := ptr_mk (Ft.more HX5202 rfl) (k47_mkF _ _ (⟨x4990, x4996, t5051, t5052⟩ : S47) HC4994 (Ft.more HR5203 rfl) (Ft.more HR5204 rfl) HL5058 HL5059)
              simp only [Option.some.injEq, Prod.mk.injEq] at H
              obtain ⟨rfl, rfl, rfl⟩ := H
              refine bodyPost_ret (results_tmp3 rfl _ _ _) rfl ?_
              exact ⟨_, (.pointer (some ⟨g4732, 0, none⟩)), rfl, HS5157, HP5205⟩

/-! ### order_Order_Below: function 16 -/
def order_Order_Below.f (x0 : Option S47) (a1 : Int) : Option (Int) := (order_Order_in.f x0 a1).bind fun t5229 => (if t5229 = true then (onOpt x0 (none) (fun o5237 => (if 0 ≤ a1 then (if a1 < 64 then (some (List.getD o5237.f3 ((a1 : Int).toNat) 0)) else (none)) else (none)))) else (some 0))
set_option maxHeartbeats 2000000 in
set_option maxRecDepth 100000 in
theorem order_Order_Below.calls (v0 : Value) (x0 : Option S47) (a1 : Int) (r : Int) (c : Nat → Nat) (w : World) (hc : ∀ k, c k < 10) (HP0 : Ft c [0] w (fun w_ => (Kd.ptr 47 k47).K w_ x0 [v0])) (H : order_Order_Below.f x0 a1 = some r) :
    Calls Try.prog 16 #[v0, .int .i64 a1] w fun e w' => ∃ (c' : Nat → Nat) , e = .returned (.int .u64 r) ∧ Step c w c' w' [] := by
  unfold order_Order_Below.f at H
  have HS := Step.refl c w []
  go_enter Try.func16, Try.ntmps16
  refine wp_seq_k fun K5226 hK5226 => ?_
  refine wl_region ?_
  refine st (.int .u64 0) rfl rfl (xr_assign (.int .u64 0) rfl rfl) ?_
  simp only [ls0, ls1]
  refine wl_end ?_
  (try simp only [Act.put, List.setIfInBounds_toArray, ls0, ls1])
  refine hK5226 _ _ ?_
  (try clear hK5226 K5226)
  refine wp_seq_k fun K5227 hK5227 => ?_
  refine wp_seq_k fun K5228 hK5228 => ?_
  refine wl_region ?_
  refine st (v0) rfl rfl (xr_move (v0) rfl rfl) ?_
  simp only [ls0, ls1]
  refine st (.int .i64 a1) rfl rfl (xr_move (.int .i64 a1) rfl rfl) ?_
  simp only [ls0, ls1]
  obtain ⟨t5229, A5230, H⟩ := Option.bind_eq_some_iff.mp H
  (try dsimp only at H)
  refine st_call #[v0, .int .i64 a1] rfl rfl Try.func20 (by kernel_rfl) rfl rfl (by simp only [List.map_toArray, List.map_cons, List.map_nil]; first | done | rfl) ?_
  refine (order_Order_in.calls v0 x0 a1 t5229  (fun z_ => pal [(0, 0)] (c z_)) w (fun _ => pal_lt rfl _) (Ft.arg HP0 rfl) A5230).mono ?_
  rintro _ w5232 ⟨C5233, rfl, hs5234⟩
  refine ⟨_, rfl, ?_⟩
  replace hs5234 := Step.lift (U := [(0, 0)]) hs5234 [] rfl rfl
  generalize up c C5233 w.heap.size [(0, 0)] = C5233_ at hs5234
  replace HP0 := HP0.thru hs5234 rfl
  replace HS := HS.trans hs5234 hc rfl
  (try simp only [Act.put, List.setIfInBounds_toArray, ls0, ls1])
  refine st (.bool (!t5229)) rfl rfl (xr_un (.bool t5229) (.bool (!t5229)) rfl rfl (by first | rfl | (go_simp; done) | (go_simp; rfl) | (go_simp; exact i64_w _) | (go_simp; exact i32_w _))) ?_
  simp only [ls0, ls1]
  refine wl_end ?_
  (try simp only [Act.put, List.setIfInBounds_toArray, ls0, ls1])
  refine hK5228 _ _ ?_
  (try clear hK5228 K5228)
  by_cases c5235 : t5229 = true
  · rw [if_pos c5235] at H
    (try rw [c5235])
    (try simp only [Bool.not_true, Bool.not_false])
    refine wp_cond_false rfl ?_
    refine wp_skip ?_
    (try simp only [Act.put, List.setIfInBounds_toArray, ls0, ls1])
    refine hK5227 _ _ ?_
    (try clear hK5227 K5227)
    refine wp_seq_k fun K5236 hK5236 => ?_
    refine wl_region ?_
    refine st (v0) rfl rfl (xr_move (v0) rfl rfl) ?_
    simp only [ls0, ls1]
    refine st (.int .i64 a1) rfl rfl (xr_move (.int .i64 a1) rfl rfl) ?_
    simp only [ls0, ls1]
    cases x0 with
    | none =>
      (try simp only [onOpt] at H)
      obtain rfl := ptr_none HP0
      exact absurd H (by simp)
    | some o5237 =>
      (try simp only [onOpt] at H)
      obtain ⟨g5238, cs5239, rfl, HX5240, HK5241⟩ := ptr_some HP0
      obtain ⟨Aq5242_0, cpq5242_0, vq5242_1, rfl, HCq5242_0, HRq5242_0, HRq5242_1, HLq5242_2, HLq5242_3⟩ := k47_openF HK5241
      replace HRq5242_0 : Ft C5233_ [0] w5232 (fun w_ => Kd.string.C w_ Aq5242_0 o5237.f0.length o5237.f0) := HRq5242_0
      replace HRq5242_1 : Ft C5233_ [0] w5232 (fun w_ => (Kd.mp Value.string (Value.int .i64)).K w_ o5237.f1 [vq5242_1]) := HRq5242_1
      refine st (.pointer (some ⟨g5238, 0, none⟩)) rfl rfl (xr_nilCheck ⟨g5238, 0, none⟩ rfl rfl) ?_
      simp only [ls0, ls1]
      refine st (.pointer (some ⟨g5238, 66, none⟩)) rfl rfl (xr_fieldAddr (.pointer (some ⟨g5238, 0, none⟩)) (.pointer (some ⟨g5238, 66, none⟩)) rfl rfl (bx_field2 Try.underlying47 rfl rfl (by kernel_rfl))) ?_
      simp only [ls0, ls1]
      by_cases c5243 : 0 ≤ a1
      · rw [if_pos c5243] at H
        by_cases c5244 : a1 < 64
        · rw [if_pos c5244] at H
          refine st (.pointer (some ⟨g5238, 66 + ((a1 : Int).toNat), none⟩)) rfl rfl (xr_indexAddr (.pointer (some ⟨g5238, 66, none⟩)) (.int .i64 a1) (.pointer (some ⟨g5238, 66 + ((a1 : Int).toNat), none⟩)) rfl rfl rfl (arr_index (sz := 1) Try.underlying45 (by kernel_rfl) (by first | assumption | decide | omega) (by first | assumption | decide | omega) (by omega))) ?_
          simp only [ls0, ls1]
          refine st (.int .u64 (List.getD o5237.f3 ((a1 : Int).toNat) 0)) rfl rfl (xr_load (.pointer (some ⟨g5238, 66 + ((a1 : Int).toNat), none⟩)) (.int .u64 (List.getD o5237.f3 ((a1 : Int).toNat) 0)) rfl rfl (arr_load (o := 66) (N := 64) (pre := [.slice Aq5242_0 o5237.f0.length cpq5242_0, vq5242_1] ++ (List.map (Value.int .u64) o5237.f2)) (post := []) (enc := (Value.int .u64)) (l := o5237.f3) (i := (a1 : Int).toNat) 0 Try.underlying40 rfl (Ft.now HX5240) (by first | (simp only [List.append_assoc, List.cons_append, List.nil_append, List.append_nil]; done) | rfl) (by simp [HLq5242_2]) HLq5242_3 (by omega) (by omega))) ?_
          simp only [ls0, ls1]
          refine st (.int .u64 (List.getD o5237.f3 ((a1 : Int).toNat) 0)) rfl rfl (xr_assign (.int .u64 (List.getD o5237.f3 ((a1 : Int).toNat) 0)) rfl rfl) ?_
          simp only [ls0, ls1]
          refine wl_end ?_
          (try simp only [Act.put, List.setIfInBounds_toArray, ls0, ls1])
          refine hK5236 _ _ ?_
          (try clear hK5236 K5236)
          refine wp_ret ?_
          (try simp only [Exit.inBlock, Exit.then, Exit.noGoto])
          (try simp only [Act.put, List.setIfInBounds_toArray, ls0, ls1])
          obtain rfl := Option.some.inj H
          refine bodyPost_ret (results_tmp rfl _ _ _) rfl ?_
          exact ⟨_, rfl, HS⟩
        · rw [if_neg c5244] at H
          exact absurd H (by simp)
      · rw [if_neg c5243] at H
        exact absurd H (by simp)
  · rw [if_neg c5235] at H
    (try rw [(Bool.eq_false_iff.mpr c5235)])
    (try simp only [Bool.not_true, Bool.not_false])
    refine wp_cond_true rfl ?_
    refine wp_seq_k fun K5245 hK5245 => ?_
    refine wl_region ?_
    refine st (.int .u64 0) rfl rfl (xr_assign (.int .u64 0) rfl rfl) ?_
    simp only [ls0, ls1]
    refine wl_end ?_
    (try simp only [Act.put, List.setIfInBounds_toArray, ls0, ls1])
    refine hK5245 _ _ ?_
    (try clear hK5245 K5245)
    refine wp_ret ?_
    (try simp only [Exit.inBlock, Exit.then, Exit.noGoto])
    (try simp only [Act.put, List.setIfInBounds_toArray, ls0, ls1])
    obtain rfl := Option.some.inj H
    refine bodyPost_ret (results_tmp rfl _ _ _) rfl ?_
    exact ⟨_, rfl, HS⟩

/-! ### blazonlaw13_awake: function 9 -/
def blazonlaw13_awake.f (k : Nat)  : Option (Bool) := (some ([(⟨(⟨#[97]⟩ : ByteArray), (⟨#[98]⟩ : ByteArray), 0⟩ : S25), (⟨(⟨#[98]⟩ : ByteArray), (⟨#[99]⟩ : ByteArray), 0⟩ : S25)] : List (S25))).bind fun y5301 => ((order_New.f k y5301).bind fun bt5311 => ((some ([(⟨(⟨#[97]⟩ : ByteArray), (⟨#[98]⟩ : ByteArray), 0⟩ : S25), (⟨(⟨#[98]⟩ : ByteArray), (⟨#[97]⟩ : ByteArray), 0⟩ : S25)] : List (S25))).bind fun y5322 => ((order_New.f k y5322).bind fun bt5332 => (if bt5311.2.2 = 0 then ((order_Order_Below.f bt5311.1 2).bind fun t5344 => (if t5344 = 7 then (if bt5332.2.1 = 0 then (some (decide (bt5332.2.2 = 16))) else (some false)) else (some false))) else (some false)))))

set_option maxHeartbeats 2000000 in
set_option maxRecDepth 100000 in
theorem blazonlaw13_awake.calls (k : Nat)  (r : Bool) (c : Nat → Nat) (w : World) (hc : ∀ k, c k < 10)  (H : blazonlaw13_awake.f k = some r) :
    Calls Try.prog 9 #[] w fun e w' => ∃ (c' : Nat → Nat) , e = .returned (.bool r) ∧ Step c w c' w' [] := by
  unfold blazonlaw13_awake.f at H
  have HS := Step.refl c w []
  go_enter Try.func9, Try.ntmps9
  refine wp_seq_k fun K5299 hK5299 => ?_
  refine wl_region ?_
  refine st (.bool false) rfl rfl (xr_assign (.bool false) rfl rfl) ?_
  simp only [ls0, ls1]
  refine wl_end ?_
  (try simp only [Act.put, List.setIfInBounds_toArray, ls0, ls1])
  refine hK5299 _ _ ?_
  (try clear hK5299 K5299)
  refine wp_seq_k fun K5300 hK5300 => ?_
  refine wl_region ?_
  refine st (.agg #[.string (⟨#[97]⟩ : ByteArray), .string (⟨#[98]⟩ : ByteArray), .int .i64 0]) rfl rfl (xr_build #[(0, .string (⟨#[97]⟩ : ByteArray)), (1, .string (⟨#[98]⟩ : ByteArray))] (.agg #[.string (⟨#[97]⟩ : ByteArray), .string (⟨#[98]⟩ : ByteArray), .int .i64 0]) rfl (by simp only [List.map_toArray, List.map_cons, List.map_nil]; first | done | rfl) (by first | rfl | (go_simp; done) | (go_simp; rfl) | (go_simp; exact i64_w _) | (go_simp; exact i32_w _))) ?_
  simp only [ls0, ls1]
  refine st (.agg #[.string (⟨#[98]⟩ : ByteArray), .string (⟨#[99]⟩ : ByteArray), .int .i64 0]) rfl rfl (xr_build #[(0, .string (⟨#[98]⟩ : ByteArray)), (1, .string (⟨#[99]⟩ : ByteArray))] (.agg #[.string (⟨#[98]⟩ : ByteArray), .string (⟨#[99]⟩ : ByteArray), .int .i64 0]) rfl (by simp only [List.map_toArray, List.map_cons, List.map_nil]; first | done | rfl) (by first | rfl | (go_simp; done) | (go_simp; rfl) | (go_simp; exact i64_w _) | (go_simp; exact i32_w _))) ?_
  simp only [ls0, ls1]
  obtain ⟨y5301, A5302, H⟩ := Option.bind_eq_some_iff.mp H
  (try dsimp only at H)
  refine Own.lit k25 (C := c) (i := 11) rfl 25 rfl (xs := [(⟨(⟨#[97]⟩ : ByteArray), (⟨#[98]⟩ : ByteArray), 0⟩ : S25), (⟨(⟨#[98]⟩ : ByteArray), (⟨#[99]⟩ : ByteArray), 0⟩ : S25)]) (inner := [.string (⟨#[97]⟩ : ByteArray), .string (⟨#[98]⟩ : ByteArray), .int .i64 0, .string (⟨#[98]⟩ : ByteArray), .string (⟨#[99]⟩ : ByteArray), .int .i64 0]) (by first | (go_simp; done) | (go_simp; rfl)) (reps_cons (k25_mkF _ _ (⟨(⟨#[97]⟩ : ByteArray), (⟨#[98]⟩ : ByteArray), 0⟩ : S25)) rfl (reps_cons (k25_mkF _ _ (⟨(⟨#[98]⟩ : ByteArray), (⟨#[99]⟩ : ByteArray), 0⟩ : S25)) rfl (Reps.none _ _))) (by simp only [List.length_cons, List.length_nil]; omega) (Option.some.inj A5302) ?_
  intro A5303 cp5304 w5305 C5306 HO5307 HC5308 hs5309
  replace HS := HS.trans hs5309 hc rfl
  (try simp only [Act.put, List.setIfInBounds_toArray, ls0, ls1])
  have HR5310 := Ft.recolor (a := 11) (b := 0) (HO5307.ft) [0] rfl
  replace HS := Step.recol (a := 11) (b := 0) HS hc (by decide)
  obtain ⟨⟨t5311, t5312, t5313⟩, A5314, H⟩ := Option.bind_eq_some_iff.mp H
  (try dsimp only at H)
  refine st_call #[.slice A5303 y5301.length cp5304] rfl rfl Try.func8 (by kernel_rfl) rfl rfl (by simp only [List.map_toArray, List.map_cons, List.map_nil]; first | done | rfl) ?_
  refine (order_New.calls k A5303 cp5304 y5301 t5311 t5312 t5313  (fun z_ => pal [(0, 0)] ((recol C5306 11 0) z_)) w5305 (fun _ => pal_lt rfl _) (Ft.arg HR5310 rfl) HC5308 A5314).mono ?_
  rintro _ w5316 ⟨C5317, v5319, rfl, hs5318, HB5320⟩
  refine ⟨_, rfl, ?_⟩
  replace HB5320 := Ft.res (U := [(0, 0)]) HB5320 hs5318 [0] rfl rfl rfl
  replace hs5318 := Step.lift (U := [(0, 0)]) hs5318 [] rfl rfl
  generalize up (recol C5306 11 0) C5317 w5305.heap.size [(0, 0)] = C5317_ at HB5320 hs5318
  replace HS := HS.trans hs5318 hc rfl
  (try simp only [Act.put, List.setIfInBounds_toArray, ls0, ls1])
  refine st (.tuple #[v5319, .int .i64 t5312, .int .i64 t5313]) rfl rfl (xr_move (.tuple #[v5319, .int .i64 t5312, .int .i64 t5313]) rfl rfl) ?_
  simp only [ls0, ls1]
  refine st (v5319) rfl rfl (xr_extract (.tuple #[v5319, .int .i64 t5312, .int .i64 t5313]) (v5319) rfl rfl rfl) ?_
  simp only [ls0, ls1]
  refine st (.int .i64 t5312) rfl rfl (xr_extract (.tuple #[v5319, .int .i64 t5312, .int .i64 t5313]) (.int .i64 t5312) rfl rfl rfl) ?_
  simp only [ls0, ls1]
  refine st (.int .i64 t5313) rfl rfl (xr_extract (.tuple #[v5319, .int .i64 t5312, .int .i64 t5313]) (.int .i64 t5313) rfl rfl rfl) ?_
  simp only [ls0, ls1]
  refine st (v5319) rfl rfl (xr_assign (v5319) rfl rfl) ?_
  simp only [ls0, ls1]
  refine st (.int .i64 t5312) rfl rfl (xr_assign (.int .i64 t5312) rfl rfl) ?_
  simp only [ls0, ls1]
  refine st (.int .i64 t5313) rfl rfl (xr_assign (.int .i64 t5313) rfl rfl) ?_
  simp only [ls0, ls1]
  refine wl_end ?_
  (try simp only [Act.put, List.setIfInBounds_toArray, ls0, ls1])
  refine hK5300 _ _ ?_
  (try clear hK5300 K5300)
  refine wp_seq_k fun K5321 hK5321 => ?_
  refine wl_region ?_
  refine st (.agg #[.string (⟨#[97]⟩ : ByteArray), .string (⟨#[98]⟩ : ByteArray), .int .i64 0]) rfl rfl (xr_build #[(0, .string (⟨#[97]⟩ : ByteArray)), (1, .string (⟨#[98]⟩ : ByteArray))] (.agg #[.string (⟨#[97]⟩ : ByteArray), .string (⟨#[98]⟩ : ByteArray), .int .i64 0]) rfl (by simp only [List.map_toArray, List.map_cons, List.map_nil]; first | done | rfl) (by first | rfl | (go_simp; done) | (go_simp; rfl) | (go_simp; exact i64_w _) | (go_simp; exact i32_w _))) ?_
  simp only [ls0, ls1]
  refine st (.agg #[.string (⟨#[98]⟩ : ByteArray), .string (⟨#[97]⟩ : ByteArray), .int .i64 0]) rfl rfl (xr_build #[(0, .string (⟨#[98]⟩ : ByteArray)), (1, .string (⟨#[97]⟩ : ByteArray))] (.agg #[.string (⟨#[98]⟩ : ByteArray), .string (⟨#[97]⟩ : ByteArray), .int .i64 0]) rfl (by simp only [List.map_toArray, List.map_cons, List.map_nil]; first | done | rfl) (by first | rfl | (go_simp; done) | (go_simp; rfl) | (go_simp; exact i64_w _) | (go_simp; exact i32_w _))) ?_
  simp only [ls0, ls1]
  obtain ⟨y5322, A5323, H⟩ := Option.bind_eq_some_iff.mp H
  (try dsimp only at H)
  refine Own.lit k25 (C := C5317_) (i := 12) rfl 25 rfl (xs := [(⟨(⟨#[97]⟩ : ByteArray), (⟨#[98]⟩ : ByteArray), 0⟩ : S25), (⟨(⟨#[98]⟩ : ByteArray), (⟨#[97]⟩ : ByteArray), 0⟩ : S25)]) (inner := [.string (⟨#[97]⟩ : ByteArray), .string (⟨#[98]⟩ : ByteArray), .int .i64 0, .string (⟨#[98]⟩ : ByteArray), .string (⟨#[97]⟩ : ByteArray), .int .i64 0]) (by first | (go_simp; done) | (go_simp; rfl)) (reps_cons (k25_mkF _ _ (⟨(⟨#[97]⟩ : ByteArray), (⟨#[98]⟩ : ByteArray), 0⟩ : S25)) rfl (reps_cons (k25_mkF _ _ (⟨(⟨#[98]⟩ : ByteArray), (⟨#[97]⟩ : ByteArray), 0⟩ : S25)) rfl (Reps.none _ _))) (by simp only [List.length_cons, List.length_nil]; omega) (Option.some.inj A5323) ?_
  intro A5324 cp5325 w5326 C5327 HO5328 HC5329 hs5330
  replace HB5320 := HB5320.thru hs5330 rfl
  replace HS := HS.trans hs5330 hc rfl
  (try simp only [Act.put, List.setIfInBounds_toArray, ls0, ls1])
  replace HB5320 := Ft.recol (a := 12) (b := 0) HB5320 (.inl rfl)
  have HR5331 := Ft.recolor (a := 12) (b := 0) (HO5328.ft) [0] rfl
  replace HS := Step.recol (a := 12) (b := 0) HS hc (by decide)
  obtain ⟨⟨t5332, t5333, t5334⟩, A5335, H⟩ := Option.bind_eq_some_iff.mp H
  (try dsimp only at H)
  refine st_call #[.slice A5324 y5322.length cp5325] rfl rfl Try.func8 (by kernel_rfl) rfl rfl (by simp only [List.map_toArray, List.map_cons, List.map_nil]; first | done | rfl) ?_
  refine (order_New.calls k A5324 cp5325 y5322 t5332 t5333 t5334  (fun z_ => pal [(0, 0)] ((recol C5327 12 0) z_)) w5326 (fun _ => pal_lt rfl _) (Ft.arg HR5331 rfl) HC5329 A5335).mono ?_
  rintro _ w5337 ⟨C5338, v5340, rfl, hs5339, HB5341⟩
  refine ⟨_, rfl, ?_⟩
  replace HB5341 := Ft.res (U := [(0, 0)]) HB5341 hs5339 [0] rfl rfl rfl
  replace hs5339 := Step.lift (U := [(0, 0)]) hs5339 [] rfl rfl
  generalize up (recol C5327 12 0) C5338 w5326.heap.size [(0, 0)] = C5338_ at HB5341 hs5339
  replace HB5320 := HB5320.thru hs5339 rfl
  replace HS := HS.trans hs5339 hc rfl
  (try simp only [Act.put, List.setIfInBounds_toArray, ls0, ls1])
  refine st (.tuple #[v5340, .int .i64 t5333, .int .i64 t5334]) rfl rfl (xr_move (.tuple #[v5340, .int .i64 t5333, .int .i64 t5334]) rfl rfl) ?_
  simp only [ls0, ls1]
  refine st (v5340) rfl rfl (xr_extract (.tuple #[v5340, .int .i64 t5333, .int .i64 t5334]) (v5340) rfl rfl rfl) ?_
  simp only [ls0, ls1]
  refine st (.int .i64 t5333) rfl rfl (xr_extract (.tuple #[v5340, .int .i64 t5333, .int .i64 t5334]) (.int .i64 t5333) rfl rfl rfl) ?_
  simp only [ls0, ls1]
  refine st (.int .i64 t5334) rfl rfl (xr_extract (.tuple #[v5340, .int .i64 t5333, .int .i64 t5334]) (.int .i64 t5334) rfl rfl rfl) ?_
  simp only [ls0, ls1]
  refine st (v5340) rfl rfl (xr_assign (v5340) rfl rfl) ?_
  simp only [ls0, ls1]
  refine st (.int .i64 t5333) rfl rfl (xr_assign (.int .i64 t5333) rfl rfl) ?_
  simp only [ls0, ls1]
  refine st (.int .i64 t5334) rfl rfl (xr_assign (.int .i64 t5334) rfl rfl) ?_
  simp only [ls0, ls1]
  refine wl_end ?_
  (try simp only [Act.put, List.setIfInBounds_toArray, ls0, ls1])
  refine hK5321 _ _ ?_
  (try clear hK5321 K5321)
  refine wp_seq_k fun K5342 hK5342 => ?_
  refine wl_region ?_
  refine st (.int .i64 t5313) rfl rfl (xr_move (.int .i64 t5313) rfl rfl) ?_
  simp only [ls0, ls1]
  refine st (.bool (decide (t5313 = 0))) rfl rfl (xr_bin (.int .i64 t5313) (.int .i64 0) (.bool (decide (t5313 = 0))) rfl rfl rfl (B.eql_i64 t5313 0)) ?_
  simp only [ls0, ls1]
  refine st (.bool (decide (t5313 = 0))) rfl rfl (xr_move (.bool (decide (t5313 = 0))) rfl rfl) ?_
  simp only [ls0, ls1]
  by_cases c5343 : t5313 = 0
  · rw [if_pos c5343] at H
    (try rw [(decide_eq_true c5343)])
    (try simp only [Bool.not_true, Bool.not_false])
    refine on_guard (guard_on 2 true 25 rfl rfl rfl) ?_
    refine st (v5319) rfl rfl (xr_move (v5319) rfl rfl) ?_
    simp only [ls0, ls1]
    refine on_guard (guard_on 2 true 25 rfl rfl rfl) ?_
    obtain ⟨t5344, A5345, H⟩ := Option.bind_eq_some_iff.mp H
    (try dsimp only at H)
    refine st_call #[v5319, .int .i64 2] rfl rfl Try.func16 (by kernel_rfl) rfl rfl (by simp only [List.map_toArray, List.map_cons, List.map_nil]; first | done | rfl) ?_
    refine (order_Order_Below.calls v5319 t5311 2 t5344  (fun z_ => pal [(0, 0)] (C5338_ z_)) w5337 (fun _ => pal_lt rfl _) (Ft.arg HB5320 rfl) A5345).mono ?_
    rintro _ w5347 ⟨C5348, rfl, hs5349⟩
    refine ⟨_, rfl, ?_⟩
    replace hs5349 := Step.lift (U := [(0, 0)]) hs5349 [] rfl rfl
    generalize up C5338_ C5348 w5337.heap.size [(0, 0)] = C5348_ at hs5349
    replace HS := HS.trans hs5349 hc rfl
    (try simp only [Act.put, List.setIfInBounds_toArray, ls0, ls1])
    refine on_guard (guard_on 2 true 25 rfl rfl rfl) ?_
    refine st (.bool (decide (t5344 = 7))) rfl rfl (xr_bin (.int .u64 t5344) (.int .u64 7) (.bool (decide (t5344 = 7))) rfl rfl rfl (B.eql_u64 t5344 7)) ?_
    simp only [ls0, ls1]
    refine st (.bool (decide (t5344 = 7))) rfl rfl (xr_pick true (.bool (decide (t5344 = 7))) rfl rfl rfl) ?_
    simp only [ls0, ls1]
    refine st (.bool (decide (t5344 = 7))) rfl rfl (xr_move (.bool (decide (t5344 = 7))) rfl rfl) ?_
    simp only [ls0, ls1]
    by_cases c5350 : t5344 = 7
    · rw [if_pos c5350] at H
      (try rw [(decide_eq_true c5350)])
      (try simp only [Bool.not_true, Bool.not_false])
      refine on_guard (guard_on 7 true 30 rfl rfl rfl) ?_
      refine st (.int .i64 t5333) rfl rfl (xr_move (.int .i64 t5333) rfl rfl) ?_
      simp only [ls0, ls1]
      refine on_guard (guard_on 7 true 30 rfl rfl rfl) ?_
      refine st (.bool (decide (t5333 = 0))) rfl rfl (xr_bin (.int .i64 t5333) (.int .i64 0) (.bool (decide (t5333 = 0))) rfl rfl rfl (B.eql_i64 t5333 0)) ?_
      simp only [ls0, ls1]
      refine st (.bool (decide (t5333 = 0))) rfl rfl (xr_pick true (.bool (decide (t5333 = 0))) rfl rfl rfl) ?_
      simp only [ls0, ls1]
      refine st (.bool (decide (t5333 = 0))) rfl rfl (xr_move (.bool (decide (t5333 = 0))) rfl rfl) ?_
      simp only [ls0, ls1]
      by_cases c5351 : t5333 = 0
      · rw [if_pos c5351] at H
        (try rw [(decide_eq_true c5351)])
        (try simp only [Bool.not_true, Bool.not_false])
        refine on_guard (guard_on 11 true 34 rfl rfl rfl) ?_
        refine st (.int .i64 t5334) rfl rfl (xr_move (.int .i64 t5334) rfl rfl) ?_
        simp only [ls0, ls1]
        refine on_guard (guard_on 11 true 34 rfl rfl rfl) ?_
        refine st (.bool (decide (t5334 = 16))) rfl rfl (xr_bin (.int .i64 t5334) (.int .i64 16) (.bool (decide (t5334 = 16))) rfl rfl rfl (B.eql_i64 t5334 16)) ?_
        simp only [ls0, ls1]
        refine st (.bool (decide (t5334 = 16))) rfl rfl (xr_pick true (.bool (decide (t5334 = 16))) rfl rfl rfl) ?_
        simp only [ls0, ls1]
        refine st (.bool (decide (t5334 = 16))) rfl rfl (xr_assign (.bool (decide (t5334 = 16))) rfl rfl) ?_
        simp only [ls0, ls1]
        refine wl_end ?_
        (try simp only [Act.put, List.setIfInBounds_toArray, ls0, ls1])
        refine hK5342 _ _ ?_
        (try clear hK5342 K5342)
        refine wp_ret ?_
        (try simp only [Exit.inBlock, Exit.then, Exit.noGoto])
        (try simp only [Act.put, List.setIfInBounds_toArray, ls0, ls1])
        obtain rfl := Option.some.inj H
        refine bodyPost_ret (results_tmp rfl _ _ _) rfl ?_
        exact ⟨_, rfl, HS⟩
      · rw [if_neg c5351] at H
        (try rw [(decide_eq_false c5351)])
        (try simp only [Bool.not_true, Bool.not_false])
        refine sk_guard (guard_off 11 true 34 rfl rfl false (by decide) rfl) rfl ?_
        simp only [ls0, ls1]
        refine sk_guard (guard_off 11 true 34 rfl rfl false (by decide) rfl) rfl ?_
        simp only [ls0, ls1]
        refine st (.bool false) rfl rfl (xr_pick false (.bool false) rfl rfl rfl) ?_
        simp only [ls0, ls1]
        refine st (.bool false) rfl rfl (xr_assign (.bool false) rfl rfl) ?_
        simp only [ls0, ls1]
        refine wl_end ?_
        (try simp only [Act.put, List.setIfInBounds_toArray, ls0, ls1])
        refine hK5342 _ _ ?_
        (try clear hK5342 K5342)
        refine wp_ret ?_
        (try simp only [Exit.inBlock, Exit.then, Exit.noGoto])
        (try simp only [Act.put, List.setIfInBounds_toArray, ls0, ls1])
        obtain rfl := Option.some.inj H
        refine bodyPost_ret (results_tmp rfl _ _ _) rfl ?_
        exact ⟨_, rfl, HS⟩
    · rw [if_neg c5350] at H
      (try rw [(decide_eq_false c5350)])
      (try simp only [Bool.not_true, Bool.not_false])
      refine sk_guard (guard_off 7 true 30 rfl rfl false (by decide) rfl) rfl ?_
      simp only [ls0, ls1]
      refine sk_guard (guard_off 7 true 30 rfl rfl false (by decide) rfl) rfl ?_
      simp only [ls0, ls1]
      refine st (.bool false) rfl rfl (xr_pick false (.bool false) rfl rfl rfl) ?_
      simp only [ls0, ls1]
      refine st (.bool false) rfl rfl (xr_move (.bool false) rfl rfl) ?_
      simp only [ls0, ls1]
      refine sk_guard (guard_off 11 true 34 rfl rfl false (by decide) rfl) rfl ?_
      simp only [ls0, ls1]
      refine sk_guard (guard_off 11 true 34 rfl rfl false (by decide) rfl) rfl ?_
      simp only [ls0, ls1]
      refine st (.bool false) rfl rfl (xr_pick false (.bool false) rfl rfl rfl) ?_
      simp only [ls0, ls1]
      refine st (.bool false) rfl rfl (xr_assign (.bool false) rfl rfl) ?_
      simp only [ls0, ls1]
      refine wl_end ?_
      (try simp only [Act.put, List.setIfInBounds_toArray, ls0, ls1])
      refine hK5342 _ _ ?_
      (try clear hK5342 K5342)
      refine wp_ret ?_
      (try simp only [Exit.inBlock, Exit.then, Exit.noGoto])
      (try simp only [Act.put, List.setIfInBounds_toArray, ls0, ls1])
      obtain rfl := Option.some.inj H
      refine bodyPost_ret (results_tmp rfl _ _ _) rfl ?_
      exact ⟨_, rfl, HS⟩
  · rw [if_neg c5343] at H
    (try rw [(decide_eq_false c5343)])
    (try simp only [Bool.not_true, Bool.not_false])
    refine sk_guard (guard_off 2 true 25 rfl rfl false (by decide) rfl) rfl ?_
    simp only [ls0, ls1]
    refine sk_guard (guard_off 2 true 25 rfl rfl false (by decide) rfl) rfl ?_
    simp only [ls0, ls1]
    refine sk_guard (guard_off 2 true 25 rfl rfl false (by decide) rfl) rfl ?_
    simp only [ls0, ls1]
    refine st (.bool false) rfl rfl (xr_pick false (.bool false) rfl rfl rfl) ?_
    simp only [ls0, ls1]
    refine st (.bool false) rfl rfl (xr_move (.bool false) rfl rfl) ?_
    simp only [ls0, ls1]
    refine sk_guard (guard_off 7 true 30 rfl rfl false (by decide) rfl) rfl ?_
    simp only [ls0, ls1]
    refine sk_guard (guard_off 7 true 30 rfl rfl false (by decide) rfl) rfl ?_
    simp only [ls0, ls1]
    refine st (.bool false) rfl rfl (xr_pick false (.bool false) rfl rfl rfl) ?_
    simp only [ls0, ls1]
    refine st (.bool false) rfl rfl (xr_move (.bool false) rfl rfl) ?_
    simp only [ls0, ls1]
    refine sk_guard (guard_off 11 true 34 rfl rfl false (by decide) rfl) rfl ?_
    simp only [ls0, ls1]
    refine sk_guard (guard_off 11 true 34 rfl rfl false (by decide) rfl) rfl ?_
    simp only [ls0, ls1]
    refine st (.bool false) rfl rfl (xr_pick false (.bool false) rfl rfl rfl) ?_
    simp only [ls0, ls1]
    refine st (.bool false) rfl rfl (xr_assign (.bool false) rfl rfl) ?_
    simp only [ls0, ls1]
    refine wl_end ?_
    (try simp only [Act.put, List.setIfInBounds_toArray, ls0, ls1])
    refine hK5342 _ _ ?_
    (try clear hK5342 K5342)
    refine wp_ret ?_
    (try simp only [Exit.inBlock, Exit.then, Exit.noGoto])
    (try simp only [Act.put, List.setIfInBounds_toArray, ls0, ls1])
    obtain rfl := Option.some.inj H
    refine bodyPost_ret (results_tmp rfl _ _ _) rfl ?_
    exact ⟨_, rfl, HS⟩

end Go.Proofs.Ytpfepkkpbampkaa.POrd
