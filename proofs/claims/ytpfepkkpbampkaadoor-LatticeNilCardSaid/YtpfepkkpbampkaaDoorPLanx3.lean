-- By cprint.py, a program of this work. Lean checks it.
import Derived.Test.YtpfepkkpbampkaaDoorPLanx0
import Derived.Test.YtpfepkkpbampkaaDoorPLanx1
import Derived.Test.YtpfepkkpbampkaaDoorPLanx2
namespace Go.Proofs.YtpfepkkpbampkaaDoor.PLan
open Go.RowKit Go.Proofs.YtpfepkkpbampkaaDoorW.PrintWords Go.Proofs.YtpfepkkpbampkaaDoorW.PrintLast Go.Proofs.YtpfepkkpbampkaaDoorW.PrintMore
set_option linter.unusedVariables false
set_option linter.unusedSimpArgs false

/-! ### order_New: function 15 -/
mutual
def order_New.l0 : Nat → (List (S53)) → (List Int) → (List Int) → (List ByteArray) → (List (ByteArray × Int)) → Int → Option ((Option S81) × Int × Int)
  | 0, _, _, _, _, _, _ => none
  | k + 1, l0, t5030, t5031, x4969, x4975, x5128 => if x5128 < (l0.length : Int) then (if 0 ≤ x5128 then (if ((rd_T53 l0 x5128).f1) = (⟨#[]⟩ : ByteArray) then (order_New.l0 k l0 t5030 t5031 x4969 x4975 (wrap64 (x5128 + 1))) else ((order_Order_Most.f (some (⟨x4969, x4975, t5030, t5031⟩ : S81) : Option S81) (mget 0 x4975 ((rd_T53 l0 x5128).f1)) (mget 0 x4975 ((rd_T53 l0 x5128).f0))).bind fun t5172 => (if t5172 = true then (some ((none : Option S81), x5128, 16)) else (order_New.l0 k l0 t5030 t5031 x4969 x4975 (wrap64 (x5128 + 1)))))) else (none)) else (some ((some (⟨x4969, x4975, t5030, t5031⟩ : S81) : Option S81), 0, 0))
def order_New.l1 : Nat → (List (S53)) → Int → (List ByteArray) → (List (ByteArray × Int)) → (List Int) → Option ((Option S81) × Int × Int)
  | 0, _, _, _, _, _ => none
  | k + 1, l0, x4968, x4969, x4975, x4978 => if x4968 < (l0.length : Int) then (if 0 ≤ x4968 then ((order_Order_pair.f k x4969 x4975 x4978 (List.replicate 64 (0 : Int)) ((rd_T53 l0 x4968).f0) ((rd_T53 l0 x4968).f1) ((rd_T53 l0 x4968).f2)).bind fun bt5009 => (if bt5009.1 = 0 then (order_New.l1 k l0 (wrap64 (x4968 + 1)) bt5009.2.1 bt5009.2.2.1 bt5009.2.2.2) else (some ((none : Option S81), x4968, bt5009.1)))) else (none)) else ((order_Order_close.f k x4969 x4975 x4978 (List.replicate 64 (0 : Int))).bind fun bt5030 => (order_New.l0 k l0 bt5030.1 bt5030.2 x4969 x4975 0))
end
def order_New.f (k : Nat) (l0 : List (S53)) : Option ((Option S81) × Int × Int) := order_New.l1 k l0 0 ([] : List ByteArray) ([] : List (ByteArray × Int)) (List.replicate 64 (0 : Int))

set_option maxHeartbeats 2000000 in
set_option maxRecDepth 100000 in
theorem order_New.calls (k : Nat) (A0 : Option Addr) (c0 : Nat) (l0 : List (S53)) (r1 : Option S81) (r2 : Int) (r3 : Int) (c : Nat → Nat) (w : World) (hc : ∀ k, c k < 10) (HP0 : Ft c [0] w (fun w_ => k53.C w_ A0 l0.length l0)) (HCP0 : l0.length ≤ c0) (H : order_New.f k l0 = some (r1, r2, r3)) :
    Calls Tryd.prog 15 #[.slice A0 l0.length c0] w fun e w' => ∃ (c' : Nat → Nat) (v_r1 : Value), e = .returned (.tuple #[v_r1, .int .i64 r2, .int .i64 r3]) ∧ Step c w c' w' [] ∧ Ft c' [0] w' (fun w_ => (Kd.ptr 81 k81).K w_ r1 [v_r1]) := by
 unfold order_New.f at H
 have HS := Step.refl c w []
 go_enter Tryd.func15, Tryd.ntmps15
 refine wp_seq_k fun K4704 hK4704 => ?_
 refine wl_region ?_
 refine st (.pointer none) rfl rfl (xr_assign _ rfl rfl) ?_
 refine st (.int .i64 0) rfl rfl (xr_assign _ rfl rfl) ?_
 refine st (.int .i64 0) rfl rfl (xr_assign _ rfl rfl) ?_
 refine wl_end ?_
 (try simp only [Act.put, List.setIfInBounds_toArray, ls0, ls1])
 refine hK4704 _ _ ?_
 (try clear hK4704 K4704)
 refine wp_seq_k fun K4705 hK4705 => ?_
 refine wl_region ?_
 refine mp_new (C := c) Value.string (Value.int .i64) 11 rfl rfl rfl ?_
 intro mb4706 w4707 C4708 HM4709 hs4710
 replace HP0 := HP0.thru hs4710 rfl
 replace HS := HS.trans hs4710 hc rfl
 (try simp only [Act.put, List.setIfInBounds_toArray, ls0, ls1])
 refine st (.agg (List.toArray ([.slice none 0 0, .map (some mb4706)] ++ (List.map (Value.int .u64) (List.replicate 64 (0 : Int)) ++ (List.map (Value.int .u64) (List.replicate 64 (0 : Int))))))) rfl rfl (xr_build #[(1, .map (some mb4706))] (.agg (List.toArray ([.slice none 0 0, .map (some mb4706)] ++ (List.map (Value.int .u64) (List.replicate 64 (0 : Int)) ++ (List.map (Value.int .u64) (List.replicate 64 (0 : Int))))))) rfl (mp_ rfl) (by kernel_rfl)) ?_
 refine bx_new (C := C4708) 81 ([.slice none 0 0, .map (some mb4706)] ++ (List.map (Value.int .u64) (List.replicate 64 (0 : Int)) ++ (List.map (Value.int .u64) (List.replicate 64 (0 : Int))))) 12 rfl rfl (by kernel_rfl) ?_
 intro g4711 w4712 C4713 HX4714 hs4715
 replace HP0 := HP0.thru hs4715 rfl
 replace HM4709 := HM4709.thru hs4715 rfl
 replace HS := HS.trans hs4715 hc rfl
 (try simp only [Act.put, List.setIfInBounds_toArray, ls0, ls1])
 refine st (.pointer (some ⟨g4711, 0, none⟩)) rfl rfl (xr_assign _ rfl rfl) ?_
 refine wl_end ?_
 (try simp only [Act.put, List.setIfInBounds_toArray, ls0, ls1])
 refine hK4705 _ _ ?_
 (try clear hK4705 K4705)
 refine wp_seq_k fun K4716 hK4716 => ?_
 refine wp_seq_k fun K4873 hK4873 => ?_
 refine wl_region ?_
 refine st (.slice A0 l0.length c0) rfl rfl (xr_move _ rfl rfl) ?_
 refine st (.int .i64 (l0.length : Int)) rfl rfl (xr_builtin #[.slice A0 l0.length c0] (.int .i64 (l0.length : Int)) rfl (mp_ rfl) (by first | rfl | (go_simp; done) | (go_simp; rfl) | (go_simp; exact i64_w _) | (go_simp; exact i32_w _))) ?_
 refine st (.int .i64 0) rfl rfl (xr_move _ rfl rfl) ?_
 refine wl_end ?_
 (try simp only [Act.put, List.setIfInBounds_toArray, ls0, ls1])
 refine hK4873 _ _ ?_
 (try clear hK4873 K4873)
 refine wp_block ?_
 (try simp only [Act.put, List.setIfInBounds_toArray, ls0, ls1])
 refine wp_looped (looped_ind (fun kq4984 a_ w4983 => ∃ (C4982 : Nat → Nat) (x4968 : Int) (x4978 : List Int) (A4970 : Option Addr) (n4971 cp4972 : Nat) (x4969 : List ByteArray) (mb4976 : Nat) (x4975 : List (ByteArray × Int)) (g4981 : Nat → Value), a_ = ⟨#[.slice A0 l0.length c0, (g4981 1), .pointer (some ⟨g4711, 0, none⟩), (g4981 3), (g4981 4), (g4981 5), (g4981 6), (g4981 7), (g4981 8), (g4981 9), (g4981 10), (g4981 11), (g4981 12), .slice A0 l0.length c0, .int .i64 (l0.length : Int), .int .i64 x4968, (g4981 16), (g4981 17), (g4981 18), (g4981 19), (g4981 20), (g4981 21), (g4981 22), (g4981 23), (g4981 24), (g4981 25), (g4981 26), (g4981 27), (g4981 28), (g4981 29), (g4981 30), (g4981 31), (g4981 32), (g4981 33), (g4981 34), (g4981 35), (g4981 36), (g4981 37), (g4981 38), (g4981 39), (g4981 40), (g4981 41), (g4981 42), (g4981 43), (g4981 44), (g4981 45), (g4981 46), (g4981 47), (g4981 48), (g4981 49), (g4981 50), (g4981 51), (g4981 52), (g4981 53), (g4981 54), (g4981 55), (g4981 56), (g4981 57), (g4981 58), (g4981 59), (g4981 60)], []⟩ ∧ Step c w C4982 w4983 [] ∧ kq4984 ≤ k ∧ (Ft C4982 [0] w4983 (fun w_ => k53.C w_ A0 l0.length l0)) ∧ (Own C4982 13 w4983 Kd.string 9 (.slice A4970 n4971 cp4972) x4969) ∧ (n4971 ≤ cp4972) ∧ (Mp Value.string (Value.int .i64) C4982 14 w4983 mb4976 x4975) ∧ (x4978.length = 64) ∧ (Bx C4982 12 w4983 g4711 81 ([.slice A4970 n4971 cp4972, .map (some mb4976)] ++ (List.map (Value.int .u64) x4978 ++ (List.map (Value.int .u64) (List.replicate 64 (0 : Int)))))) ∧ order_New.l1 kq4984 l0 x4968 x4969 x4975 x4978 = some (r1, r2, r3)) ?step k _ _ ?init)
 case init =>
  replace HP0 := Ft.recol (a := 11) (b := 14) HP0 (.inl rfl)
  replace HM4709 := Mp.recolor (y := 14) HM4709
  replace HX4714 := Bx.recol (a := 11) (b := 14) HX4714 (by decide)
  replace HS := Step.recol (a := 11) (b := 14) HS hc (by decide)
  exact ⟨_, 0, (List.replicate 64 (0 : Int)), none, 0, 0, ([] : List ByteArray), mb4706, ([] : List (ByteArray × Int)), (fun q_ => List.getD [undef, undef, undef, .int .i64 0, .int .i64 0, undef, undef, undef, undef, undef, .map (some mb4706), .agg (List.toArray ([.slice none 0 0, .map (some mb4706)] ++ (List.map (Value.int .u64) (List.replicate 64 (0 : Int)) ++ (List.map (Value.int .u64) (List.replicate 64 (0 : Int)))))), .pointer (some ⟨g4711, 0, none⟩), undef, undef, undef, undef, undef, undef, undef, undef, undef, undef, undef, undef, undef, undef, undef, undef, undef, undef, undef, undef, undef, undef, undef, undef, undef, undef, undef, undef, undef, undef, undef, undef, undef, undef, undef, undef, undef, undef, undef, undef, undef, undef, undef, undef, undef, undef, undef, undef] q_ undef), rfl, HS, Nat.le_refl _, HP0, (Own.nil _ _ _ _ _), (Nat.le_refl 0), HM4709, (List.length_replicate), HX4714, H⟩
 case step =>
  intro kq4984 ih4987 a4988 w4983 hr4989
  obtain ⟨C4982, x4968, x4978, A4970, n4971, cp4972, x4969, mb4976, x4975, g4981, rfl, HS4985, hk4986, HJ4967, HJ4974, HC4973, HJ4977, HL4979, HJ4980, H⟩ := hr4989
  refine looped_round ?_
  obtain rfl : n4971 = x4969.length := HJ4974.at_.1
  cases kq4984 with
  | zero => exact absurd H (by simp [order_New.l1])
  | succ k4990 =>
   simp only [order_New.l1] at H
   refine wp_seq_k fun K4991 hK4991 => ?_
   refine wl_region ?_
   refine st (.bool (decide (x4968 < (l0.length : Int)))) rfl rfl (xr_bin _ _ _ rfl rfl rfl (B.lss_i64 _ _)) ?_
   refine wl_end ?_
   (try simp only [Act.put, List.setIfInBounds_toArray, ls0, ls1])
   refine hK4991 _ _ ?_
   (try clear hK4991 K4991)
   refine wp_seq_k fun K4992 hK4992 => ?_
   by_cases c4993 : x4968 < (l0.length : Int)
   ·rw [if_pos c4993] at H
    (try rw [(decide_eq_true c4993)])
    (try simp only [Bool.not_true, Bool.not_false])
    refine wp_cond_true rfl ?_
    refine wp_skip ?_
    (try simp only [Act.put, List.setIfInBounds_toArray, ls0, ls1])
    refine hK4992 _ _ ?_
    (try clear hK4992 K4992)
    refine wp_seq_k fun K4994 hK4994 => ?_
    refine wp_block ?_
    refine wp_seq_k fun K4995 hK4995 => ?_
    refine wl_region ?_
    refine st (.int .i64 x4968) rfl rfl (xr_move _ rfl rfl) ?_
    by_cases c4996 : 0 ≤ x4968
    ·rw [if_pos c4996] at H
     obtain ⟨ad4997, hA4998⟩ := c_addr (Ft.now HJ4967) (pos_of (j := x4968) (by first | assumption | decide) (by first | assumption | omega))
     refine st (.pointer (some (ad4997.add ((x4968 : Int).toNat * 3)))) rfl rfl (xr_indexAddr _ _ _ rfl rfl rfl (index_at Tryd.underlying22 info53 hA4998 (by first | assumption | decide | omega) (by first | assumption | decide | omega))) ?_
     refine st (.agg #[.string ((rd_T53 l0 x4968).f0), .string ((rd_T53 l0 x4968).f1), .int .i64 ((rd_T53 l0 x4968).f2)]) rfl rfl (xr_load (.pointer (some (ad4997.add ((x4968 : Int).toNat * 3)))) (.agg #[.string ((rd_T53 l0 x4968).f0), .string ((rd_T53 l0 x4968).f1), .int .i64 ((rd_T53 l0 x4968).f2)]) rfl rfl (by obtain ⟨ad_, cs_, e_, _, hK_, hc_⟩ := Kd.C_get (Ft.now HJ4967) z53 x4968 (by first | assumption | decide | omega) (by first | assumption | decide | omega); rw [hA4998] at e_; injection e_ with e_; subst e_; obtain rfl := k53_open hK_; exact load_agg (cs := [.string ((rd_T53 l0 x4968).f0), .string ((rd_T53 l0 x4968).f1), .int .i64 ((rd_T53 l0 x4968).f2)]) Tryd.underlying53 rfl (by kernel_rfl) (fun j_ u_ hu_ => by first | (rw [add_add]; exact hc_ _ _ hu_) | exact add_cells hc_ hu_))) ?_
     refine bx_new (C := C4982) 53 ([.string (⟨#[]⟩ : ByteArray), .string (⟨#[]⟩ : ByteArray), .int .i64 0]) 15 rfl rfl (by first | (go_simp; done) | (go_simp; rfl)) ?_
     intro g5000 w5001 C5002 HX5003 hs5004
     replace HJ4967 := HJ4967.thru hs5004 rfl
     replace HJ4980 := HJ4980.thru hs5004 rfl
     replace HJ4974 := HJ4974.thru hs5004 rfl
     replace HJ4977 := HJ4977.thru hs5004 rfl
     replace HS4985 := HS4985.trans hs5004 hc rfl
     (try simp only [Act.put, List.setIfInBounds_toArray, ls0, ls1])
     refine st (.int .i64 x4968) rfl rfl (xr_assign _ rfl rfl) ?_
     refine bx_store (C := C5002) (z := 15) (g := g5000) (j := 0) (tb := 53) (u := .agg #[.string ((rd_T53 l0 x4968).f0), .string ((rd_T53 l0 x4968).f1), .int .i64 ((rd_T53 l0 x4968).f2)]) (seg := [.string ((rd_T53 l0 x4968).f0), .string ((rd_T53 l0 x4968).f1), .int .i64 ((rd_T53 l0 x4968).f2)]) (xs := [.string (⟨#[]⟩ : ByteArray), .string (⟨#[]⟩ : ByteArray), .int .i64 0]) rfl rfl rfl rfl rfl rfl (by first | kernel_rfl | rfl) (by simp [Value.oneCell']) HX5003 (by simp only [List.length_cons, List.length_nil]; omega) rfl ?_
     intro w5005 HX5006 hs5007
     replace HJ4967 := HJ4967.thru hs5007 rfl
     replace HJ4980 := HJ4980.thru hs5007 rfl
     replace HJ4974 := HJ4974.thru hs5007 rfl
     replace HJ4977 := HJ4977.thru hs5007 rfl
     replace HS4985 := HS4985.trans hs5007 hc rfl
     (try simp only [Act.put, List.setIfInBounds_toArray, ls0, ls1])
     refine wl_end ?_
     (try simp only [Act.put, List.setIfInBounds_toArray, ls0, ls1])
     refine hK4995 _ _ ?_
     (try clear hK4995 K4995)
     refine wp_seq_k fun K5008 hK5008 => ?_
     refine wl_region ?_
     refine st (.pointer (some ⟨g4711, 0, none⟩)) rfl rfl (xr_move _ rfl rfl) ?_
     refine st (.agg #[.string ((rd_T53 l0 x4968).f0), .string ((rd_T53 l0 x4968).f1), .int .i64 ((rd_T53 l0 x4968).f2)]) rfl rfl (xr_load _ _ rfl rfl (load_agg (cs := [.string ((rd_T53 l0 x4968).f0), .string ((rd_T53 l0 x4968).f1), .int .i64 ((rd_T53 l0 x4968).f2)]) Tryd.underlying53 rfl (by kernel_rfl) (bx_cells (HX5006).2 0 rfl))) ?_
     obtain ⟨⟨t5009, t5010, t5011, t5012⟩, A5013, H⟩ := Option.bind_eq_some_iff.mp H
     (try dsimp only at H)
     refine st_call #[.pointer (some ⟨g4711, 0, none⟩), .agg #[.string ((rd_T53 l0 x4968).f0), .string ((rd_T53 l0 x4968).f1), .int .i64 ((rd_T53 l0 x4968).f2)]] rfl rfl Tryd.func50 (by kernel_rfl) rfl rfl (mp_ rfl) ?_
     refine (order_Order_pair.calls k4990 g4711 A4970 cp4972 x4969 mb4976 x4975 x4978 (List.replicate 64 (0 : Int)) ((rd_T53 l0 x4968).f0) ((rd_T53 l0 x4968).f1) ((rd_T53 l0 x4968).f2) t5009 t5010 t5011 t5012  (fun z_ => pal [(0, 0), (12, 1), (13, 2), (14, 3)] (C5002 z_)) w5005 (fun _ => pal_lt rfl _) (Bx.arg HJ4980 rfl) (Own.arg HJ4974 rfl rfl) HC4973 (Mp.arg HJ4977 rfl) HL4979 (List.length_replicate) A5013).mono ?_
     rintro _ w5015 ⟨C5016, A5018, cp5019, mb5022, rfl, hs5017, HO5020, HC5021, HM5023, HL5024, HX5025⟩
     refine ⟨_, rfl, ?_⟩
     replace HO5020 := Own.res (U := [(0, 0), (1, 12), (2, 13), (3, 14)]) (j := 13) HO5020 hs5017 (by rfl) (by decide) rfl rfl
     replace HM5023 := Mp.res (U := [(0, 0), (1, 12), (2, 13), (3, 14)]) (j := 14) HM5023 hs5017 (by rfl) (by decide) rfl
     replace HX5025 := Bx.res (U := [(0, 0), (1, 12), (2, 13), (3, 14)]) (j := 12) HX5025 hs5017 (by rfl) (by decide) rfl
     replace hs5017 := Step.lift (U := [(0, 0), (1, 12), (2, 13), (3, 14)]) hs5017 [12, 13, 14] rfl rfl
     generalize up C5002 C5016 w5005.heap.size [(0, 0), (1, 12), (2, 13), (3, 14)] = C5016_ at HO5020 HM5023 HX5025 hs5017
     replace HJ4967 := HJ4967.thru hs5017 rfl
     replace HX5006 := HX5006.thru hs5017 rfl
     replace HS4985 := HS4985.trans hs5017 hc rfl
     (try simp only [Act.put, List.setIfInBounds_toArray, ls0, ls1])
     refine st (.int .i64 t5009) rfl rfl (xr_assign _ rfl rfl) ?_
     refine wl_end ?_
     (try simp only [Act.put, List.setIfInBounds_toArray, ls0, ls1])
     refine hK5008 _ _ ?_
     (try clear hK5008 K5008)
     refine wp_seq_k fun K5026 hK5026 => ?_
     refine wl_region ?_
     refine st (.int .i64 t5009) rfl rfl (xr_move _ rfl rfl) ?_
     refine st (.bool (!decide (t5009 = 0))) rfl rfl (xr_bin _ _ _ rfl rfl rfl (B.neq_i64 _ _)) ?_
     refine wl_end ?_
     (try simp only [Act.put, List.setIfInBounds_toArray, ls0, ls1])
     refine hK5026 _ _ ?_
     (try clear hK5026 K5026)
     by_cases c5027 : t5009 = 0
     ·rw [if_pos c5027] at H
      (try rw [(decide_eq_true c5027)])
      (try simp only [Bool.not_true, Bool.not_false])
      refine wp_cond_false rfl ?_
      refine wp_skip ?_
      (try simp only [Act.put, List.setIfInBounds_toArray, ls0, ls1])
      refine hK4994 _ _ ?_
      (try clear hK4994 K4994)
      refine wl_region ?_
      refine st (.int .i64 (wrap64 (x4968 + 1))) rfl rfl (xr_bin _ _ _ rfl rfl rfl (B.add_i64 _ _)) ?_
      refine st (.int .i64 (wrap64 (x4968 + 1))) rfl rfl (xr_move _ rfl rfl) ?_
      refine wl_end ?_
      (try simp only [Act.put, List.setIfInBounds_toArray, ls0, ls1])
      exact ih4987 k4990 (by omega) _ _ ⟨_, wrap64 (x4968 + 1), t5012, A5018, t5010.length, cp5019, t5010, mb5022, t5011, (fun q_ => List.getD [undef, (g4981 1), undef, (g4981 3), (g4981 4), .int .i64 x4968, .pointer (some ⟨g5000, 0, none⟩), .int .i64 t5009, (g4981 8), (g4981 9), (g4981 10), (g4981 11), (g4981 12), undef, undef, undef, .bool true, .int .i64 x4968, .pointer (some (ad4997.add ((x4968 : Int).toNat * 3))), .agg #[.string ((rd_T53 l0 x4968).f0), .string ((rd_T53 l0 x4968).f1), .int .i64 ((rd_T53 l0 x4968).f2)], .pointer (some ⟨g4711, 0, none⟩), .agg #[.string ((rd_T53 l0 x4968).f0), .string ((rd_T53 l0 x4968).f1), .int .i64 ((rd_T53 l0 x4968).f2)], .int .i64 t5009, .int .i64 t5009, .bool false, (g4981 25), (g4981 26), .int .i64 (wrap64 (x4968 + 1)), (g4981 28), (g4981 29), (g4981 30), (g4981 31), (g4981 32), (g4981 33), (g4981 34), (g4981 35), (g4981 36), (g4981 37), (g4981 38), (g4981 39), (g4981 40), (g4981 41), (g4981 42), (g4981 43), (g4981 44), (g4981 45), (g4981 46), (g4981 47), (g4981 48), (g4981 49), (g4981 50), (g4981 51), (g4981 52), (g4981 53), (g4981 54), (g4981 55), (g4981 56), (g4981 57), (g4981 58), (g4981 59), (g4981 60)] q_ undef), rfl, HS4985, (by omega), HJ4967, HO5020, HC5021, HM5023, HL5024, HX5025, H⟩
     ·rw [if_neg c5027] at H
      (try rw [(decide_eq_false c5027)])
      (try simp only [Bool.not_true, Bool.not_false])
      refine wp_cond_true rfl ?_
      refine wp_seq_k fun K5028 hK5028 => ?_
      refine wl_region ?_
      refine st (.int .i64 x4968) rfl rfl (xr_move _ rfl rfl) ?_
      refine st (.int .i64 t5009) rfl rfl (xr_move _ rfl rfl) ?_
      refine st (.pointer none) rfl rfl (xr_assign _ rfl rfl) ?_
      refine st (.int .i64 x4968) rfl rfl (xr_assign _ rfl rfl) ?_
      simp only [ls0, ls1]
      refine st (.int .i64 t5009) rfl rfl (xr_assign _ rfl rfl) ?_
      refine wl_end ?_
      (try simp only [Act.put, List.setIfInBounds_toArray, ls0, ls1])
      refine hK5028 _ _ ?_
      (try clear hK5028 K5028)
      refine wp_ret ?_
      (try simp only [Exit.inBlock, Exit.then, Exit.noGoto])
      (try simp only [Act.put, List.setIfInBounds_toArray, ls0, ls1])
      simp only [Option.some.injEq, Prod.mk.injEq] at H
      obtain ⟨rfl, rfl, rfl⟩ := H
      refine bodyPost_ret (results_tmp3 rfl _ _ _) rfl ?_
      exact ⟨_, (.pointer none), rfl, HS4985, (ptr_nil _ _ _ _ _)⟩
    ·rw [if_neg c4996] at H
     exact absurd H (by simp)
   ·rw [if_neg c4993] at H
    (try rw [(decide_eq_false c4993)])
    (try simp only [Bool.not_true, Bool.not_false])
    refine wp_cond_false rfl ?_
    refine wp_exit ?_
    (try simp only [Act.put, List.setIfInBounds_toArray, ls0, ls1])
    refine hK4716 _ _ ?_
    (try clear hK4716 K4716)
    refine wp_seq_k fun K5029 hK5029 => ?_
    refine wl_region ?_
    refine st (.pointer (some ⟨g4711, 0, none⟩)) rfl rfl (xr_move _ rfl rfl) ?_
    obtain ⟨⟨t5030, t5031⟩, A5032, H⟩ := Option.bind_eq_some_iff.mp H
    (try dsimp only at H)
    refine st_call #[.pointer (some ⟨g4711, 0, none⟩)] rfl rfl Tryd.func51 (by kernel_rfl) rfl rfl (mp_ rfl) ?_
    refine (order_Order_close.calls k4990 g4711 A4970 cp4972 x4969 (.map (some mb4976)) x4975 x4978 (List.replicate 64 (0 : Int)) t5030 t5031  (fun z_ => pal [(0, 0), (12, 1), (13, 0), (14, 0)] (C4982 z_)) w4983 (fun _ => pal_lt rfl _) (Bx.arg HJ4980 rfl) (Ft.arg (HJ4974.ft) rfl) HC4973 (Ft.arg (HJ4977.ft) rfl) HL4979 (List.length_replicate) A5032).mono ?_
    rintro _ w5034 ⟨C5035, rfl, hs5036, HL5037, HL5038, HX5039⟩
    refine ⟨_, rfl, ?_⟩
    replace HX5039 := Bx.res (U := [(0, 0), (1, 12)]) (j := 12) HX5039 hs5036 (by rfl) (by decide) rfl
    replace hs5036 := Step.lift (U := [(0, 0), (1, 12)]) hs5036 [12] rfl rfl
    generalize up C4982 C5035 w4983.heap.size [(0, 0), (1, 12)] = C5035_ at HX5039 hs5036
    replace HJ4967 := HJ4967.thru hs5036 rfl
    replace HJ4974 := HJ4974.thru hs5036 rfl
    replace HJ4977 := HJ4977.thru hs5036 rfl
    replace HS4985 := HS4985.trans hs5036 hc rfl
    (try simp only [Act.put, List.setIfInBounds_toArray, ls0, ls1])
    refine wl_end ?_
    (try simp only [Act.put, List.setIfInBounds_toArray, ls0, ls1])
    refine hK5029 _ _ ?_
    (try clear hK5029 K5029)
    refine wp_seq_k fun K5040 hK5040 => ?_
    refine wp_seq_k fun K5041 hK5041 => ?_
    refine wl_region ?_
    refine st (.slice A0 l0.length c0) rfl rfl (xr_move _ rfl rfl) ?_
    refine st (.int .i64 (l0.length : Int)) rfl rfl (xr_builtin #[.slice A0 l0.length c0] (.int .i64 (l0.length : Int)) rfl (mp_ rfl) (by first | rfl | (go_simp; done) | (go_simp; rfl) | (go_simp; exact i64_w _) | (go_simp; exact i32_w _))) ?_
    refine st (.int .i64 0) rfl rfl (xr_move _ rfl rfl) ?_
    refine wl_end ?_
    (try simp only [Act.put, List.setIfInBounds_toArray, ls0, ls1])
    refine hK5041 _ _ ?_
    (try clear hK5041 K5041)
    refine wp_block ?_
    (try simp only [Act.put, List.setIfInBounds_toArray, ls0, ls1])
    refine wp_looped (looped_ind (fun kq5135 a_ w5134 => ∃ (C5133 : Nat → Nat) (x5128 : Int) (g5132 : Nat → Value), a_ = ⟨#[(g5132 0), (g5132 1), .pointer (some ⟨g4711, 0, none⟩), (g5132 3), (g5132 4), (g5132 5), (g5132 6), (g5132 7), (g5132 8), (g5132 9), (g5132 10), (g5132 11), (g5132 12), (g5132 13), (g5132 14), (g5132 15), (g5132 16), (g5132 17), (g5132 18), (g5132 19), (g5132 20), (g5132 21), (g5132 22), (g5132 23), (g5132 24), (g5132 25), (g5132 26), (g5132 27), (g5132 28), (g5132 29), .slice A0 l0.length c0, .int .i64 (l0.length : Int), .int .i64 x5128, (g5132 33), (g5132 34), (g5132 35), (g5132 36), (g5132 37), (g5132 38), (g5132 39), (g5132 40), (g5132 41), (g5132 42), (g5132 43), (g5132 44), (g5132 45), (g5132 46), (g5132 47), (g5132 48), (g5132 49), (g5132 50), (g5132 51), (g5132 52), (g5132 53), (g5132 54), (g5132 55), (g5132 56), (g5132 57), (g5132 58), (g5132 59), (g5132 60)], []⟩ ∧ Step c w C5133 w5134 [] ∧ kq5135 ≤ k4990 ∧ (Ft C5133 [0] w5134 (fun w_ => k53.C w_ A0 l0.length l0)) ∧ (Own C5133 13 w5134 Kd.string 9 (.slice A4970 x4969.length cp4972) x4969) ∧ (Mp Value.string (Value.int .i64) C5133 14 w5134 mb4976 x4975) ∧ (Bx C5133 12 w5134 g4711 81 ([.slice A4970 x4969.length cp4972, .map (some mb4976)] ++ (List.map (Value.int .u64) t5030 ++ (List.map (Value.int .u64) t5031)))) ∧ order_New.l0 kq5135 l0 t5030 t5031 x4969 x4975 x5128 = some (r1, r2, r3)) ?step k4990 _ _ ?init)
    case init =>
     exact ⟨_, 0, (fun q_ => List.getD [.slice A0 l0.length c0, (g4981 1), undef, (g4981 3), (g4981 4), (g4981 5), (g4981 6), (g4981 7), (g4981 8), (g4981 9), (g4981 10), (g4981 11), (g4981 12), .slice A0 l0.length c0, .int .i64 (l0.length : Int), .int .i64 x4968, .bool false, (g4981 17), (g4981 18), (g4981 19), (g4981 20), (g4981 21), (g4981 22), (g4981 23), (g4981 24), (g4981 25), (g4981 26), (g4981 27), .pointer (some ⟨g4711, 0, none⟩), .tuple #[], undef, undef, undef, (g4981 33), (g4981 34), (g4981 35), (g4981 36), (g4981 37), (g4981 38), (g4981 39), (g4981 40), (g4981 41), (g4981 42), (g4981 43), (g4981 44), (g4981 45), (g4981 46), (g4981 47), (g4981 48), (g4981 49), (g4981 50), (g4981 51), (g4981 52), (g4981 53), (g4981 54), (g4981 55), (g4981 56), (g4981 57), (g4981 58), (g4981 59), (g4981 60)] q_ undef), rfl, HS4985, Nat.le_refl _, HJ4967, HJ4974, HJ4977, HX5039, H⟩
    case step =>
     intro kq5135 ih5138 a5139 w5134 hr5140
     obtain ⟨C5133, x5128, g5132, rfl, HS5136, hk5137, HJ5127, HJ5129, HJ5130, HJ5131, H⟩ := hr5140
     refine looped_round ?_
     cases kq5135 with
     | zero => exact absurd H (by simp [order_New.l0])
     | succ k5141 =>
      simp only [order_New.l0] at H
      refine wp_seq_k fun K5142 hK5142 => ?_
      refine wl_region ?_
      refine st (.bool (decide (x5128 < (l0.length : Int)))) rfl rfl (xr_bin _ _ _ rfl rfl rfl (B.lss_i64 _ _)) ?_
      refine wl_end ?_
      (try simp only [Act.put, List.setIfInBounds_toArray, ls0, ls1])
      refine hK5142 _ _ ?_
      (try clear hK5142 K5142)
      refine wp_seq_k fun K5143 hK5143 => ?_
      by_cases c5144 : x5128 < (l0.length : Int)
      ·rw [if_pos c5144] at H
       (try rw [(decide_eq_true c5144)])
       (try simp only [Bool.not_true, Bool.not_false])
       refine wp_cond_true rfl ?_
       refine wp_skip ?_
       (try simp only [Act.put, List.setIfInBounds_toArray, ls0, ls1])
       refine hK5143 _ _ ?_
       (try clear hK5143 K5143)
       refine wp_seq_k fun K5145 hK5145 => ?_
       refine wp_block ?_
       refine wp_seq_k fun K5146 hK5146 => ?_
       refine wl_region ?_
       refine st (.int .i64 x5128) rfl rfl (xr_move _ rfl rfl) ?_
       by_cases c5147 : 0 ≤ x5128
       ·rw [if_pos c5147] at H
        obtain ⟨ad5148, hA5149⟩ := c_addr (Ft.now HJ5127) (pos_of (j := x5128) (by first | assumption | decide) (by first | assumption | omega))
        refine st (.pointer (some (ad5148.add ((x5128 : Int).toNat * 3)))) rfl rfl (xr_indexAddr _ _ _ rfl rfl rfl (index_at Tryd.underlying22 info53 hA5149 (by first | assumption | decide | omega) (by first | assumption | decide | omega))) ?_
        refine st (.agg #[.string ((rd_T53 l0 x5128).f0), .string ((rd_T53 l0 x5128).f1), .int .i64 ((rd_T53 l0 x5128).f2)]) rfl rfl (xr_load (.pointer (some (ad5148.add ((x5128 : Int).toNat * 3)))) (.agg #[.string ((rd_T53 l0 x5128).f0), .string ((rd_T53 l0 x5128).f1), .int .i64 ((rd_T53 l0 x5128).f2)]) rfl rfl (by obtain ⟨ad_, cs_, e_, _, hK_, hc_⟩ := Kd.C_get (Ft.now HJ5127) z53 x5128 (by first | assumption | decide | omega) (by first | assumption | decide | omega); rw [hA5149] at e_; injection e_ with e_; subst e_; obtain rfl := k53_open hK_; exact load_agg (cs := [.string ((rd_T53 l0 x5128).f0), .string ((rd_T53 l0 x5128).f1), .int .i64 ((rd_T53 l0 x5128).f2)]) Tryd.underlying53 rfl (by kernel_rfl) (fun j_ u_ hu_ => by first | (rw [add_add]; exact hc_ _ _ hu_) | exact add_cells hc_ hu_))) ?_
        refine bx_new (C := C5133) 53 ([.string (⟨#[]⟩ : ByteArray), .string (⟨#[]⟩ : ByteArray), .int .i64 0]) 15 rfl rfl (by first | (go_simp; done) | (go_simp; rfl)) ?_
        intro g5151 w5152 C5153 HX5154 hs5155
        replace HJ5127 := HJ5127.thru hs5155 rfl
        replace HJ5131 := HJ5131.thru hs5155 rfl
        replace HJ5129 := HJ5129.thru hs5155 rfl
        replace HJ5130 := HJ5130.thru hs5155 rfl
        replace HS5136 := HS5136.trans hs5155 hc rfl
        (try simp only [Act.put, List.setIfInBounds_toArray, ls0, ls1])
        refine st (.int .i64 x5128) rfl rfl (xr_assign _ rfl rfl) ?_
        refine bx_store (C := C5153) (z := 15) (g := g5151) (j := 0) (tb := 53) (u := .agg #[.string ((rd_T53 l0 x5128).f0), .string ((rd_T53 l0 x5128).f1), .int .i64 ((rd_T53 l0 x5128).f2)]) (seg := [.string ((rd_T53 l0 x5128).f0), .string ((rd_T53 l0 x5128).f1), .int .i64 ((rd_T53 l0 x5128).f2)]) (xs := [.string (⟨#[]⟩ : ByteArray), .string (⟨#[]⟩ : ByteArray), .int .i64 0]) rfl rfl rfl rfl rfl rfl (by first | kernel_rfl | rfl) (by simp [Value.oneCell']) HX5154 (by simp only [List.length_cons, List.length_nil]; omega) rfl ?_
        intro w5156 HX5157 hs5158
        replace HJ5127 := HJ5127.thru hs5158 rfl
        replace HJ5131 := HJ5131.thru hs5158 rfl
        replace HJ5129 := HJ5129.thru hs5158 rfl
        replace HJ5130 := HJ5130.thru hs5158 rfl
        replace HS5136 := HS5136.trans hs5158 hc rfl
        (try simp only [Act.put, List.setIfInBounds_toArray, ls0, ls1])
        refine wl_end ?_
        (try simp only [Act.put, List.setIfInBounds_toArray, ls0, ls1])
        refine hK5146 _ _ ?_
        (try clear hK5146 K5146)
        refine wp_seq_k fun K5159 hK5159 => ?_
        (try simp only [Act.put, List.setIfInBounds_toArray, ls0, ls1])
        refine al_start (lb 21 0) rfl rfl rfl (fun w_ => w_.heap[g4711]? = some (.cells (List.toArray ([.slice A4970 x4969.length cp4972, .map (some mb4976)] ++ (List.map (Value.int .u64) t5030 ++ (List.map (Value.int .u64) t5031)))) 81 (0, 0)) ∧ w_.heap[g5151]? = some (.cells (List.toArray ([.string ((rd_T53 l0 x5128).f0), .string ((rd_T53 l0 x5128).f1), .int .i64 ((rd_T53 l0 x5128).f2)])) 53 (0, 0)) ∧ Kd.MapIs Value.string (Value.int .i64) w_ mb4976 x4975) ⟨(HJ5131.drew).2, (HX5157.drew).2, (HJ5130.drew).2⟩ [] ?_
        replace HJ5127 := HJ5127.drew
        replace HJ5131 := HJ5131.drew
        replace HJ5129 := HJ5129.drew
        replace HJ5130 := HJ5130.drew
        replace HX5157 := HX5157.drew
        replace HS5136 := Step.ofDrew HS5136
        generalize w5156.drew = w5169 at *
        refine al_pure 0 37 (.pointer (some ⟨g5151, 1, none⟩)) (lb 21 1) rfl rfl (by kernel_rfl) (fun _ _ _ => id) rfl (fun w_ => xr_fieldAddr _ _ rfl rfl (bx_field2 Tryd.underlying53 rfl rfl (by kernel_rfl))) ?_
        refine al_take 1 38 (.string ((rd_T53 l0 x5128).f1)) (lb 21 3) rfl rfl (by kernel_rfl) (fun _ _ _ => id) rfl (fun w_ hS_ => xr_load _ _ rfl rfl (load_cell Tryd.underlying9 rfl (bx_cell hS_.2.1 1 rfl))) ⟨(HJ5131).2, (HX5157).2, (HJ5130).2⟩ ?_
        refine al_pure 2 39 (.bool (!decide (((rd_T53 l0 x5128).f1) = (⟨#[]⟩ : ByteArray)))) (lb 21 7) rfl rfl (by kernel_rfl) (fun _ _ _ => id) rfl (fun w_ => xr_bin _ _ _ rfl rfl rfl (B.neq_str _ _)) ?_
        refine al_pure 3 40 (.bool (!decide (((rd_T53 l0 x5128).f1) = (⟨#[]⟩ : ByteArray)))) (lb 21 15) rfl rfl (by kernel_rfl) (fun _ _ _ => id) rfl (fun w_ => xr_move _ rfl rfl) ?_
        simp only [ls0, ls1]
        by_cases c5170 : ((rd_T53 l0 x5128).f1) = (⟨#[]⟩ : ByteArray)
        ·rw [if_pos c5170] at H
         (try rw [(decide_eq_true c5170)])
         (try simp only [Bool.not_true, Bool.not_false])
         refine al_off 4 41 (lb 21 31) rfl rfl (by kernel_rfl) (fun _ _ _ => id) (guard_off 3 true 40 rfl rfl false (by decide) rfl) ?_
         refine al_off 5 42 (lb 21 63) rfl rfl (by kernel_rfl) (fun _ _ _ => id) (guard_off 3 true 40 rfl rfl false (by decide) rfl) ?_
         refine al_off 6 43 (lb 21 127) rfl rfl (by kernel_rfl) (fun _ _ _ => id) (guard_off 3 true 40 rfl rfl false (by decide) rfl) ?_
         refine al_off 7 44 (lb 21 255) rfl rfl (by kernel_rfl) (fun _ _ _ => id) (guard_off 3 true 40 rfl rfl false (by decide) rfl) ?_
         simp only [ls0, ls1]
         refine al_off 8 45 (lb 21 511) rfl rfl (by kernel_rfl) (fun _ _ _ => id) (guard_off 3 true 40 rfl rfl false (by decide) rfl) ?_
         refine al_off 9 46 (lb 21 1023) rfl rfl (by kernel_rfl) (fun _ _ _ => id) (guard_off 3 true 40 rfl rfl false (by decide) rfl) ?_
         refine al_off 10 47 (lb 21 2047) rfl rfl (by kernel_rfl) (fun _ _ _ => id) (guard_off 3 true 40 rfl rfl false (by decide) rfl) ?_
         refine al_off 11 48 (lb 21 4095) rfl rfl (by kernel_rfl) (fun _ _ _ => id) (guard_off 3 true 40 rfl rfl false (by decide) rfl) ?_
         simp only [ls0, ls1]
         refine al_off 12 49 (lb 21 8191) rfl rfl (by kernel_rfl) (fun _ _ _ => id) (guard_off 3 true 40 rfl rfl false (by decide) rfl) ?_
         refine al_off 13 50 (lb 21 16383) rfl rfl (by kernel_rfl) (fun _ _ _ => id) (guard_off 3 true 40 rfl rfl false (by decide) rfl) ?_
         refine al_off 14 51 (lb 21 32767) rfl rfl (by kernel_rfl) (fun _ _ _ => id) (guard_off 3 true 40 rfl rfl false (by decide) rfl) ?_
         refine al_off 15 52 (lb 21 65535) rfl rfl (by kernel_rfl) (fun _ _ _ => id) (guard_off 3 true 40 rfl rfl false (by decide) rfl) ?_
         simp only [ls0, ls1]
         refine al_off 16 53 (lb 21 131071) rfl rfl (by kernel_rfl) (fun _ _ _ => id) (guard_off 3 true 40 rfl rfl false (by decide) rfl) ?_
         refine al_off 17 54 (lb 21 262143) rfl rfl (by kernel_rfl) (fun _ _ _ => id) (guard_off 3 true 40 rfl rfl false (by decide) rfl) ?_
         refine al_off 18 55 (lb 21 524287) rfl rfl (by kernel_rfl) (fun _ _ _ => id) (guard_off 3 true 40 rfl rfl false (by decide) rfl) ?_
         refine al_off 19 56 (lb 21 1048575) rfl rfl (by kernel_rfl) (fun _ _ _ => id) (guard_off 3 true 40 rfl rfl false (by decide) rfl) ?_
         simp only [ls0, ls1]
         refine al_pure 20 57 (.bool false) (lb 21 2097151) rfl rfl (by kernel_rfl) (fun _ _ _ => id) rfl (fun w_ => xr_pick false _ rfl rfl rfl) ?_
         refine al_end (by kernel_rfl) ?_
         (try simp only [Act.put, List.setIfInBounds_toArray, ls0, ls1])
         refine hK5159 _ _ ?_
         (try clear hK5159 K5159)
         refine wp_cond_false rfl ?_
         refine wp_skip ?_
         (try simp only [Act.put, List.setIfInBounds_toArray, ls0, ls1])
         refine hK5145 _ _ ?_
         (try clear hK5145 K5145)
         refine wl_region ?_
         refine st (.int .i64 (wrap64 (x5128 + 1))) rfl rfl (xr_bin _ _ _ rfl rfl rfl (B.add_i64 _ _)) ?_
         refine st (.int .i64 (wrap64 (x5128 + 1))) rfl rfl (xr_move _ rfl rfl) ?_
         refine wl_end ?_
         (try simp only [Act.put, List.setIfInBounds_toArray, ls0, ls1])
         exact ih5138 k5141 (by omega) _ _ ⟨_, wrap64 (x5128 + 1), (fun q_ => List.getD [(g5132 0), (g5132 1), undef, (g5132 3), (g5132 4), (g5132 5), (g5132 6), (g5132 7), .int .i64 x5128, .pointer (some ⟨g5151, 0, none⟩), (g5132 10), (g5132 11), (g5132 12), (g5132 13), (g5132 14), (g5132 15), (g5132 16), (g5132 17), (g5132 18), (g5132 19), (g5132 20), (g5132 21), (g5132 22), (g5132 23), (g5132 24), (g5132 25), (g5132 26), (g5132 27), (g5132 28), (g5132 29), undef, undef, undef, .bool true, .int .i64 x5128, .pointer (some (ad5148.add ((x5128 : Int).toNat * 3))), .agg #[.string ((rd_T53 l0 x5128).f0), .string ((rd_T53 l0 x5128).f1), .int .i64 ((rd_T53 l0 x5128).f2)], .pointer (some ⟨g5151, 1, none⟩), .string ((rd_T53 l0 x5128).f1), .bool false, .bool false, undef, undef, undef, undef, undef, undef, undef, undef, undef, undef, undef, undef, undef, undef, undef, undef, .bool false, (g5132 58), .int .i64 (wrap64 (x5128 + 1)), (g5132 60)] q_ undef), rfl, HS5136, (by omega), HJ5127, HJ5129, HJ5130, HJ5131, H⟩
        ·rw [if_neg c5170] at H
         (try rw [(decide_eq_false c5170)])
         (try simp only [Bool.not_true, Bool.not_false])
         refine al_pure 4 41 (.pointer (some ⟨g4711, 0, none⟩)) (lb 21 31) rfl rfl (by kernel_rfl) (fun _ _ _ => id) (guard_on 3 true 40 rfl rfl rfl) (fun w_ => xr_move _ rfl rfl) ?_
         refine al_pure 5 42 (.pointer (some ⟨g4711, 0, none⟩)) (lb 21 63) rfl rfl (by kernel_rfl) (fun _ _ _ => id) (guard_on 3 true 40 rfl rfl rfl) (fun w_ => xr_move _ rfl rfl) ?_
         refine al_pure 6 43 (.pointer (some ⟨g4711, 0, none⟩)) (lb 21 127) rfl rfl (by kernel_rfl) (fun _ _ _ => id) (guard_on 3 true 40 rfl rfl rfl) (fun w_ => xr_nilCheck _ rfl rfl) ?_
         refine al_pure 7 44 (.pointer (some ⟨g4711, 1, none⟩)) (lb 21 255) rfl rfl (by kernel_rfl) (fun _ _ _ => id) (guard_on 3 true 40 rfl rfl rfl) (fun w_ => xr_fieldAddr _ _ rfl rfl (bx_field2 Tryd.underlying81 rfl rfl (by kernel_rfl))) ?_
         simp only [ls0, ls1]
         refine al_pure 9 46 (.pointer (some ⟨g5151, 1, none⟩)) (lb 21 767) rfl rfl (by kernel_rfl) (fun _ _ _ => id) (guard_on 3 true 40 rfl rfl rfl) (fun w_ => xr_fieldAddr _ _ rfl rfl (bx_field2 Tryd.underlying53 rfl rfl (by kernel_rfl))) ?_
         refine al_pure 12 49 (.pointer (some ⟨g4711, 0, none⟩)) (lb 21 4863) rfl rfl (by kernel_rfl) (fun _ _ _ => id) (guard_on 3 true 40 rfl rfl rfl) (fun w_ => xr_move _ rfl rfl) ?_
         refine al_pure 13 50 (.pointer (some ⟨g4711, 0, none⟩)) (lb 21 13055) rfl rfl (by kernel_rfl) (fun _ _ _ => id) (guard_on 3 true 40 rfl rfl rfl) (fun w_ => xr_nilCheck _ rfl rfl) ?_
         refine al_pure 14 51 (.pointer (some ⟨g4711, 1, none⟩)) (lb 21 29439) rfl rfl (by kernel_rfl) (fun _ _ _ => id) (guard_on 3 true 40 rfl rfl rfl) (fun w_ => xr_fieldAddr _ _ rfl rfl (bx_field2 Tryd.underlying81 rfl rfl (by kernel_rfl))) ?_
         simp only [ls0, ls1]
         refine al_pure 16 53 (.pointer (some ⟨g5151, 0, none⟩)) (lb 21 94975) rfl rfl (by kernel_rfl) (fun _ _ _ => id) (guard_on 3 true 40 rfl rfl rfl) (fun w_ => xr_fieldAddr _ _ rfl rfl (bx_field2 Tryd.underlying53 rfl rfl (by kernel_rfl))) ?_
         refine al_take 8 45 (.map (some mb4976)) (lb 21 95231) rfl rfl (by kernel_rfl) (fun _ _ _ => id) (guard_on 3 true 40 rfl rfl rfl) (fun w_ hS_ => xr_load _ _ rfl rfl (load_cell Tryd.underlying78 rfl (bx_cell hS_.1 1 rfl))) ⟨(HJ5131).2, (HX5157).2, (HJ5130).2⟩ ?_
         refine al_take 10 47 (.string ((rd_T53 l0 x5128).f1)) (lb 21 96255) rfl rfl (by kernel_rfl) (fun _ _ _ => id) (guard_on 3 true 40 rfl rfl rfl) (fun w_ hS_ => xr_load _ _ rfl rfl (load_cell Tryd.underlying9 rfl (bx_cell hS_.2.1 1 rfl))) ⟨(HJ5131).2, (HX5157).2, (HJ5130).2⟩ ?_
         refine al_take 11 48 (.int .i64 (mget 0 x4975 ((rd_T53 l0 x5128).f1))) (lb 21 98303) rfl rfl (by kernel_rfl) (fun _ _ _ => id) (guard_on 3 true 40 rfl rfl rfl) (fun w_ hS_ => xr_lookup (.map (some mb4976)) (.string ((rd_T53 l0 x5128).f1)) (.int .i64 (mget 0 x4975 ((rd_T53 l0 x5128).f1))) rfl rfl rfl (look_map (z := 0) (keyK_str Tryd.underlying9) Tryd.underlying78 info3 hS_.2.2 ((rd_T53 l0 x5128).f1) false)) ⟨(HJ5131).2, (HX5157).2, (HJ5130).2⟩ ?_
         simp only [ls0, ls1]
         refine al_take 15 52 (.map (some mb4976)) (lb 21 131071) rfl rfl (by kernel_rfl) (fun _ _ _ => id) (guard_on 3 true 40 rfl rfl rfl) (fun w_ hS_ => xr_load _ _ rfl rfl (load_cell Tryd.underlying78 rfl (bx_cell hS_.1 1 rfl))) ⟨(HJ5131).2, (HX5157).2, (HJ5130).2⟩ ?_
         refine al_take 17 54 (.string ((rd_T53 l0 x5128).f0)) (lb 21 262143) rfl rfl (by kernel_rfl) (fun _ _ _ => id) (guard_on 3 true 40 rfl rfl rfl) (fun w_ hS_ => xr_load _ _ rfl rfl (load_cell Tryd.underlying9 rfl (bx_cell hS_.2.1 0 rfl))) ⟨(HJ5131).2, (HX5157).2, (HJ5130).2⟩ ?_
         refine al_take 18 55 (.int .i64 (mget 0 x4975 ((rd_T53 l0 x5128).f0))) (lb 21 524287) rfl rfl (by kernel_rfl) (fun _ _ _ => id) (guard_on 3 true 40 rfl rfl rfl) (fun w_ hS_ => xr_lookup (.map (some mb4976)) (.string ((rd_T53 l0 x5128).f0)) (.int .i64 (mget 0 x4975 ((rd_T53 l0 x5128).f0))) rfl rfl rfl (look_map (z := 0) (keyK_str Tryd.underlying9) Tryd.underlying78 info3 hS_.2.2 ((rd_T53 l0 x5128).f0) false)) ⟨(HJ5131).2, (HX5157).2, (HJ5130).2⟩ ?_
         have HP5171 : Ft C5153 [0, 12, 13, 14] w5169 (fun w_ => (Kd.ptr 81 k81).K w_ (some (⟨x4969, x4975, t5030, t5031⟩ : S81)) [.pointer (some ⟨g4711, 0, none⟩)]) := ptr_mk (Ft.more (HJ5131.ft) rfl) (k81_mkF _ _ (⟨x4969, x4975, t5030, t5031⟩ : S81) HC4973 (Ft.more (HJ5129.ft) rfl) (Ft.more (HJ5130.ft) rfl) HL5037 HL5038)
         obtain ⟨t5172, A5173, H⟩ := Option.bind_eq_some_iff.mp H
         (try dsimp only at H)
         refine al_one 19 (lb 21 1048575) rfl rfl (by kernel_rfl) rfl (fun K_ hK_ => ?_)
         refine goes_ Tryd.func24 (by kernel_rfl) rfl #[.pointer (some ⟨g4711, 0, none⟩), .int .i64 (mget 0 x4975 ((rd_T53 l0 x5128).f1)), .int .i64 (mget 0 x4975 ((rd_T53 l0 x5128).f0))] (guard_on 3 true 40 rfl rfl rfl) rfl rfl (mpe_ rfl) ?_
         refine (order_Order_Most.calls (.pointer (some ⟨g4711, 0, none⟩)) (some (⟨x4969, x4975, t5030, t5031⟩ : S81) : Option S81) (mget 0 x4975 ((rd_T53 l0 x5128).f1)) (mget 0 x4975 ((rd_T53 l0 x5128).f0)) t5172  (fun z_ => pal [(0, 0), (12, 0), (13, 0), (14, 0)] (C5153 z_)) w5169 (fun _ => pal_lt rfl _) (Ft.arg HP5171 rfl) A5173).mono ?_
         rintro _ w5175 ⟨C5176, rfl, hs5177⟩
         refine ⟨_, rfl, ?_⟩
         replace hs5177 := Step.lift (U := [(0, 0)]) hs5177 [] rfl rfl
         generalize up C5153 C5176 w5169.heap.size [(0, 0)] = C5176_ at hs5177
         replace HJ5127 := HJ5127.thru hs5177 rfl
         replace HJ5131 := HJ5131.thru hs5177 rfl
         replace HJ5129 := HJ5129.thru hs5177 rfl
         replace HJ5130 := HJ5130.thru hs5177 rfl
         replace HX5157 := HX5157.thru hs5177 rfl
         replace HS5136 := HS5136.trans hs5177 hc rfl
         refine hK_ _ _ ⟨(HJ5131).2, (HX5157).2, (HJ5130).2⟩ ?_
         clear hK_ K_
         (try simp only [Act.put, List.setIfInBounds_toArray, ls0, ls1])
         refine al_pure 20 57 (.bool t5172) (lb 21 2097151) rfl rfl (by kernel_rfl) (fun _ _ _ => id) rfl (fun w_ => xr_pick true _ rfl rfl rfl) ?_
         refine al_end (by kernel_rfl) ?_
         (try simp only [Act.put, List.setIfInBounds_toArray, ls0, ls1])
         refine hK5159 _ _ ?_
         (try clear hK5159 K5159)
         by_cases c5178 : t5172 = true
         ·rw [if_pos c5178] at H
          (try rw [c5178])
          (try simp only [Bool.not_true, Bool.not_false])
          refine wp_cond_true rfl ?_
          refine wp_seq_k fun K5179 hK5179 => ?_
          refine wl_region ?_
          refine st (.int .i64 x5128) rfl rfl (xr_move _ rfl rfl) ?_
          refine st (.pointer none) rfl rfl (xr_assign _ rfl rfl) ?_
          refine st (.int .i64 x5128) rfl rfl (xr_assign _ rfl rfl) ?_
          refine st (.int .i64 16) rfl rfl (xr_assign _ rfl rfl) ?_
          simp only [ls0, ls1]
          refine wl_end ?_
          (try simp only [Act.put, List.setIfInBounds_toArray, ls0, ls1])
          refine hK5179 _ _ ?_
          (try clear hK5179 K5179)
          refine wp_ret ?_
          (try simp only [Exit.inBlock, Exit.then, Exit.noGoto])
          (try simp only [Act.put, List.setIfInBounds_toArray, ls0, ls1])
          simp only [Option.some.injEq, Prod.mk.injEq] at H
          obtain ⟨rfl, rfl, rfl⟩ := H
          refine bodyPost_ret (results_tmp3 rfl _ _ _) rfl ?_
          exact ⟨_, (.pointer none), rfl, HS5136, (ptr_nil _ _ _ _ _)⟩
         ·rw [if_neg c5178] at H
          (try rw [(Bool.eq_false_iff.mpr c5178)])
          (try simp only [Bool.not_true, Bool.not_false])
          refine wp_cond_false rfl ?_
          refine wp_skip ?_
          (try simp only [Act.put, List.setIfInBounds_toArray, ls0, ls1])
          refine hK5145 _ _ ?_
          (try clear hK5145 K5145)
          refine wl_region ?_
          refine st (.int .i64 (wrap64 (x5128 + 1))) rfl rfl (xr_bin _ _ _ rfl rfl rfl (B.add_i64 _ _)) ?_
          refine st (.int .i64 (wrap64 (x5128 + 1))) rfl rfl (xr_move _ rfl rfl) ?_
          refine wl_end ?_
          (try simp only [Act.put, List.setIfInBounds_toArray, ls0, ls1])
          exact ih5138 k5141 (by omega) _ _ ⟨_, wrap64 (x5128 + 1), (fun q_ => List.getD [(g5132 0), (g5132 1), undef, (g5132 3), (g5132 4), (g5132 5), (g5132 6), (g5132 7), .int .i64 x5128, .pointer (some ⟨g5151, 0, none⟩), (g5132 10), (g5132 11), (g5132 12), (g5132 13), (g5132 14), (g5132 15), (g5132 16), (g5132 17), (g5132 18), (g5132 19), (g5132 20), (g5132 21), (g5132 22), (g5132 23), (g5132 24), (g5132 25), (g5132 26), (g5132 27), (g5132 28), (g5132 29), undef, undef, undef, .bool true, .int .i64 x5128, .pointer (some (ad5148.add ((x5128 : Int).toNat * 3))), .agg #[.string ((rd_T53 l0 x5128).f0), .string ((rd_T53 l0 x5128).f1), .int .i64 ((rd_T53 l0 x5128).f2)], .pointer (some ⟨g5151, 1, none⟩), .string ((rd_T53 l0 x5128).f1), .bool true, .bool true, .pointer (some ⟨g4711, 0, none⟩), .pointer (some ⟨g4711, 0, none⟩), .pointer (some ⟨g4711, 0, none⟩), .pointer (some ⟨g4711, 1, none⟩), .map (some mb4976), .pointer (some ⟨g5151, 1, none⟩), .string ((rd_T53 l0 x5128).f1), .int .i64 (mget 0 x4975 ((rd_T53 l0 x5128).f1)), .pointer (some ⟨g4711, 0, none⟩), .pointer (some ⟨g4711, 0, none⟩), .pointer (some ⟨g4711, 1, none⟩), .map (some mb4976), .pointer (some ⟨g5151, 0, none⟩), .string ((rd_T53 l0 x5128).f0), .int .i64 (mget 0 x4975 ((rd_T53 l0 x5128).f0)), .bool false, .bool false, (g5132 58), .int .i64 (wrap64 (x5128 + 1)), (g5132 60)] q_ undef), rfl, HS5136, (by omega), HJ5127, HJ5129, HJ5130, HJ5131, H⟩
       ·rw [if_neg c5147] at H
        exact absurd H (by simp)
      ·rw [if_neg c5144] at H
       (try rw [(decide_eq_false c5144)])
       (try simp only [Bool.not_true, Bool.not_false])
       refine wp_cond_false rfl ?_
       refine wp_exit ?_
       (try simp only [Act.put, List.setIfInBounds_toArray, ls0, ls1])
       refine hK5040 _ _ ?_
       (try clear hK5040 K5040)
       refine wp_seq_k fun K5180 hK5180 => ?_
       refine wl_region ?_
       refine st (.pointer (some ⟨g4711, 0, none⟩)) rfl rfl (xr_move _ rfl rfl) ?_
       refine st (.pointer (some ⟨g4711, 0, none⟩)) rfl rfl (xr_assign _ rfl rfl) ?_
       refine st (.int .i64 0) rfl rfl (xr_assign _ rfl rfl) ?_
       refine st (.int .i64 0) rfl rfl (xr_assign _ rfl rfl) ?_
       simp only [ls0, ls1]
       refine wl_end ?_
       (try simp only [Act.put, List.setIfInBounds_toArray, ls0, ls1])
       refine hK5180 _ _ ?_
       (try clear hK5180 K5180)
       refine wp_ret ?_
       (try simp only [Exit.inBlock, Exit.then, Exit.noGoto])
       (try simp only [Act.put, List.setIfInBounds_toArray, ls0, ls1])
       replace HJ5127 := Ft.recol (a := 12) (b := 0) HJ5127 (.inl rfl)
       have HX5181 := Ft.recolor (a := 12) (b := 0) (HJ5131.ft) [0] rfl
       replace HJ5129 := Own.recol (a := 12) (b := 0) HJ5129 (by decide) (by decide)
       replace HJ5130 := Mp.recol (x := 12) (y := 0) HJ5130 (by decide)
       replace HS5136 := Step.recol (a := 12) (b := 0) HS5136 hc (by decide)
       replace HJ5127 := Ft.recol (a := 13) (b := 0) HJ5127 (.inl rfl)
       replace HX5181 := Ft.recol (a := 13) (b := 0) HX5181 (.inl rfl)
       have HR5182 := Ft.recolor (a := 13) (b := 0) (HJ5129.ft) [0] rfl
       replace HJ5130 := Mp.recol (x := 13) (y := 0) HJ5130 (by decide)
       replace HS5136 := Step.recol (a := 13) (b := 0) HS5136 hc (by decide)
       replace HJ5127 := Ft.recol (a := 14) (b := 0) HJ5127 (.inl rfl)
       replace HX5181 := Ft.recol (a := 14) (b := 0) HX5181 (.inl rfl)
       replace HR5182 := Ft.recol (a := 14) (b := 0) HR5182 (.inl rfl)
       have HR5183 := Ft.recolor (a := 14) (b := 0) (HJ5130.ft) [0] rfl
       replace HS5136 := Step.recol (a := 14) (b := 0) HS5136 hc (by decide)
       have HP5184 : Ft (recol (recol (recol C5133 12 0) 13 0) 14 0) [0] w5134 (fun w_ => (Kd.ptr 81 k81).K w_ (some (⟨x4969, x4975, t5030, t5031⟩ : S81)) [.pointer (some ⟨g4711, 0, none⟩)]) := ptr_mk (Ft.more HX5181 rfl) (k81_mkF _ _ (⟨x4969, x4975, t5030, t5031⟩ : S81) HC4973 (Ft.more HR5182 rfl) (Ft.more HR5183 rfl) HL5037 HL5038)
       simp only [Option.some.injEq, Prod.mk.injEq] at H
       obtain ⟨rfl, rfl, rfl⟩ := H
       refine bodyPost_ret (results_tmp3 rfl _ _ _) rfl ?_
       exact ⟨_, (.pointer (some ⟨g4711, 0, none⟩)), rfl, HS5136, HP5184⟩

/-! ### bits_TrailingZeros64: function 92 -/
def bits_TrailingZeros64.f (a0 : Int) : Option (Int) := if a0 = 0 then (some 64) else (if 0 ≤ (shr .u64 (IntKind.u64.wrap ((Go.bits .and .u64 a0 (IntKind.u64.wrap (-a0))) * 285870213051353865)) 58) then (if (shr .u64 (IntKind.u64.wrap ((Go.bits .and .u64 a0 (IntKind.u64.wrap (-a0))) * 285870213051353865)) 58) < 64 then (some (wrap64 (List.getD deB ((shr .u64 (IntKind.u64.wrap ((Go.bits .and .u64 a0 (IntKind.u64.wrap (-a0))) * 285870213051353865)) 58 : Int).toNat) 0))) else (none)) else (none))
set_option maxHeartbeats 2000000 in
set_option maxRecDepth 100000 in
theorem bits_TrailingZeros64.calls (a0 : Int) (r : Int) (c : Nat → Nat) (w : World) (hc : ∀ k, c k < 10) (HG : Ft c [0] w GTab) (H : bits_TrailingZeros64.f a0 = some r) :
    Calls Tryd.prog 92 #[.int .u64 a0] w fun e w' => ∃ (c' : Nat → Nat) , e = .returned (.int .i64 r) ∧ Step c w c' w' [] := by
 unfold bits_TrailingZeros64.f at H
 have HS := Step.refl c w []
 go_enter Tryd.func92, Tryd.ntmps92
 refine wp_seq_k fun K5201 hK5201 => ?_
 refine wl_region ?_
 refine st (.int .i64 0) rfl rfl (xr_assign _ rfl rfl) ?_
 refine wl_end ?_
 (try simp only [Act.put, List.setIfInBounds_toArray, ls0, ls1])
 refine hK5201 _ _ ?_
 (try clear hK5201 K5201)
 refine wp_seq_k fun K5202 hK5202 => ?_
 refine wp_seq_k fun K5203 hK5203 => ?_
 refine wl_region ?_
 refine st (.int .u64 a0) rfl rfl (xr_move _ rfl rfl) ?_
 refine st (.bool (decide (a0 = 0))) rfl rfl (xr_bin _ _ _ rfl rfl rfl (B.eql_u64 _ _)) ?_
 refine wl_end ?_
 (try simp only [Act.put, List.setIfInBounds_toArray, ls0, ls1])
 refine hK5203 _ _ ?_
 (try clear hK5203 K5203)
 by_cases c5204 : a0 = 0
 ·rw [if_pos c5204] at H
  (try rw [(decide_eq_true c5204)])
  (try simp only [Bool.not_true, Bool.not_false])
  refine wp_cond_true rfl ?_
  refine wp_seq_k fun K5205 hK5205 => ?_
  refine wl_region ?_
  refine st (.int .i64 64) rfl rfl (xr_assign _ rfl rfl) ?_
  refine wl_end ?_
  (try simp only [Act.put, List.setIfInBounds_toArray, ls0, ls1])
  refine hK5205 _ _ ?_
  (try clear hK5205 K5205)
  refine wp_ret ?_
  (try simp only [Exit.inBlock, Exit.then, Exit.noGoto])
  (try simp only [Act.put, List.setIfInBounds_toArray, ls0, ls1])
  obtain rfl := Option.some.inj H
  refine bodyPost_ret (results_tmp rfl _ _ _) rfl ?_
  exact ⟨_, rfl, HS⟩
 ·rw [if_neg c5204] at H
  (try rw [(decide_eq_false c5204)])
  (try simp only [Bool.not_true, Bool.not_false])
  refine wp_cond_false rfl ?_
  refine wp_skip ?_
  (try simp only [Act.put, List.setIfInBounds_toArray, ls0, ls1])
  refine hK5202 _ _ ?_
  (try clear hK5202 K5202)
  refine wp_seq_k fun K5206 hK5206 => ?_
  refine wl_region ?_
  refine st (.int .u64 a0) rfl rfl (xr_move _ rfl rfl) ?_
  refine st (.int .u64 a0) rfl rfl (xr_move _ rfl rfl) ?_
  refine st (.int .u64 (IntKind.u64.wrap (-a0))) rfl rfl (xr_un (.int .u64 a0) _ rfl rfl (by first | rfl | (go_simp; done) | (go_simp; rfl) | (go_simp; exact i64_w _) | (go_simp; exact i32_w _))) ?_
  refine st (.int .u64 (Go.bits .and .u64 a0 (IntKind.u64.wrap (-a0)))) rfl rfl (xr_bin _ _ _ rfl rfl rfl (B.and_u64 _ _)) ?_
  simp only [ls0, ls1]
  refine st (.int .u64 (IntKind.u64.wrap ((Go.bits .and .u64 a0 (IntKind.u64.wrap (-a0))) * 285870213051353865))) rfl rfl (xr_bin _ _ _ rfl rfl rfl (B.mul_u64 _ _)) ?_
  refine st (.int .u64 (shr .u64 (IntKind.u64.wrap ((Go.bits .and .u64 a0 (IntKind.u64.wrap (-a0))) * 285870213051353865)) 58)) rfl rfl (xr_bin _ _ _ rfl rfl rfl (B.shr_u64_u64 _ _ (by decide))) ?_
  by_cases c5207 : 0 ≤ (shr .u64 (IntKind.u64.wrap ((Go.bits .and .u64 a0 (IntKind.u64.wrap (-a0))) * 285870213051353865)) 58)
  ·rw [if_pos c5207] at H
   by_cases c5208 : (shr .u64 (IntKind.u64.wrap ((Go.bits .and .u64 a0 (IntKind.u64.wrap (-a0))) * 285870213051353865)) 58) < 64
   ·rw [if_pos c5208] at H
    refine st (.pointer (some ⟨0, 0 + (shr .u64 (IntKind.u64.wrap ((Go.bits .and .u64 a0 (IntKind.u64.wrap (-a0))) * 285870213051353865)) 58 : Int).toNat, none⟩)) rfl rfl (xr_indexAddr (.pointer (some ⟨0, 0, none⟩)) (.int .u64 (shr .u64 (IntKind.u64.wrap ((Go.bits .and .u64 a0 (IntKind.u64.wrap (-a0))) * 285870213051353865)) 58)) (.pointer (some ⟨0, 0 + (shr .u64 (IntKind.u64.wrap ((Go.bits .and .u64 a0 (IntKind.u64.wrap (-a0))) * 285870213051353865)) 58 : Int).toNat, none⟩)) rfl rfl rfl (arr_index (sz := 1) Tryd.underlying137 (by kernel_rfl) (by first | assumption | decide | omega) (by first | assumption | decide | omega) (by omega))) ?_
    refine st (.int .u8 (List.getD deB ((shr .u64 (IntKind.u64.wrap ((Go.bits .and .u64 a0 (IntKind.u64.wrap (-a0))) * 285870213051353865)) 58 : Int).toNat) 0)) rfl rfl (xr_load (.pointer (some ⟨0, 0 + (shr .u64 (IntKind.u64.wrap ((Go.bits .and .u64 a0 (IntKind.u64.wrap (-a0))) * 285870213051353865)) 58 : Int).toNat, none⟩)) (.int .u8 (List.getD deB ((shr .u64 (IntKind.u64.wrap ((Go.bits .and .u64 a0 (IntKind.u64.wrap (-a0))) * 285870213051353865)) 58 : Int).toNat) 0)) rfl rfl (tab_load Tryd.underlying5 rfl (Ft.now HG) (by omega) (by omega))) ?_
    simp only [ls0, ls1]
    refine st (.int .i64 (wrap64 (List.getD deB ((shr .u64 (IntKind.u64.wrap ((Go.bits .and .u64 a0 (IntKind.u64.wrap (-a0))) * 285870213051353865)) 58 : Int).toNat) 0))) rfl rfl (xr_conv (.int .u8 (List.getD deB ((shr .u64 (IntKind.u64.wrap ((Go.bits .and .u64 a0 (IntKind.u64.wrap (-a0))) * 285870213051353865)) 58 : Int).toNat) 0)) _ rfl rfl (by first | rfl | (go_simp; done) | (go_simp; rfl) | (go_simp; exact i64_w _) | (go_simp; exact i32_w _))) ?_
    refine st (.int .i64 (wrap64 (List.getD deB ((shr .u64 (IntKind.u64.wrap ((Go.bits .and .u64 a0 (IntKind.u64.wrap (-a0))) * 285870213051353865)) 58 : Int).toNat) 0))) rfl rfl (xr_assign _ rfl rfl) ?_
    refine wl_end ?_
    (try simp only [Act.put, List.setIfInBounds_toArray, ls0, ls1])
    refine hK5206 _ _ ?_
    (try clear hK5206 K5206)
    refine wp_ret ?_
    (try simp only [Exit.inBlock, Exit.then, Exit.noGoto])
    (try simp only [Act.put, List.setIfInBounds_toArray, ls0, ls1])
    obtain rfl := Option.some.inj H
    refine bodyPost_ret (results_tmp rfl _ _ _) rfl ?_
    exact ⟨_, rfl, HS⟩
   ·rw [if_neg c5208] at H
    exact absurd H (by simp)
  ·rw [if_neg c5207] at H
   exact absurd H (by simp)

/-! ### order_Order_Above: function 79 -/
def order_Order_Above.f (x0 : Option S81) (a1 : Int) : Option (Int) := (order_Order_in.f x0 a1).bind fun t5232 => (if t5232 = true then (onOpt x0 (none) (fun o5240 => (if 0 ≤ a1 then (if a1 < 64 then (some (List.getD o5240.f2 ((a1 : Int).toNat) 0)) else (none)) else (none)))) else (some 0))
set_option maxHeartbeats 2000000 in
set_option maxRecDepth 100000 in
theorem order_Order_Above.calls (v0 : Value) (x0 : Option S81) (a1 : Int) (r : Int) (c : Nat → Nat) (w : World) (hc : ∀ k, c k < 10) (HP0 : Ft c [0] w (fun w_ => (Kd.ptr 81 k81).K w_ x0 [v0])) (H : order_Order_Above.f x0 a1 = some r) :
    Calls Tryd.prog 79 #[v0, .int .i64 a1] w fun e w' => ∃ (c' : Nat → Nat) , e = .returned (.int .u64 r) ∧ Step c w c' w' [] := by
 unfold order_Order_Above.f at H
 have HS := Step.refl c w []
 go_enter Tryd.func79, Tryd.ntmps79
 refine wp_seq_k fun K5229 hK5229 => ?_
 refine wl_region ?_
 refine st (.int .u64 0) rfl rfl (xr_assign _ rfl rfl) ?_
 refine wl_end ?_
 (try simp only [Act.put, List.setIfInBounds_toArray, ls0, ls1])
 refine hK5229 _ _ ?_
 (try clear hK5229 K5229)
 refine wp_seq_k fun K5230 hK5230 => ?_
 refine wp_seq_k fun K5231 hK5231 => ?_
 refine wl_region ?_
 refine st (v0) rfl rfl (xr_move _ rfl rfl) ?_
 refine st (.int .i64 a1) rfl rfl (xr_move _ rfl rfl) ?_
 obtain ⟨t5232, A5233, H⟩ := Option.bind_eq_some_iff.mp H
 (try dsimp only at H)
 refine st_call #[v0, .int .i64 a1] rfl rfl Tryd.func64 (by kernel_rfl) rfl rfl (mp_ rfl) ?_
 refine (order_Order_in.calls v0 x0 a1 t5232  (fun z_ => pal [(0, 0)] (c z_)) w (fun _ => pal_lt rfl _) (Ft.arg HP0 rfl) A5233).mono ?_
 rintro _ w5235 ⟨C5236, rfl, hs5237⟩
 refine ⟨_, rfl, ?_⟩
 replace hs5237 := Step.lift (U := [(0, 0)]) hs5237 [] rfl rfl
 generalize up c C5236 w.heap.size [(0, 0)] = C5236_ at hs5237
 replace HP0 := HP0.thru hs5237 rfl
 replace HS := HS.trans hs5237 hc rfl
 (try simp only [Act.put, List.setIfInBounds_toArray, ls0, ls1])
 refine st (.bool (!t5232)) rfl rfl (xr_un (.bool t5232) _ rfl rfl (by first | rfl | (go_simp; done) | (go_simp; rfl) | (go_simp; exact i64_w _) | (go_simp; exact i32_w _))) ?_
 refine wl_end ?_
 (try simp only [Act.put, List.setIfInBounds_toArray, ls0, ls1])
 refine hK5231 _ _ ?_
 (try clear hK5231 K5231)
 by_cases c5238 : t5232 = true
 ·rw [if_pos c5238] at H
  (try rw [c5238])
  (try simp only [Bool.not_true, Bool.not_false])
  refine wp_cond_false rfl ?_
  refine wp_skip ?_
  (try simp only [Act.put, List.setIfInBounds_toArray, ls0, ls1])
  refine hK5230 _ _ ?_
  (try clear hK5230 K5230)
  refine wp_seq_k fun K5239 hK5239 => ?_
  refine wl_region ?_
  refine st (v0) rfl rfl (xr_move _ rfl rfl) ?_
  refine st (.int .i64 a1) rfl rfl (xr_move _ rfl rfl) ?_
  cases x0 with
  | none =>
   (try simp only [onOpt] at H)
   obtain rfl := ptr_none HP0
   exact absurd H (by simp)
  | some o5240 =>
   (try simp only [onOpt] at H)
   obtain ⟨g5241, cs5242, rfl, HX5243, HK5244⟩ := ptr_some HP0
   obtain ⟨Aq5245_0, cpq5245_0, vq5245_1, rfl, HCq5245_0, HRq5245_0, HRq5245_1, HLq5245_2, HLq5245_3⟩ := k81_openF HK5244
   replace HRq5245_0 : Ft C5236_ [0] w5235 (fun w_ => Kd.string.C w_ Aq5245_0 o5240.f0.length o5240.f0) := HRq5245_0
   replace HRq5245_1 : Ft C5236_ [0] w5235 (fun w_ => (Kd.mp Value.string (Value.int .i64)).K w_ o5240.f1 [vq5245_1]) := HRq5245_1
   refine st (.pointer (some ⟨g5241, 0, none⟩)) rfl rfl (xr_nilCheck _ rfl rfl) ?_
   refine st (.pointer (some ⟨g5241, 2, none⟩)) rfl rfl (xr_fieldAddr _ _ rfl rfl (bx_field2 Tryd.underlying81 rfl rfl (by kernel_rfl))) ?_
   simp only [ls0, ls1]
   by_cases c5246 : 0 ≤ a1
   ·rw [if_pos c5246] at H
    by_cases c5247 : a1 < 64
    ·rw [if_pos c5247] at H
     refine st (.pointer (some ⟨g5241, 2 + ((a1 : Int).toNat), none⟩)) rfl rfl (xr_indexAddr _ _ _ rfl rfl rfl (arr_index (sz := 1) Tryd.underlying79 (by kernel_rfl) (by first | assumption | decide | omega) (by first | assumption | decide | omega) (by omega))) ?_
     refine st (.int .u64 (List.getD o5240.f2 ((a1 : Int).toNat) 0)) rfl rfl (xr_load _ _ rfl rfl (arr_load (o := 2) (N := 64) (pre := [.slice Aq5245_0 o5240.f0.length cpq5245_0, vq5245_1]) (post := List.map (Value.int .u64) o5240.f3) (enc := (Value.int .u64)) (l := o5240.f2) (i := (a1 : Int).toNat) 0 Tryd.underlying58 rfl (Ft.now HX5243) (by first | (simp only [List.append_assoc, List.cons_append, List.nil_append, List.append_nil]; done) | rfl) rfl HLq5245_2 (by omega) (by omega))) ?_
     refine st (.int .u64 (List.getD o5240.f2 ((a1 : Int).toNat) 0)) rfl rfl (xr_assign _ rfl rfl) ?_
     refine wl_end ?_
     (try simp only [Act.put, List.setIfInBounds_toArray, ls0, ls1])
     refine hK5239 _ _ ?_
     (try clear hK5239 K5239)
     refine wp_ret ?_
     (try simp only [Exit.inBlock, Exit.then, Exit.noGoto])
     (try simp only [Act.put, List.setIfInBounds_toArray, ls0, ls1])
     obtain rfl := Option.some.inj H
     refine bodyPost_ret (results_tmp rfl _ _ _) rfl ?_
     exact ⟨_, rfl, HS⟩
    ·rw [if_neg c5247] at H
     exact absurd H (by simp)
   ·rw [if_neg c5246] at H
    exact absurd H (by simp)
 ·rw [if_neg c5238] at H
  (try rw [(Bool.eq_false_iff.mpr c5238)])
  (try simp only [Bool.not_true, Bool.not_false])
  refine wp_cond_true rfl ?_
  refine wp_seq_k fun K5248 hK5248 => ?_
  refine wl_region ?_
  refine st (.int .u64 0) rfl rfl (xr_assign _ rfl rfl) ?_
  refine wl_end ?_
  (try simp only [Act.put, List.setIfInBounds_toArray, ls0, ls1])
  refine hK5248 _ _ ?_
  (try clear hK5248 K5248)
  refine wp_ret ?_
  (try simp only [Exit.inBlock, Exit.then, Exit.noGoto])
  (try simp only [Act.put, List.setIfInBounds_toArray, ls0, ls1])
  obtain rfl := Option.some.inj H
  refine bodyPost_ret (results_tmp rfl _ _ _) rfl ?_
  exact ⟨_, rfl, HS⟩

/-! ### order_Order_Below: function 80 -/
def order_Order_Below.f (x0 : Option S81) (a1 : Int) : Option (Int) := (order_Order_in.f x0 a1).bind fun t5272 => (if t5272 = true then (onOpt x0 (none) (fun o5280 => (if 0 ≤ a1 then (if a1 < 64 then (some (List.getD o5280.f3 ((a1 : Int).toNat) 0)) else (none)) else (none)))) else (some 0))
set_option maxHeartbeats 2000000 in
set_option maxRecDepth 100000 in
theorem order_Order_Below.calls (v0 : Value) (x0 : Option S81) (a1 : Int) (r : Int) (c : Nat → Nat) (w : World) (hc : ∀ k, c k < 10) (HP0 : Ft c [0] w (fun w_ => (Kd.ptr 81 k81).K w_ x0 [v0])) (H : order_Order_Below.f x0 a1 = some r) :
    Calls Tryd.prog 80 #[v0, .int .i64 a1] w fun e w' => ∃ (c' : Nat → Nat) , e = .returned (.int .u64 r) ∧ Step c w c' w' [] := by
 unfold order_Order_Below.f at H
 have HS := Step.refl c w []
 go_enter Tryd.func80, Tryd.ntmps80
 refine wp_seq_k fun K5269 hK5269 => ?_
 refine wl_region ?_
 refine st (.int .u64 0) rfl rfl (xr_assign _ rfl rfl) ?_
 refine wl_end ?_
 (try simp only [Act.put, List.setIfInBounds_toArray, ls0, ls1])
 refine hK5269 _ _ ?_
 (try clear hK5269 K5269)
 refine wp_seq_k fun K5270 hK5270 => ?_
 refine wp_seq_k fun K5271 hK5271 => ?_
 refine wl_region ?_
 refine st (v0) rfl rfl (xr_move _ rfl rfl) ?_
 refine st (.int .i64 a1) rfl rfl (xr_move _ rfl rfl) ?_
 obtain ⟨t5272, A5273, H⟩ := Option.bind_eq_some_iff.mp H
 (try dsimp only at H)
 refine st_call #[v0, .int .i64 a1] rfl rfl Tryd.func64 (by kernel_rfl) rfl rfl (mp_ rfl) ?_
 refine (order_Order_in.calls v0 x0 a1 t5272  (fun z_ => pal [(0, 0)] (c z_)) w (fun _ => pal_lt rfl _) (Ft.arg HP0 rfl) A5273).mono ?_
 rintro _ w5275 ⟨C5276, rfl, hs5277⟩
 refine ⟨_, rfl, ?_⟩
 replace hs5277 := Step.lift (U := [(0, 0)]) hs5277 [] rfl rfl
 generalize up c C5276 w.heap.size [(0, 0)] = C5276_ at hs5277
 replace HP0 := HP0.thru hs5277 rfl
 replace HS := HS.trans hs5277 hc rfl
 (try simp only [Act.put, List.setIfInBounds_toArray, ls0, ls1])
 refine st (.bool (!t5272)) rfl rfl (xr_un (.bool t5272) _ rfl rfl (by first | rfl | (go_simp; done) | (go_simp; rfl) | (go_simp; exact i64_w _) | (go_simp; exact i32_w _))) ?_
 refine wl_end ?_
 (try simp only [Act.put, List.setIfInBounds_toArray, ls0, ls1])
 refine hK5271 _ _ ?_
 (try clear hK5271 K5271)
 by_cases c5278 : t5272 = true
 ·rw [if_pos c5278] at H
  (try rw [c5278])
  (try simp only [Bool.not_true, Bool.not_false])
  refine wp_cond_false rfl ?_
  refine wp_skip ?_
  (try simp only [Act.put, List.setIfInBounds_toArray, ls0, ls1])
  refine hK5270 _ _ ?_
  (try clear hK5270 K5270)
  refine wp_seq_k fun K5279 hK5279 => ?_
  refine wl_region ?_
  refine st (v0) rfl rfl (xr_move _ rfl rfl) ?_
  refine st (.int .i64 a1) rfl rfl (xr_move _ rfl rfl) ?_
  cases x0 with
  | none =>
   (try simp only [onOpt] at H)
   obtain rfl := ptr_none HP0
   exact absurd H (by simp)
  | some o5280 =>
   (try simp only [onOpt] at H)
   obtain ⟨g5281, cs5282, rfl, HX5283, HK5284⟩ := ptr_some HP0
   obtain ⟨Aq5285_0, cpq5285_0, vq5285_1, rfl, HCq5285_0, HRq5285_0, HRq5285_1, HLq5285_2, HLq5285_3⟩ := k81_openF HK5284
   replace HRq5285_0 : Ft C5276_ [0] w5275 (fun w_ => Kd.string.C w_ Aq5285_0 o5280.f0.length o5280.f0) := HRq5285_0
   replace HRq5285_1 : Ft C5276_ [0] w5275 (fun w_ => (Kd.mp Value.string (Value.int .i64)).K w_ o5280.f1 [vq5285_1]) := HRq5285_1
   refine st (.pointer (some ⟨g5281, 0, none⟩)) rfl rfl (xr_nilCheck _ rfl rfl) ?_
   refine st (.pointer (some ⟨g5281, 66, none⟩)) rfl rfl (xr_fieldAddr _ _ rfl rfl (bx_field2 Tryd.underlying81 rfl rfl (by kernel_rfl))) ?_
   simp only [ls0, ls1]
   by_cases c5286 : 0 ≤ a1
   ·rw [if_pos c5286] at H
    by_cases c5287 : a1 < 64
    ·rw [if_pos c5287] at H
     refine st (.pointer (some ⟨g5281, 66 + ((a1 : Int).toNat), none⟩)) rfl rfl (xr_indexAddr _ _ _ rfl rfl rfl (arr_index (sz := 1) Tryd.underlying79 (by kernel_rfl) (by first | assumption | decide | omega) (by first | assumption | decide | omega) (by omega))) ?_
     refine st (.int .u64 (List.getD o5280.f3 ((a1 : Int).toNat) 0)) rfl rfl (xr_load _ _ rfl rfl (arr_load (o := 66) (N := 64) (pre := [.slice Aq5285_0 o5280.f0.length cpq5285_0, vq5285_1] ++ (List.map (Value.int .u64) o5280.f2)) (post := []) (enc := (Value.int .u64)) (l := o5280.f3) (i := (a1 : Int).toNat) 0 Tryd.underlying58 rfl (Ft.now HX5283) (by first | (simp only [List.append_assoc, List.cons_append, List.nil_append, List.append_nil]; done) | rfl) (by simp [HLq5285_2]) HLq5285_3 (by omega) (by omega))) ?_
     refine st (.int .u64 (List.getD o5280.f3 ((a1 : Int).toNat) 0)) rfl rfl (xr_assign _ rfl rfl) ?_
     refine wl_end ?_
     (try simp only [Act.put, List.setIfInBounds_toArray, ls0, ls1])
     refine hK5279 _ _ ?_
     (try clear hK5279 K5279)
     refine wp_ret ?_
     (try simp only [Exit.inBlock, Exit.then, Exit.noGoto])
     (try simp only [Act.put, List.setIfInBounds_toArray, ls0, ls1])
     obtain rfl := Option.some.inj H
     refine bodyPost_ret (results_tmp rfl _ _ _) rfl ?_
     exact ⟨_, rfl, HS⟩
    ·rw [if_neg c5287] at H
     exact absurd H (by simp)
   ·rw [if_neg c5286] at H
    exact absurd H (by simp)
 ·rw [if_neg c5278] at H
  (try rw [(Bool.eq_false_iff.mpr c5278)])
  (try simp only [Bool.not_true, Bool.not_false])
  refine wp_cond_true rfl ?_
  refine wp_seq_k fun K5288 hK5288 => ?_
  refine wl_region ?_
  refine st (.int .u64 0) rfl rfl (xr_assign _ rfl rfl) ?_
  refine wl_end ?_
  (try simp only [Act.put, List.setIfInBounds_toArray, ls0, ls1])
  refine hK5288 _ _ ?_
  (try clear hK5288 K5288)
  refine wp_ret ?_
  (try simp only [Exit.inBlock, Exit.then, Exit.noGoto])
  (try simp only [Act.put, List.setIfInBounds_toArray, ls0, ls1])
  obtain rfl := Option.some.inj H
  refine bodyPost_ret (results_tmp rfl _ _ _) rfl ?_
  exact ⟨_, rfl, HS⟩

/-! ### lattice_least_order_Order_Above: function 78 -/
def lattice_least_order_Order_Above.l0 : Nat → Int → (Option S81) → Int → Option (Int)
  | 0, _, _, _ => none
  | k + 1, a0, x1_0, x5482 => if x5482 = 0 then (some (-1)) else ((bits_TrailingZeros64.f x5482).bind fun t5500 => ((order_Order_Above.f x1_0 t5500).bind fun t5507 => (if (Go.bits .andNot .u64 a0 t5507) = 0 then (some (IntKind.i8.wrap (t5500))) else (lattice_least_order_Order_Above.l0 k a0 x1_0 (Go.bits .and .u64 x5482 (IntKind.u64.wrap (x5482 - 1)))))))
def lattice_least_order_Order_Above.f (k : Nat) (a0 : Int) (x1_0 : Option S81) : Option (Int) := lattice_least_order_Order_Above.l0 k a0 x1_0 a0

set_option maxHeartbeats 2000000 in
set_option maxRecDepth 100000 in
theorem lattice_least_order_Order_Above.calls (k : Nat) (a0 : Int) (v1_0 : Value) (x1_0 : Option S81) (r : Int) (c : Nat → Nat) (w : World) (hc : ∀ k, c k < 10) (HG : Ft c [0] w GTab) (HP1_0 : Ft c [0] w (fun w_ => (Kd.ptr 81 k81).K w_ x1_0 [v1_0])) (H : lattice_least_order_Order_Above.f k a0 x1_0 = some r) :
    Calls Tryd.prog 78 #[.int .u64 a0, .func (.func 79) #[v1_0] #[]] w fun e w' => ∃ (c' : Nat → Nat) , e = .returned (.int .i8 r) ∧ Step c w c' w' [] := by
 unfold lattice_least_order_Order_Above.f at H
 have HS := Step.refl c w []
 go_enter Tryd.func78, Tryd.ntmps78
 refine wp_seq_k fun K5432 hK5432 => ?_
 refine wl_region ?_
 refine st (.int .i8 0) rfl rfl (xr_assign _ rfl rfl) ?_
 refine wl_end ?_
 (try simp only [Act.put, List.setIfInBounds_toArray, ls0, ls1])
 refine hK5432 _ _ ?_
 (try clear hK5432 K5432)
 refine wp_seq_k fun K5433 hK5433 => ?_
 refine wp_seq_k fun K5434 hK5434 => ?_
 refine wl_region ?_
 refine st (.int .u64 a0) rfl rfl (xr_move _ rfl rfl) ?_
 refine st (.int .u64 a0) rfl rfl (xr_assign _ rfl rfl) ?_
 refine wl_end ?_
 (try simp only [Act.put, List.setIfInBounds_toArray, ls0, ls1])
 refine hK5434 _ _ ?_
 (try clear hK5434 K5434)
 refine wp_block ?_
 (try simp only [Act.put, List.setIfInBounds_toArray, ls0, ls1])
 refine wp_looped (looped_ind (fun kq5487 a_ w5486 => ∃ (C5485 : Nat → Nat) (x5482 : Int) (g5484 : Nat → Value), a_ = ⟨#[.int .u64 a0, .func (.func 79) #[v1_0] #[], (g5484 2), (g5484 3), (g5484 4), .int .u64 x5482, (g5484 6), (g5484 7), (g5484 8), (g5484 9), (g5484 10), (g5484 11), (g5484 12), (g5484 13), (g5484 14), (g5484 15), (g5484 16), (g5484 17), (g5484 18), (g5484 19), (g5484 20), (g5484 21), (g5484 22), (g5484 23)], []⟩ ∧ Step c w C5485 w5486 [] ∧ kq5487 ≤ k ∧ (Ft C5485 [0] w5486 (fun w_ => (Kd.ptr 81 k81).K w_ x1_0 [v1_0])) ∧ (Ft C5485 [0] w5486 GTab) ∧ lattice_least_order_Order_Above.l0 kq5487 a0 x1_0 x5482 = some r) ?step k _ _ ?init)
 case init =>
  exact ⟨_, a0, (fun q_ => List.getD [undef, undef, undef, undef, .int .i8 0, undef, undef, .int .u64 a0, undef, undef, undef, undef, undef, undef, undef, undef, undef, undef, undef, undef, undef, undef, undef, undef] q_ undef), rfl, HS, Nat.le_refl _, HP1_0, HG, H⟩
 case step =>
  intro kq5487 ih5490 a5491 w5486 hr5492
  obtain ⟨C5485, x5482, g5484, rfl, HS5488, hk5489, HJ5481, HG5483, H⟩ := hr5492
  refine looped_round ?_
  cases kq5487 with
  | zero => exact absurd H (by simp [lattice_least_order_Order_Above.l0])
  | succ k5493 =>
   simp only [lattice_least_order_Order_Above.l0] at H
   refine wp_seq_k fun K5494 hK5494 => ?_
   refine wp_seq_k fun K5495 hK5495 => ?_
   refine wl_region ?_
   refine st (.int .u64 x5482) rfl rfl (xr_move _ rfl rfl) ?_
   refine st (.bool (!decide (x5482 = 0))) rfl rfl (xr_bin _ _ _ rfl rfl rfl (B.neq_u64 _ _)) ?_
   refine wl_end ?_
   (try simp only [Act.put, List.setIfInBounds_toArray, ls0, ls1])
   refine hK5495 _ _ ?_
   (try clear hK5495 K5495)
   by_cases c5496 : x5482 = 0
   ·rw [if_pos c5496] at H
    (try rw [(decide_eq_true c5496)])
    (try simp only [Bool.not_true, Bool.not_false])
    refine wp_cond_false rfl ?_
    refine wp_exit ?_
    (try simp only [Act.put, List.setIfInBounds_toArray, ls0, ls1])
    refine hK5433 _ _ ?_
    (try clear hK5433 K5433)
    refine wp_seq_k fun K5497 hK5497 => ?_
    refine wl_region ?_
    refine st (.int .i8 (-1)) rfl rfl (xr_assign _ rfl rfl) ?_
    refine wl_end ?_
    (try simp only [Act.put, List.setIfInBounds_toArray, ls0, ls1])
    refine hK5497 _ _ ?_
    (try clear hK5497 K5497)
    refine wp_ret ?_
    (try simp only [Exit.inBlock, Exit.then, Exit.noGoto])
    (try simp only [Act.put, List.setIfInBounds_toArray, ls0, ls1])
    obtain rfl := Option.some.inj H
    refine bodyPost_ret (results_tmp rfl _ _ _) rfl ?_
    exact ⟨_, rfl, HS5488⟩
   ·rw [if_neg c5496] at H
    (try rw [(decide_eq_false c5496)])
    (try simp only [Bool.not_true, Bool.not_false])
    refine wp_cond_true rfl ?_
    refine wp_skip ?_
    (try simp only [Act.put, List.setIfInBounds_toArray, ls0, ls1])
    refine hK5494 _ _ ?_
    (try clear hK5494 K5494)
    refine wp_seq_k fun K5498 hK5498 => ?_
    refine wp_block ?_
    refine wp_seq_k fun K5499 hK5499 => ?_
    refine wl_region ?_
    refine st (.int .u64 x5482) rfl rfl (xr_move _ rfl rfl) ?_
    obtain ⟨t5500, A5501, H⟩ := Option.bind_eq_some_iff.mp H
    (try dsimp only at H)
    refine st_call #[.int .u64 x5482] rfl rfl Tryd.func92 (by kernel_rfl) rfl rfl (mp_ rfl) ?_
    refine (bits_TrailingZeros64.calls x5482 t5500  (fun z_ => pal [(0, 0)] (C5485 z_)) w5486 (fun _ => pal_lt rfl _) (Ft.arg HG5483 rfl) A5501).mono ?_
    rintro _ w5503 ⟨C5504, rfl, hs5505⟩
    refine ⟨_, rfl, ?_⟩
    replace hs5505 := Step.lift (U := [(0, 0)]) hs5505 [] rfl rfl
    generalize up C5485 C5504 w5486.heap.size [(0, 0)] = C5504_ at hs5505
    replace HJ5481 := HJ5481.thru hs5505 rfl
    replace HG5483 := HG5483.thru hs5505 rfl
    replace HS5488 := HS5488.trans hs5505 hc rfl
    (try simp only [Act.put, List.setIfInBounds_toArray, ls0, ls1])
    refine st (.int .i64 t5500) rfl rfl (xr_assign _ rfl rfl) ?_
    refine wl_end ?_
    (try simp only [Act.put, List.setIfInBounds_toArray, ls0, ls1])
    refine hK5499 _ _ ?_
    (try clear hK5499 K5499)
    refine wp_seq_k fun K5506 hK5506 => ?_
    refine wl_region ?_
    refine st (.int .u64 a0) rfl rfl (xr_move _ rfl rfl) ?_
    refine st (.func (.func 79) #[v1_0] #[]) rfl rfl (xr_move _ rfl rfl) ?_
    refine st (.int .i64 t5500) rfl rfl (xr_move _ rfl rfl) ?_
    obtain ⟨t5507, A5508, H⟩ := Option.bind_eq_some_iff.mp H
    (try dsimp only at H)
    refine st_callF #[.int .i64 t5500] #[v1_0] #[] #[v1_0, .int .i64 t5500] rfl rfl Tryd.func79 (by kernel_rfl) rfl rfl rfl (mp_ rfl) (by rfl) ?_
    refine (order_Order_Above.calls v1_0 x1_0 t5500 t5507  (fun z_ => pal [(0, 0)] (C5504_ z_)) w5503 (fun _ => pal_lt rfl _) (Ft.arg HJ5481 rfl) A5508).mono ?_
    rintro _ w5510 ⟨C5511, rfl, hs5512⟩
    refine ⟨_, rfl, ?_⟩
    replace hs5512 := Step.lift (U := [(0, 0)]) hs5512 [] rfl rfl
    generalize up C5504_ C5511 w5503.heap.size [(0, 0)] = C5511_ at hs5512
    replace HJ5481 := HJ5481.thru hs5512 rfl
    replace HG5483 := HG5483.thru hs5512 rfl
    replace HS5488 := HS5488.trans hs5512 hc rfl
    (try simp only [Act.put, List.setIfInBounds_toArray, ls0, ls1])
    refine st (.int .u64 (Go.bits .andNot .u64 a0 t5507)) rfl rfl (xr_bin _ _ _ rfl rfl rfl (B.andNot_u64 _ _)) ?_
    refine st (.bool (decide ((Go.bits .andNot .u64 a0 t5507) = 0))) rfl rfl (xr_bin _ _ _ rfl rfl rfl (B.eql_u64 _ _)) ?_
    refine wl_end ?_
    (try simp only [Act.put, List.setIfInBounds_toArray, ls0, ls1])
    refine hK5506 _ _ ?_
    (try clear hK5506 K5506)
    by_cases c5513 : (Go.bits .andNot .u64 a0 t5507) = 0
    ·rw [if_pos c5513] at H
     (try rw [(decide_eq_true c5513)])
     (try simp only [Bool.not_true, Bool.not_false])
     refine wp_cond_true rfl ?_
     refine wp_seq_k fun K5514 hK5514 => ?_
     refine wl_region ?_
     refine st (.int .i64 t5500) rfl rfl (xr_move _ rfl rfl) ?_
     refine st (.int .i8 (IntKind.i8.wrap (t5500))) rfl rfl (xr_conv (.int .i64 t5500) _ rfl rfl (by first | rfl | (go_simp; done) | (go_simp; rfl) | (go_simp; exact i64_w _) | (go_simp; exact i32_w _))) ?_
     refine st (.int .i8 (IntKind.i8.wrap (t5500))) rfl rfl (xr_assign _ rfl rfl) ?_
     refine wl_end ?_
     (try simp only [Act.put, List.setIfInBounds_toArray, ls0, ls1])
     refine hK5514 _ _ ?_
     (try clear hK5514 K5514)
     refine wp_ret ?_
     (try simp only [Exit.inBlock, Exit.then, Exit.noGoto])
     (try simp only [Act.put, List.setIfInBounds_toArray, ls0, ls1])
     obtain rfl := Option.some.inj H
     refine bodyPost_ret (results_tmp rfl _ _ _) rfl ?_
     exact ⟨_, rfl, HS5488⟩
    ·rw [if_neg c5513] at H
     (try rw [(decide_eq_false c5513)])
     (try simp only [Bool.not_true, Bool.not_false])
     refine wp_cond_false rfl ?_
     refine wp_skip ?_
     (try simp only [Act.put, List.setIfInBounds_toArray, ls0, ls1])
     refine hK5498 _ _ ?_
     (try clear hK5498 K5498)
     refine wl_region ?_
     refine st (.int .u64 x5482) rfl rfl (xr_move _ rfl rfl) ?_
     refine st (.int .u64 x5482) rfl rfl (xr_move _ rfl rfl) ?_
     refine st (.int .u64 (IntKind.u64.wrap (x5482 - 1))) rfl rfl (xr_bin _ _ _ rfl rfl rfl (B.sub_u64 _ _)) ?_
     refine st (.int .u64 (Go.bits .and .u64 x5482 (IntKind.u64.wrap (x5482 - 1)))) rfl rfl (xr_bin _ _ _ rfl rfl rfl (B.and_u64 _ _)) ?_
     simp only [ls0, ls1]
     refine st (.int .u64 (Go.bits .and .u64 x5482 (IntKind.u64.wrap (x5482 - 1)))) rfl rfl (xr_assign _ rfl rfl) ?_
     refine wl_end ?_
     (try simp only [Act.put, List.setIfInBounds_toArray, ls0, ls1])
     exact ih5490 k5493 (by omega) _ _ ⟨_, Go.bits .and .u64 x5482 (IntKind.u64.wrap (x5482 - 1)), (fun q_ => List.getD [undef, undef, (g5484 2), (g5484 3), (g5484 4), undef, .int .i64 t5500, (g5484 7), .int .u64 x5482, .bool true, .int .u64 x5482, .int .u64 x5482, .int .u64 (IntKind.u64.wrap (x5482 - 1)), .int .u64 (Go.bits .and .u64 x5482 (IntKind.u64.wrap (x5482 - 1))), .int .u64 x5482, .int .i64 t5500, .int .u64 a0, .func (.func 79) #[v1_0] #[], .int .i64 t5500, .int .u64 t5507, .int .u64 (Go.bits .andNot .u64 a0 t5507), .bool false, (g5484 22), (g5484 23)] q_ undef), rfl, HS5488, (by omega), HJ5481, HG5483, H⟩

/-! ### lattice_least_order_Order_Below: function 78 -/
def lattice_least_order_Order_Below.l0 : Nat → Int → (Option S81) → Int → Option (Int)
  | 0, _, _, _ => none
  | k + 1, a0, x1_0, x5787 => if x5787 = 0 then (some (-1)) else ((bits_TrailingZeros64.f x5787).bind fun t5805 => ((order_Order_Below.f x1_0 t5805).bind fun t5812 => (if (Go.bits .andNot .u64 a0 t5812) = 0 then (some (IntKind.i8.wrap (t5805))) else (lattice_least_order_Order_Below.l0 k a0 x1_0 (Go.bits .and .u64 x5787 (IntKind.u64.wrap (x5787 - 1)))))))
def lattice_least_order_Order_Below.f (k : Nat) (a0 : Int) (x1_0 : Option S81) : Option (Int) := lattice_least_order_Order_Below.l0 k a0 x1_0 a0

set_option maxHeartbeats 2000000 in
set_option maxRecDepth 100000 in
theorem lattice_least_order_Order_Below.calls (k : Nat) (a0 : Int) (v1_0 : Value) (x1_0 : Option S81) (r : Int) (c : Nat → Nat) (w : World) (hc : ∀ k, c k < 10) (HG : Ft c [0] w GTab) (HP1_0 : Ft c [0] w (fun w_ => (Kd.ptr 81 k81).K w_ x1_0 [v1_0])) (H : lattice_least_order_Order_Below.f k a0 x1_0 = some r) :
    Calls Tryd.prog 78 #[.int .u64 a0, .func (.func 80) #[v1_0] #[]] w fun e w' => ∃ (c' : Nat → Nat) , e = .returned (.int .i8 r) ∧ Step c w c' w' [] := by
 unfold lattice_least_order_Order_Below.f at H
 have HS := Step.refl c w []
 go_enter Tryd.func78, Tryd.ntmps78
 refine wp_seq_k fun K5737 hK5737 => ?_
 refine wl_region ?_
 refine st (.int .i8 0) rfl rfl (xr_assign _ rfl rfl) ?_
 refine wl_end ?_
 (try simp only [Act.put, List.setIfInBounds_toArray, ls0, ls1])
 refine hK5737 _ _ ?_
 (try clear hK5737 K5737)
 refine wp_seq_k fun K5738 hK5738 => ?_
 refine wp_seq_k fun K5739 hK5739 => ?_
 refine wl_region ?_
 refine st (.int .u64 a0) rfl rfl (xr_move _ rfl rfl) ?_
 refine st (.int .u64 a0) rfl rfl (xr_assign _ rfl rfl) ?_
 refine wl_end ?_
 (try simp only [Act.put, List.setIfInBounds_toArray, ls0, ls1])
 refine hK5739 _ _ ?_
 (try clear hK5739 K5739)
 refine wp_block ?_
 (try simp only [Act.put, List.setIfInBounds_toArray, ls0, ls1])
 refine wp_looped (looped_ind (fun kq5792 a_ w5791 => ∃ (C5790 : Nat → Nat) (x5787 : Int) (g5789 : Nat → Value), a_ = ⟨#[.int .u64 a0, .func (.func 80) #[v1_0] #[], (g5789 2), (g5789 3), (g5789 4), .int .u64 x5787, (g5789 6), (g5789 7), (g5789 8), (g5789 9), (g5789 10), (g5789 11), (g5789 12), (g5789 13), (g5789 14), (g5789 15), (g5789 16), (g5789 17), (g5789 18), (g5789 19), (g5789 20), (g5789 21), (g5789 22), (g5789 23)], []⟩ ∧ Step c w C5790 w5791 [] ∧ kq5792 ≤ k ∧ (Ft C5790 [0] w5791 (fun w_ => (Kd.ptr 81 k81).K w_ x1_0 [v1_0])) ∧ (Ft C5790 [0] w5791 GTab) ∧ lattice_least_order_Order_Below.l0 kq5792 a0 x1_0 x5787 = some r) ?step k _ _ ?init)
 case init =>
  exact ⟨_, a0, (fun q_ => List.getD [undef, undef, undef, undef, .int .i8 0, undef, undef, .int .u64 a0, undef, undef, undef, undef, undef, undef, undef, undef, undef, undef, undef, undef, undef, undef, undef, undef] q_ undef), rfl, HS, Nat.le_refl _, HP1_0, HG, H⟩
 case step =>
  intro kq5792 ih5795 a5796 w5791 hr5797
  obtain ⟨C5790, x5787, g5789, rfl, HS5793, hk5794, HJ5786, HG5788, H⟩ := hr5797
  refine looped_round ?_
  cases kq5792 with
  | zero => exact absurd H (by simp [lattice_least_order_Order_Below.l0])
  | succ k5798 =>
   simp only [lattice_least_order_Order_Below.l0] at H
   refine wp_seq_k fun K5799 hK5799 => ?_
   refine wp_seq_k fun K5800 hK5800 => ?_
   refine wl_region ?_
   refine st (.int .u64 x5787) rfl rfl (xr_move _ rfl rfl) ?_
   refine st (.bool (!decide (x5787 = 0))) rfl rfl (xr_bin _ _ _ rfl rfl rfl (B.neq_u64 _ _)) ?_
   refine wl_end ?_
   (try simp only [Act.put, List.setIfInBounds_toArray, ls0, ls1])
   refine hK5800 _ _ ?_
   (try clear hK5800 K5800)
   by_cases c5801 : x5787 = 0
   ·rw [if_pos c5801] at H
    (try rw [(decide_eq_true c5801)])
    (try simp only [Bool.not_true, Bool.not_false])
    refine wp_cond_false rfl ?_
    refine wp_exit ?_
    (try simp only [Act.put, List.setIfInBounds_toArray, ls0, ls1])
    refine hK5738 _ _ ?_
    (try clear hK5738 K5738)
    refine wp_seq_k fun K5802 hK5802 => ?_
    refine wl_region ?_
    refine st (.int .i8 (-1)) rfl rfl (xr_assign _ rfl rfl) ?_
    refine wl_end ?_
    (try simp only [Act.put, List.setIfInBounds_toArray, ls0, ls1])
    refine hK5802 _ _ ?_
    (try clear hK5802 K5802)
    refine wp_ret ?_
    (try simp only [Exit.inBlock, Exit.then, Exit.noGoto])
    (try simp only [Act.put, List.setIfInBounds_toArray, ls0, ls1])
    obtain rfl := Option.some.inj H
    refine bodyPost_ret (results_tmp rfl _ _ _) rfl ?_
    exact ⟨_, rfl, HS5793⟩
   ·rw [if_neg c5801] at H
    (try rw [(decide_eq_false c5801)])
    (try simp only [Bool.not_true, Bool.not_false])
    refine wp_cond_true rfl ?_
    refine wp_skip ?_
    (try simp only [Act.put, List.setIfInBounds_toArray, ls0, ls1])
    refine hK5799 _ _ ?_
    (try clear hK5799 K5799)
    refine wp_seq_k fun K5803 hK5803 => ?_
    refine wp_block ?_
    refine wp_seq_k fun K5804 hK5804 => ?_
    refine wl_region ?_
    refine st (.int .u64 x5787) rfl rfl (xr_move _ rfl rfl) ?_
    obtain ⟨t5805, A5806, H⟩ := Option.bind_eq_some_iff.mp H
    (try dsimp only at H)
    refine st_call #[.int .u64 x5787] rfl rfl Tryd.func92 (by kernel_rfl) rfl rfl (mp_ rfl) ?_
    refine (bits_TrailingZeros64.calls x5787 t5805  (fun z_ => pal [(0, 0)] (C5790 z_)) w5791 (fun _ => pal_lt rfl _) (Ft.arg HG5788 rfl) A5806).mono ?_
    rintro _ w5808 ⟨C5809, rfl, hs5810⟩
    refine ⟨_, rfl, ?_⟩
    replace hs5810 := Step.lift (U := [(0, 0)]) hs5810 [] rfl rfl
    generalize up C5790 C5809 w5791.heap.size [(0, 0)] = C5809_ at hs5810
    replace HJ5786 := HJ5786.thru hs5810 rfl
    replace HG5788 := HG5788.thru hs5810 rfl
    replace HS5793 := HS5793.trans hs5810 hc rfl
    (try simp only [Act.put, List.setIfInBounds_toArray, ls0, ls1])
    refine st (.int .i64 t5805) rfl rfl (xr_assign _ rfl rfl) ?_
    refine wl_end ?_
    (try simp only [Act.put, List.setIfInBounds_toArray, ls0, ls1])
    refine hK5804 _ _ ?_
    (try clear hK5804 K5804)
    refine wp_seq_k fun K5811 hK5811 => ?_
    refine wl_region ?_
    refine st (.int .u64 a0) rfl rfl (xr_move _ rfl rfl) ?_
    refine st (.func (.func 80) #[v1_0] #[]) rfl rfl (xr_move _ rfl rfl) ?_
    refine st (.int .i64 t5805) rfl rfl (xr_move _ rfl rfl) ?_
    obtain ⟨t5812, A5813, H⟩ := Option.bind_eq_some_iff.mp H
    (try dsimp only at H)
    refine st_callF #[.int .i64 t5805] #[v1_0] #[] #[v1_0, .int .i64 t5805] rfl rfl Tryd.func80 (by kernel_rfl) rfl rfl rfl (mp_ rfl) (by rfl) ?_
    refine (order_Order_Below.calls v1_0 x1_0 t5805 t5812  (fun z_ => pal [(0, 0)] (C5809_ z_)) w5808 (fun _ => pal_lt rfl _) (Ft.arg HJ5786 rfl) A5813).mono ?_
    rintro _ w5815 ⟨C5816, rfl, hs5817⟩
    refine ⟨_, rfl, ?_⟩
    replace hs5817 := Step.lift (U := [(0, 0)]) hs5817 [] rfl rfl
    generalize up C5809_ C5816 w5808.heap.size [(0, 0)] = C5816_ at hs5817
    replace HJ5786 := HJ5786.thru hs5817 rfl
    replace HG5788 := HG5788.thru hs5817 rfl
    replace HS5793 := HS5793.trans hs5817 hc rfl
    (try simp only [Act.put, List.setIfInBounds_toArray, ls0, ls1])
    refine st (.int .u64 (Go.bits .andNot .u64 a0 t5812)) rfl rfl (xr_bin _ _ _ rfl rfl rfl (B.andNot_u64 _ _)) ?_
    refine st (.bool (decide ((Go.bits .andNot .u64 a0 t5812) = 0))) rfl rfl (xr_bin _ _ _ rfl rfl rfl (B.eql_u64 _ _)) ?_
    refine wl_end ?_
    (try simp only [Act.put, List.setIfInBounds_toArray, ls0, ls1])
    refine hK5811 _ _ ?_
    (try clear hK5811 K5811)
    by_cases c5818 : (Go.bits .andNot .u64 a0 t5812) = 0
    ·rw [if_pos c5818] at H
     (try rw [(decide_eq_true c5818)])
     (try simp only [Bool.not_true, Bool.not_false])
     refine wp_cond_true rfl ?_
     refine wp_seq_k fun K5819 hK5819 => ?_
     refine wl_region ?_
     refine st (.int .i64 t5805) rfl rfl (xr_move _ rfl rfl) ?_
     refine st (.int .i8 (IntKind.i8.wrap (t5805))) rfl rfl (xr_conv (.int .i64 t5805) _ rfl rfl (by first | rfl | (go_simp; done) | (go_simp; rfl) | (go_simp; exact i64_w _) | (go_simp; exact i32_w _))) ?_
     refine st (.int .i8 (IntKind.i8.wrap (t5805))) rfl rfl (xr_assign _ rfl rfl) ?_
     refine wl_end ?_
     (try simp only [Act.put, List.setIfInBounds_toArray, ls0, ls1])
     refine hK5819 _ _ ?_
     (try clear hK5819 K5819)
     refine wp_ret ?_
     (try simp only [Exit.inBlock, Exit.then, Exit.noGoto])
     (try simp only [Act.put, List.setIfInBounds_toArray, ls0, ls1])
     obtain rfl := Option.some.inj H
     refine bodyPost_ret (results_tmp rfl _ _ _) rfl ?_
     exact ⟨_, rfl, HS5793⟩
    ·rw [if_neg c5818] at H
     (try rw [(decide_eq_false c5818)])
     (try simp only [Bool.not_true, Bool.not_false])
     refine wp_cond_false rfl ?_
     refine wp_skip ?_
     (try simp only [Act.put, List.setIfInBounds_toArray, ls0, ls1])
     refine hK5803 _ _ ?_
     (try clear hK5803 K5803)
     refine wl_region ?_
     refine st (.int .u64 x5787) rfl rfl (xr_move _ rfl rfl) ?_
     refine st (.int .u64 x5787) rfl rfl (xr_move _ rfl rfl) ?_
     refine st (.int .u64 (IntKind.u64.wrap (x5787 - 1))) rfl rfl (xr_bin _ _ _ rfl rfl rfl (B.sub_u64 _ _)) ?_
     refine st (.int .u64 (Go.bits .and .u64 x5787 (IntKind.u64.wrap (x5787 - 1)))) rfl rfl (xr_bin _ _ _ rfl rfl rfl (B.and_u64 _ _)) ?_
     simp only [ls0, ls1]
     refine st (.int .u64 (Go.bits .and .u64 x5787 (IntKind.u64.wrap (x5787 - 1)))) rfl rfl (xr_assign _ rfl rfl) ?_
     refine wl_end ?_
     (try simp only [Act.put, List.setIfInBounds_toArray, ls0, ls1])
     exact ih5795 k5798 (by omega) _ _ ⟨_, Go.bits .and .u64 x5787 (IntKind.u64.wrap (x5787 - 1)), (fun q_ => List.getD [undef, undef, (g5789 2), (g5789 3), (g5789 4), undef, .int .i64 t5805, (g5789 7), .int .u64 x5787, .bool true, .int .u64 x5787, .int .u64 x5787, .int .u64 (IntKind.u64.wrap (x5787 - 1)), .int .u64 (Go.bits .and .u64 x5787 (IntKind.u64.wrap (x5787 - 1))), .int .u64 x5787, .int .i64 t5805, .int .u64 a0, .func (.func 80) #[v1_0] #[], .int .i64 t5805, .int .u64 t5812, .int .u64 (Go.bits .andNot .u64 a0 t5812), .bool false, (g5789 22), (g5789 23)] q_ undef), rfl, HS5793, (by omega), HJ5786, HG5788, H⟩

end Go.Proofs.YtpfepkkpbampkaaDoor.PLan
