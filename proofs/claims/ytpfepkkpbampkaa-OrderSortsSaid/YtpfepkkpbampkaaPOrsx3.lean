-- By cprint.py, a program of this work. Lean checks it.
import Derived.Test.YtpfepkkpbampkaaPOrsx0
import Derived.Test.YtpfepkkpbampkaaPOrsx1
import Derived.Test.YtpfepkkpbampkaaPOrsx2
namespace Go.Proofs.Ytpfepkkpbampkaa.POrs
open Go.RowKit Go.Proofs.YtpfepkkpbampkaaW.PrintWords Go.Proofs.YtpfepkkpbampkaaW.PrintLast Go.Proofs.YtpfepkkpbampkaaW.PrintMore
set_option linter.unusedVariables false
set_option linter.unusedSimpArgs false

/-! ### order_New: function 8 -/
mutual
def order_New.l0 : Nat → (List (S25)) → (List Int) → (List Int) → (List ByteArray) → (List (ByteArray × Int)) → Int → Option ((Option S47) × Int × Int)
  | 0, _, _, _, _, _, _ => none
  | k + 1, l0, t5029, t5030, x4968, x4974, x5127 => if x5127 < (l0.length : Int) then (if 0 ≤ x5127 then (if ((rd_T25 l0 x5127).f1) = (⟨#[]⟩ : ByteArray) then (order_New.l0 k l0 t5029 t5030 x4968 x4974 (wrap64 (x5127 + 1))) else ((order_Order_Most.f (some (⟨x4968, x4974, t5029, t5030⟩ : S47) : Option S47) (mget 0 x4974 ((rd_T25 l0 x5127).f1)) (mget 0 x4974 ((rd_T25 l0 x5127).f0))).bind fun t5171 => (if t5171 = true then (some ((none : Option S47), x5127, 16)) else (order_New.l0 k l0 t5029 t5030 x4968 x4974 (wrap64 (x5127 + 1)))))) else (none)) else (some ((some (⟨x4968, x4974, t5029, t5030⟩ : S47) : Option S47), 0, 0))
def order_New.l1 : Nat → (List (S25)) → Int → (List ByteArray) → (List (ByteArray × Int)) → (List Int) → Option ((Option S47) × Int × Int)
  | 0, _, _, _, _, _ => none
  | k + 1, l0, x4967, x4968, x4974, x4977 => if x4967 < (l0.length : Int) then (if 0 ≤ x4967 then ((order_Order_pair.f k x4968 x4974 x4977 (List.replicate 64 (0 : Int)) ((rd_T25 l0 x4967).f0) ((rd_T25 l0 x4967).f1) ((rd_T25 l0 x4967).f2)).bind fun bt5008 => (if bt5008.1 = 0 then (order_New.l1 k l0 (wrap64 (x4967 + 1)) bt5008.2.1 bt5008.2.2.1 bt5008.2.2.2) else (some ((none : Option S47), x4967, bt5008.1)))) else (none)) else ((order_Order_close.f k x4968 x4974 x4977 (List.replicate 64 (0 : Int))).bind fun bt5029 => (order_New.l0 k l0 bt5029.1 bt5029.2 x4968 x4974 0))
end
def order_New.f (k : Nat) (l0 : List (S25)) : Option ((Option S47) × Int × Int) := order_New.l1 k l0 0 ([] : List ByteArray) ([] : List (ByteArray × Int)) (List.replicate 64 (0 : Int))

set_option maxHeartbeats 2000000 in
set_option maxRecDepth 100000 in
theorem order_New.calls (k : Nat) (A0 : Option Addr) (c0 : Nat) (l0 : List (S25)) (r1 : Option S47) (r2 : Int) (r3 : Int) (c : Nat → Nat) (w : World) (hc : ∀ k, c k < 10) (HP0 : Ft c [0] w (fun w_ => k25.C w_ A0 l0.length l0)) (HCP0 : l0.length ≤ c0) (H : order_New.f k l0 = some (r1, r2, r3)) :
    Calls Try.prog 8 #[.slice A0 l0.length c0] w fun e w' => ∃ (c' : Nat → Nat) (v_r1 : Value), e = .returned (.tuple #[v_r1, .int .i64 r2, .int .i64 r3]) ∧ Step c w c' w' [] ∧ Ft c' [0] w' (fun w_ => (Kd.ptr 47 k47).K w_ r1 [v_r1]) := by
 unfold order_New.f at H
 have HS := Step.refl c w []
 go_enter Try.func8, Try.ntmps8
 refine wp_seq_k fun K4703 hK4703 => ?_
 refine wl_region ?_
 refine st (.pointer none) rfl rfl (xr_assign (.pointer none) rfl rfl) ?_
 simp only [ls0, ls1]
 refine st (.int .i64 0) rfl rfl (xr_assign (.int .i64 0) rfl rfl) ?_
 simp only [ls0, ls1]
 refine st (.int .i64 0) rfl rfl (xr_assign (.int .i64 0) rfl rfl) ?_
 simp only [ls0, ls1]
 refine wl_end ?_
 (try simp only [Act.put, List.setIfInBounds_toArray, ls0, ls1])
 refine hK4703 _ _ ?_
 (try clear hK4703 K4703)
 refine wp_seq_k fun K4704 hK4704 => ?_
 refine wl_region ?_
 refine mp_new (C := c) Value.string (Value.int .i64) 11 rfl rfl rfl ?_
 intro mb4705 w4706 C4707 HM4708 hs4709
 replace HP0 := HP0.thru hs4709 rfl
 replace HS := HS.trans hs4709 hc rfl
 (try simp only [Act.put, List.setIfInBounds_toArray, ls0, ls1])
 refine st (.agg (List.toArray ([.slice none 0 0, .map (some mb4705)] ++ (List.map (Value.int .u64) (List.replicate 64 (0 : Int)) ++ (List.map (Value.int .u64) (List.replicate 64 (0 : Int))))))) rfl rfl (xr_build #[(1, .map (some mb4705))] (.agg (List.toArray ([.slice none 0 0, .map (some mb4705)] ++ (List.map (Value.int .u64) (List.replicate 64 (0 : Int)) ++ (List.map (Value.int .u64) (List.replicate 64 (0 : Int))))))) rfl (by simp only [List.map_toArray, List.map_cons, List.map_nil]; first | done | rfl) (by kernel_rfl)) ?_
 simp only [ls0, ls1]
 refine bx_new (C := C4707) 47 ([.slice none 0 0, .map (some mb4705)] ++ (List.map (Value.int .u64) (List.replicate 64 (0 : Int)) ++ (List.map (Value.int .u64) (List.replicate 64 (0 : Int))))) 12 rfl rfl (by kernel_rfl) ?_
 intro g4710 w4711 C4712 HX4713 hs4714
 replace HP0 := HP0.thru hs4714 rfl
 replace HM4708 := HM4708.thru hs4714 rfl
 replace HS := HS.trans hs4714 hc rfl
 (try simp only [Act.put, List.setIfInBounds_toArray, ls0, ls1])
 refine st (.pointer (some ⟨g4710, 0, none⟩)) rfl rfl (xr_assign (.pointer (some ⟨g4710, 0, none⟩)) rfl rfl) ?_
 simp only [ls0, ls1]
 refine wl_end ?_
 (try simp only [Act.put, List.setIfInBounds_toArray, ls0, ls1])
 refine hK4704 _ _ ?_
 (try clear hK4704 K4704)
 refine wp_seq_k fun K4715 hK4715 => ?_
 refine wp_seq_k fun K4872 hK4872 => ?_
 refine wl_region ?_
 refine st (.slice A0 l0.length c0) rfl rfl (xr_move (.slice A0 l0.length c0) rfl rfl) ?_
 simp only [ls0, ls1]
 refine st (.int .i64 (l0.length : Int)) rfl rfl (xr_builtin #[.slice A0 l0.length c0] (.int .i64 (l0.length : Int)) rfl (by simp only [List.map_toArray, List.map_cons, List.map_nil]; first | done | rfl) (by first | rfl | (go_simp; done) | (go_simp; rfl) | (go_simp; exact i64_w _) | (go_simp; exact i32_w _))) ?_
 simp only [ls0, ls1]
 refine st (.int .i64 0) rfl rfl (xr_move (.int .i64 0) rfl rfl) ?_
 simp only [ls0, ls1]
 refine wl_end ?_
 (try simp only [Act.put, List.setIfInBounds_toArray, ls0, ls1])
 refine hK4872 _ _ ?_
 (try clear hK4872 K4872)
 refine wp_block ?_
 (try simp only [Act.put, List.setIfInBounds_toArray, ls0, ls1])
 refine wp_looped (looped_ind (fun kq4983 a_ w4982 => ∃ (C4981 : Nat → Nat) (x4967 : Int) (x4977 : List Int) (A4969 : Option Addr) (n4970 cp4971 : Nat) (x4968 : List ByteArray) (mb4975 : Nat) (x4974 : List (ByteArray × Int)) (g4980 : Nat → Value), a_ = ⟨#[.slice A0 l0.length c0, (g4980 1), .pointer (some ⟨g4710, 0, none⟩), (g4980 3), (g4980 4), (g4980 5), (g4980 6), (g4980 7), (g4980 8), (g4980 9), (g4980 10), (g4980 11), (g4980 12), .slice A0 l0.length c0, .int .i64 (l0.length : Int), .int .i64 x4967, (g4980 16), (g4980 17), (g4980 18), (g4980 19), (g4980 20), (g4980 21), (g4980 22), (g4980 23), (g4980 24), (g4980 25), (g4980 26), (g4980 27), (g4980 28), (g4980 29), (g4980 30), (g4980 31), (g4980 32), (g4980 33), (g4980 34), (g4980 35), (g4980 36), (g4980 37), (g4980 38), (g4980 39), (g4980 40), (g4980 41), (g4980 42), (g4980 43), (g4980 44), (g4980 45), (g4980 46), (g4980 47), (g4980 48), (g4980 49), (g4980 50), (g4980 51), (g4980 52), (g4980 53), (g4980 54), (g4980 55), (g4980 56), (g4980 57), (g4980 58), (g4980 59), (g4980 60)], []⟩ ∧ Step c w C4981 w4982 [] ∧ kq4983 ≤ k ∧ (Ft C4981 [0] w4982 (fun w_ => k25.C w_ A0 l0.length l0)) ∧ (Own C4981 13 w4982 Kd.string 9 (.slice A4969 n4970 cp4971) x4968) ∧ (n4970 ≤ cp4971) ∧ (Mp Value.string (Value.int .i64) C4981 14 w4982 mb4975 x4974) ∧ (x4977.length = 64) ∧ (Bx C4981 12 w4982 g4710 47 ([.slice A4969 n4970 cp4971, .map (some mb4975)] ++ (List.map (Value.int .u64) x4977 ++ (List.map (Value.int .u64) (List.replicate 64 (0 : Int)))))) ∧ order_New.l1 kq4983 l0 x4967 x4968 x4974 x4977 = some (r1, r2, r3)) ?step k _ _ ?init)
 case init =>
  replace HP0 := Ft.recol (a := 11) (b := 14) HP0 (.inl rfl)
  replace HM4708 := Mp.recolor (y := 14) HM4708
  replace HX4713 := Bx.recol (a := 11) (b := 14) HX4713 (by decide)
  replace HS := Step.recol (a := 11) (b := 14) HS hc (by decide)
  exact ⟨_, 0, (List.replicate 64 (0 : Int)), none, 0, 0, ([] : List ByteArray), mb4705, ([] : List (ByteArray × Int)), (fun q_ => List.getD [undef, undef, undef, .int .i64 0, .int .i64 0, undef, undef, undef, undef, undef, .map (some mb4705), .agg (List.toArray ([.slice none 0 0, .map (some mb4705)] ++ (List.map (Value.int .u64) (List.replicate 64 (0 : Int)) ++ (List.map (Value.int .u64) (List.replicate 64 (0 : Int)))))), .pointer (some ⟨g4710, 0, none⟩), undef, undef, undef, undef, undef, undef, undef, undef, undef, undef, undef, undef, undef, undef, undef, undef, undef, undef, undef, undef, undef, undef, undef, undef, undef, undef, undef, undef, undef, undef, undef, undef, undef, undef, undef, undef, undef, undef, undef, undef, undef, undef, undef, undef, undef, undef, undef, undef] q_ undef), rfl, HS, Nat.le_refl _, HP0, (Own.nil _ _ _ _ _), (Nat.le_refl 0), HM4708, (List.length_replicate), HX4713, H⟩
 case step =>
  intro kq4983 ih4986 a4987 w4982 hr4988
  obtain ⟨C4981, x4967, x4977, A4969, n4970, cp4971, x4968, mb4975, x4974, g4980, rfl, HS4984, hk4985, HJ4966, HJ4973, HC4972, HJ4976, HL4978, HJ4979, H⟩ := hr4988
  refine looped_round ?_
  obtain rfl : n4970 = x4968.length := HJ4973.at_.1
  cases kq4983 with
  | zero => exact absurd H (by simp [order_New.l1])
  | succ k4989 =>
   simp only [order_New.l1] at H
   refine wp_seq_k fun K4990 hK4990 => ?_
   refine wl_region ?_
   refine st (.bool (decide (x4967 < (l0.length : Int)))) rfl rfl (xr_bin (.int .i64 x4967) (.int .i64 (l0.length : Int)) (.bool (decide (x4967 < (l0.length : Int)))) rfl rfl rfl (B.lss_i64 x4967 (l0.length : Int))) ?_
   simp only [ls0, ls1]
   refine wl_end ?_
   (try simp only [Act.put, List.setIfInBounds_toArray, ls0, ls1])
   refine hK4990 _ _ ?_
   (try clear hK4990 K4990)
   refine wp_seq_k fun K4991 hK4991 => ?_
   by_cases c4992 : x4967 < (l0.length : Int)
   ·rw [if_pos c4992] at H
    (try rw [(decide_eq_true c4992)])
    (try simp only [Bool.not_true, Bool.not_false])
    refine wp_cond_true rfl ?_
    refine wp_skip ?_
    (try simp only [Act.put, List.setIfInBounds_toArray, ls0, ls1])
    refine hK4991 _ _ ?_
    (try clear hK4991 K4991)
    refine wp_seq_k fun K4993 hK4993 => ?_
    refine wp_block ?_
    refine wp_seq_k fun K4994 hK4994 => ?_
    refine wl_region ?_
    refine st (.int .i64 x4967) rfl rfl (xr_move (.int .i64 x4967) rfl rfl) ?_
    simp only [ls0, ls1]
    by_cases c4995 : 0 ≤ x4967
    ·rw [if_pos c4995] at H
     obtain ⟨ad4996, hA4997⟩ := c_addr (Ft.now HJ4966) (pos_of (j := x4967) (by first | assumption | decide) (by first | assumption | omega))
     refine st (.pointer (some (ad4996.add ((x4967 : Int).toNat * 3)))) rfl rfl (xr_indexAddr (.slice A0 l0.length c0) (.int .i64 x4967) (.pointer (some (ad4996.add ((x4967 : Int).toNat * 3)))) rfl rfl rfl (index_at Try.underlying22 info25 hA4997 (by first | assumption | decide | omega) (by first | assumption | decide | omega))) ?_
     simp only [ls0, ls1]
     refine st (.agg #[.string ((rd_T25 l0 x4967).f0), .string ((rd_T25 l0 x4967).f1), .int .i64 ((rd_T25 l0 x4967).f2)]) rfl rfl (xr_load (.pointer (some (ad4996.add ((x4967 : Int).toNat * 3)))) (.agg #[.string ((rd_T25 l0 x4967).f0), .string ((rd_T25 l0 x4967).f1), .int .i64 ((rd_T25 l0 x4967).f2)]) rfl rfl (by obtain ⟨ad_, cs_, e_, _, hK_, hc_⟩ := Kd.C_get (Ft.now HJ4966) z25 x4967 (by first | assumption | decide | omega) (by first | assumption | decide | omega); rw [hA4997] at e_; injection e_ with e_; subst e_; obtain rfl := k25_open hK_; exact load_agg (cs := [.string ((rd_T25 l0 x4967).f0), .string ((rd_T25 l0 x4967).f1), .int .i64 ((rd_T25 l0 x4967).f2)]) Try.underlying25 rfl (by kernel_rfl) (fun j_ u_ hu_ => by first | (rw [add_add]; exact hc_ _ _ hu_) | exact add_cells hc_ hu_))) ?_
     simp only [ls0, ls1]
     refine bx_new (C := C4981) 25 ([.string (⟨#[]⟩ : ByteArray), .string (⟨#[]⟩ : ByteArray), .int .i64 0]) 15 rfl rfl (by first | (go_simp; done) | (go_simp; rfl)) ?_
     intro g4999 w5000 C5001 HX5002 hs5003
     replace HJ4966 := HJ4966.thru hs5003 rfl
     replace HJ4979 := HJ4979.thru hs5003 rfl
     replace HJ4973 := HJ4973.thru hs5003 rfl
     replace HJ4976 := HJ4976.thru hs5003 rfl
     replace HS4984 := HS4984.trans hs5003 hc rfl
     (try simp only [Act.put, List.setIfInBounds_toArray, ls0, ls1])
     refine st (.int .i64 x4967) rfl rfl (xr_assign (.int .i64 x4967) rfl rfl) ?_
     simp only [ls0, ls1]
     refine bx_store (C := C5001) (z := 15) (g := g4999) (j := 0) (tb := 25) (u := .agg #[.string ((rd_T25 l0 x4967).f0), .string ((rd_T25 l0 x4967).f1), .int .i64 ((rd_T25 l0 x4967).f2)]) (seg := [.string ((rd_T25 l0 x4967).f0), .string ((rd_T25 l0 x4967).f1), .int .i64 ((rd_T25 l0 x4967).f2)]) (xs := [.string (⟨#[]⟩ : ByteArray), .string (⟨#[]⟩ : ByteArray), .int .i64 0]) rfl rfl rfl rfl rfl rfl (by first | kernel_rfl | rfl) (by simp [Value.oneCell']) HX5002 (by simp only [List.length_cons, List.length_nil]; omega) rfl ?_
     intro w5004 HX5005 hs5006
     replace HJ4966 := HJ4966.thru hs5006 rfl
     replace HJ4979 := HJ4979.thru hs5006 rfl
     replace HJ4973 := HJ4973.thru hs5006 rfl
     replace HJ4976 := HJ4976.thru hs5006 rfl
     replace HS4984 := HS4984.trans hs5006 hc rfl
     (try simp only [Act.put, List.setIfInBounds_toArray, ls0, ls1])
     refine wl_end ?_
     (try simp only [Act.put, List.setIfInBounds_toArray, ls0, ls1])
     refine hK4994 _ _ ?_
     (try clear hK4994 K4994)
     refine wp_seq_k fun K5007 hK5007 => ?_
     refine wl_region ?_
     refine st (.pointer (some ⟨g4710, 0, none⟩)) rfl rfl (xr_move (.pointer (some ⟨g4710, 0, none⟩)) rfl rfl) ?_
     simp only [ls0, ls1]
     refine st (.agg #[.string ((rd_T25 l0 x4967).f0), .string ((rd_T25 l0 x4967).f1), .int .i64 ((rd_T25 l0 x4967).f2)]) rfl rfl (xr_load (.pointer (some ⟨g4999, 0, none⟩)) (.agg #[.string ((rd_T25 l0 x4967).f0), .string ((rd_T25 l0 x4967).f1), .int .i64 ((rd_T25 l0 x4967).f2)]) rfl rfl (load_agg (cs := [.string ((rd_T25 l0 x4967).f0), .string ((rd_T25 l0 x4967).f1), .int .i64 ((rd_T25 l0 x4967).f2)]) Try.underlying25 rfl (by kernel_rfl) (bx_cells (l := ([.string ((rd_T25 l0 x4967).f0), .string ((rd_T25 l0 x4967).f1), .int .i64 ((rd_T25 l0 x4967).f2)])) (HX5005).2 0 rfl))) ?_
     simp only [ls0, ls1]
     obtain ⟨⟨t5008, t5009, t5010, t5011⟩, A5012, H⟩ := Option.bind_eq_some_iff.mp H
     (try dsimp only at H)
     refine st_call #[.pointer (some ⟨g4710, 0, none⟩), .agg #[.string ((rd_T25 l0 x4967).f0), .string ((rd_T25 l0 x4967).f1), .int .i64 ((rd_T25 l0 x4967).f2)]] rfl rfl Try.func18 (by kernel_rfl) rfl rfl (by simp only [List.map_toArray, List.map_cons, List.map_nil]; first | done | rfl) ?_
     refine (order_Order_pair.calls k4989 g4710 A4969 cp4971 x4968 mb4975 x4974 x4977 (List.replicate 64 (0 : Int)) ((rd_T25 l0 x4967).f0) ((rd_T25 l0 x4967).f1) ((rd_T25 l0 x4967).f2) t5008 t5009 t5010 t5011  (fun z_ => pal [(0, 0), (12, 1), (13, 2), (14, 3)] (C5001 z_)) w5004 (fun _ => pal_lt rfl _) (Bx.arg HJ4979 rfl) (Own.arg HJ4973 rfl rfl) HC4972 (Mp.arg HJ4976 rfl) HL4978 (List.length_replicate) A5012).mono ?_
     rintro _ w5014 ⟨C5015, A5017, cp5018, mb5021, rfl, hs5016, HO5019, HC5020, HM5022, HL5023, HX5024⟩
     refine ⟨_, rfl, ?_⟩
     replace HO5019 := Own.res (U := [(0, 0), (1, 12), (2, 13), (3, 14)]) (j := 13) HO5019 hs5016 (by rfl) (by decide) rfl rfl
     replace HM5022 := Mp.res (U := [(0, 0), (1, 12), (2, 13), (3, 14)]) (j := 14) HM5022 hs5016 (by rfl) (by decide) rfl
     replace HX5024 := Bx.res (U := [(0, 0), (1, 12), (2, 13), (3, 14)]) (j := 12) HX5024 hs5016 (by rfl) (by decide) rfl
     replace hs5016 := Step.lift (U := [(0, 0), (1, 12), (2, 13), (3, 14)]) hs5016 [12, 13, 14] rfl rfl
     generalize up C5001 C5015 w5004.heap.size [(0, 0), (1, 12), (2, 13), (3, 14)] = C5015_ at HO5019 HM5022 HX5024 hs5016
     replace HJ4966 := HJ4966.thru hs5016 rfl
     replace HX5005 := HX5005.thru hs5016 rfl
     replace HS4984 := HS4984.trans hs5016 hc rfl
     (try simp only [Act.put, List.setIfInBounds_toArray, ls0, ls1])
     refine st (.int .i64 t5008) rfl rfl (xr_assign (.int .i64 t5008) rfl rfl) ?_
     simp only [ls0, ls1]
     refine wl_end ?_
     (try simp only [Act.put, List.setIfInBounds_toArray, ls0, ls1])
     refine hK5007 _ _ ?_
     (try clear hK5007 K5007)
     refine wp_seq_k fun K5025 hK5025 => ?_
     refine wl_region ?_
     refine st (.int .i64 t5008) rfl rfl (xr_move (.int .i64 t5008) rfl rfl) ?_
     simp only [ls0, ls1]
     refine st (.bool (!decide (t5008 = 0))) rfl rfl (xr_bin (.int .i64 t5008) (.int .i64 0) (.bool (!decide (t5008 = 0))) rfl rfl rfl (B.neq_i64 t5008 0)) ?_
     simp only [ls0, ls1]
     refine wl_end ?_
     (try simp only [Act.put, List.setIfInBounds_toArray, ls0, ls1])
     refine hK5025 _ _ ?_
     (try clear hK5025 K5025)
     by_cases c5026 : t5008 = 0
     ·rw [if_pos c5026] at H
      (try rw [(decide_eq_true c5026)])
      (try simp only [Bool.not_true, Bool.not_false])
      refine wp_cond_false rfl ?_
      refine wp_skip ?_
      (try simp only [Act.put, List.setIfInBounds_toArray, ls0, ls1])
      refine hK4993 _ _ ?_
      (try clear hK4993 K4993)
      refine wl_region ?_
      refine st (.int .i64 (wrap64 (x4967 + 1))) rfl rfl (xr_bin (.int .i64 x4967) (.int .i64 1) (.int .i64 (wrap64 (x4967 + 1))) rfl rfl rfl (B.add_i64 x4967 1)) ?_
      simp only [ls0, ls1]
      refine st (.int .i64 (wrap64 (x4967 + 1))) rfl rfl (xr_move (.int .i64 (wrap64 (x4967 + 1))) rfl rfl) ?_
      simp only [ls0, ls1]
      refine wl_end ?_
      (try simp only [Act.put, List.setIfInBounds_toArray, ls0, ls1])
      exact ih4986 k4989 (by omega) _ _ ⟨_, wrap64 (x4967 + 1), t5011, A5017, t5009.length, cp5018, t5009, mb5021, t5010, (fun q_ => List.getD [undef, (g4980 1), undef, (g4980 3), (g4980 4), .int .i64 x4967, .pointer (some ⟨g4999, 0, none⟩), .int .i64 t5008, (g4980 8), (g4980 9), (g4980 10), (g4980 11), (g4980 12), undef, undef, undef, .bool true, .int .i64 x4967, .pointer (some (ad4996.add ((x4967 : Int).toNat * 3))), .agg #[.string ((rd_T25 l0 x4967).f0), .string ((rd_T25 l0 x4967).f1), .int .i64 ((rd_T25 l0 x4967).f2)], .pointer (some ⟨g4710, 0, none⟩), .agg #[.string ((rd_T25 l0 x4967).f0), .string ((rd_T25 l0 x4967).f1), .int .i64 ((rd_T25 l0 x4967).f2)], .int .i64 t5008, .int .i64 t5008, .bool false, (g4980 25), (g4980 26), .int .i64 (wrap64 (x4967 + 1)), (g4980 28), (g4980 29), (g4980 30), (g4980 31), (g4980 32), (g4980 33), (g4980 34), (g4980 35), (g4980 36), (g4980 37), (g4980 38), (g4980 39), (g4980 40), (g4980 41), (g4980 42), (g4980 43), (g4980 44), (g4980 45), (g4980 46), (g4980 47), (g4980 48), (g4980 49), (g4980 50), (g4980 51), (g4980 52), (g4980 53), (g4980 54), (g4980 55), (g4980 56), (g4980 57), (g4980 58), (g4980 59), (g4980 60)] q_ undef), rfl, HS4984, (by omega), HJ4966, HO5019, HC5020, HM5022, HL5023, HX5024, H⟩
     ·rw [if_neg c5026] at H
      (try rw [(decide_eq_false c5026)])
      (try simp only [Bool.not_true, Bool.not_false])
      refine wp_cond_true rfl ?_
      refine wp_seq_k fun K5027 hK5027 => ?_
      refine wl_region ?_
      refine st (.int .i64 x4967) rfl rfl (xr_move (.int .i64 x4967) rfl rfl) ?_
      simp only [ls0, ls1]
      refine st (.int .i64 t5008) rfl rfl (xr_move (.int .i64 t5008) rfl rfl) ?_
      simp only [ls0, ls1]
      refine st (.pointer none) rfl rfl (xr_assign (.pointer none) rfl rfl) ?_
      simp only [ls0, ls1]
      refine st (.int .i64 x4967) rfl rfl (xr_assign (.int .i64 x4967) rfl rfl) ?_
      simp only [ls0, ls1]
      refine st (.int .i64 t5008) rfl rfl (xr_assign (.int .i64 t5008) rfl rfl) ?_
      simp only [ls0, ls1]
      refine wl_end ?_
      (try simp only [Act.put, List.setIfInBounds_toArray, ls0, ls1])
      refine hK5027 _ _ ?_
      (try clear hK5027 K5027)
      refine wp_ret ?_
      (try simp only [Exit.inBlock, Exit.then, Exit.noGoto])
      (try simp only [Act.put, List.setIfInBounds_toArray, ls0, ls1])
      simp only [Option.some.injEq, Prod.mk.injEq] at H
      obtain ⟨rfl, rfl, rfl⟩ := H
      refine bodyPost_ret (results_tmp3 rfl _ _ _) rfl ?_
      exact ⟨_, (.pointer none), rfl, HS4984, (ptr_nil _ _ _ _ _)⟩
    ·rw [if_neg c4995] at H
     exact absurd H (by simp)
   ·rw [if_neg c4992] at H
    (try rw [(decide_eq_false c4992)])
    (try simp only [Bool.not_true, Bool.not_false])
    refine wp_cond_false rfl ?_
    refine wp_exit ?_
    (try simp only [Act.put, List.setIfInBounds_toArray, ls0, ls1])
    refine hK4715 _ _ ?_
    (try clear hK4715 K4715)
    refine wp_seq_k fun K5028 hK5028 => ?_
    refine wl_region ?_
    refine st (.pointer (some ⟨g4710, 0, none⟩)) rfl rfl (xr_move (.pointer (some ⟨g4710, 0, none⟩)) rfl rfl) ?_
    simp only [ls0, ls1]
    obtain ⟨⟨t5029, t5030⟩, A5031, H⟩ := Option.bind_eq_some_iff.mp H
    (try dsimp only at H)
    refine st_call #[.pointer (some ⟨g4710, 0, none⟩)] rfl rfl Try.func19 (by kernel_rfl) rfl rfl (by simp only [List.map_toArray, List.map_cons, List.map_nil]; first | done | rfl) ?_
    refine (order_Order_close.calls k4989 g4710 A4969 cp4971 x4968 (.map (some mb4975)) x4974 x4977 (List.replicate 64 (0 : Int)) t5029 t5030  (fun z_ => pal [(0, 0), (12, 1), (13, 0), (14, 0)] (C4981 z_)) w4982 (fun _ => pal_lt rfl _) (Bx.arg HJ4979 rfl) (Ft.arg (HJ4973.ft) rfl) HC4972 (Ft.arg (HJ4976.ft) rfl) HL4978 (List.length_replicate) A5031).mono ?_
    rintro _ w5033 ⟨C5034, rfl, hs5035, HL5036, HL5037, HX5038⟩
    refine ⟨_, rfl, ?_⟩
    replace HX5038 := Bx.res (U := [(0, 0), (1, 12)]) (j := 12) HX5038 hs5035 (by rfl) (by decide) rfl
    replace hs5035 := Step.lift (U := [(0, 0), (1, 12)]) hs5035 [12] rfl rfl
    generalize up C4981 C5034 w4982.heap.size [(0, 0), (1, 12)] = C5034_ at HX5038 hs5035
    replace HJ4966 := HJ4966.thru hs5035 rfl
    replace HJ4973 := HJ4973.thru hs5035 rfl
    replace HJ4976 := HJ4976.thru hs5035 rfl
    replace HS4984 := HS4984.trans hs5035 hc rfl
    (try simp only [Act.put, List.setIfInBounds_toArray, ls0, ls1])
    refine wl_end ?_
    (try simp only [Act.put, List.setIfInBounds_toArray, ls0, ls1])
    refine hK5028 _ _ ?_
    (try clear hK5028 K5028)
    refine wp_seq_k fun K5039 hK5039 => ?_
    refine wp_seq_k fun K5040 hK5040 => ?_
    refine wl_region ?_
    refine st (.slice A0 l0.length c0) rfl rfl (xr_move (.slice A0 l0.length c0) rfl rfl) ?_
    simp only [ls0, ls1]
    refine st (.int .i64 (l0.length : Int)) rfl rfl (xr_builtin #[.slice A0 l0.length c0] (.int .i64 (l0.length : Int)) rfl (by simp only [List.map_toArray, List.map_cons, List.map_nil]; first | done | rfl) (by first | rfl | (go_simp; done) | (go_simp; rfl) | (go_simp; exact i64_w _) | (go_simp; exact i32_w _))) ?_
    simp only [ls0, ls1]
    refine st (.int .i64 0) rfl rfl (xr_move (.int .i64 0) rfl rfl) ?_
    simp only [ls0, ls1]
    refine wl_end ?_
    (try simp only [Act.put, List.setIfInBounds_toArray, ls0, ls1])
    refine hK5040 _ _ ?_
    (try clear hK5040 K5040)
    refine wp_block ?_
    (try simp only [Act.put, List.setIfInBounds_toArray, ls0, ls1])
    refine wp_looped (looped_ind (fun kq5134 a_ w5133 => ∃ (C5132 : Nat → Nat) (x5127 : Int) (g5131 : Nat → Value), a_ = ⟨#[(g5131 0), (g5131 1), .pointer (some ⟨g4710, 0, none⟩), (g5131 3), (g5131 4), (g5131 5), (g5131 6), (g5131 7), (g5131 8), (g5131 9), (g5131 10), (g5131 11), (g5131 12), (g5131 13), (g5131 14), (g5131 15), (g5131 16), (g5131 17), (g5131 18), (g5131 19), (g5131 20), (g5131 21), (g5131 22), (g5131 23), (g5131 24), (g5131 25), (g5131 26), (g5131 27), (g5131 28), (g5131 29), .slice A0 l0.length c0, .int .i64 (l0.length : Int), .int .i64 x5127, (g5131 33), (g5131 34), (g5131 35), (g5131 36), (g5131 37), (g5131 38), (g5131 39), (g5131 40), (g5131 41), (g5131 42), (g5131 43), (g5131 44), (g5131 45), (g5131 46), (g5131 47), (g5131 48), (g5131 49), (g5131 50), (g5131 51), (g5131 52), (g5131 53), (g5131 54), (g5131 55), (g5131 56), (g5131 57), (g5131 58), (g5131 59), (g5131 60)], []⟩ ∧ Step c w C5132 w5133 [] ∧ kq5134 ≤ k4989 ∧ (Ft C5132 [0] w5133 (fun w_ => k25.C w_ A0 l0.length l0)) ∧ (Own C5132 13 w5133 Kd.string 9 (.slice A4969 x4968.length cp4971) x4968) ∧ (Mp Value.string (Value.int .i64) C5132 14 w5133 mb4975 x4974) ∧ (Bx C5132 12 w5133 g4710 47 ([.slice A4969 x4968.length cp4971, .map (some mb4975)] ++ (List.map (Value.int .u64) t5029 ++ (List.map (Value.int .u64) t5030)))) ∧ order_New.l0 kq5134 l0 t5029 t5030 x4968 x4974 x5127 = some (r1, r2, r3)) ?step k4989 _ _ ?init)
    case init =>
     exact ⟨_, 0, (fun q_ => List.getD [.slice A0 l0.length c0, (g4980 1), undef, (g4980 3), (g4980 4), (g4980 5), (g4980 6), (g4980 7), (g4980 8), (g4980 9), (g4980 10), (g4980 11), (g4980 12), .slice A0 l0.length c0, .int .i64 (l0.length : Int), .int .i64 x4967, .bool false, (g4980 17), (g4980 18), (g4980 19), (g4980 20), (g4980 21), (g4980 22), (g4980 23), (g4980 24), (g4980 25), (g4980 26), (g4980 27), .pointer (some ⟨g4710, 0, none⟩), .tuple #[], undef, undef, undef, (g4980 33), (g4980 34), (g4980 35), (g4980 36), (g4980 37), (g4980 38), (g4980 39), (g4980 40), (g4980 41), (g4980 42), (g4980 43), (g4980 44), (g4980 45), (g4980 46), (g4980 47), (g4980 48), (g4980 49), (g4980 50), (g4980 51), (g4980 52), (g4980 53), (g4980 54), (g4980 55), (g4980 56), (g4980 57), (g4980 58), (g4980 59), (g4980 60)] q_ undef), rfl, HS4984, Nat.le_refl _, HJ4966, HJ4973, HJ4976, HX5038, H⟩
    case step =>
     intro kq5134 ih5137 a5138 w5133 hr5139
     obtain ⟨C5132, x5127, g5131, rfl, HS5135, hk5136, HJ5126, HJ5128, HJ5129, HJ5130, H⟩ := hr5139
     refine looped_round ?_
     cases kq5134 with
     | zero => exact absurd H (by simp [order_New.l0])
     | succ k5140 =>
      simp only [order_New.l0] at H
      refine wp_seq_k fun K5141 hK5141 => ?_
      refine wl_region ?_
      refine st (.bool (decide (x5127 < (l0.length : Int)))) rfl rfl (xr_bin (.int .i64 x5127) (.int .i64 (l0.length : Int)) (.bool (decide (x5127 < (l0.length : Int)))) rfl rfl rfl (B.lss_i64 x5127 (l0.length : Int))) ?_
      simp only [ls0, ls1]
      refine wl_end ?_
      (try simp only [Act.put, List.setIfInBounds_toArray, ls0, ls1])
      refine hK5141 _ _ ?_
      (try clear hK5141 K5141)
      refine wp_seq_k fun K5142 hK5142 => ?_
      by_cases c5143 : x5127 < (l0.length : Int)
      ·rw [if_pos c5143] at H
       (try rw [(decide_eq_true c5143)])
       (try simp only [Bool.not_true, Bool.not_false])
       refine wp_cond_true rfl ?_
       refine wp_skip ?_
       (try simp only [Act.put, List.setIfInBounds_toArray, ls0, ls1])
       refine hK5142 _ _ ?_
       (try clear hK5142 K5142)
       refine wp_seq_k fun K5144 hK5144 => ?_
       refine wp_block ?_
       refine wp_seq_k fun K5145 hK5145 => ?_
       refine wl_region ?_
       refine st (.int .i64 x5127) rfl rfl (xr_move (.int .i64 x5127) rfl rfl) ?_
       simp only [ls0, ls1]
       by_cases c5146 : 0 ≤ x5127
       ·rw [if_pos c5146] at H
        obtain ⟨ad5147, hA5148⟩ := c_addr (Ft.now HJ5126) (pos_of (j := x5127) (by first | assumption | decide) (by first | assumption | omega))
        refine st (.pointer (some (ad5147.add ((x5127 : Int).toNat * 3)))) rfl rfl (xr_indexAddr (.slice A0 l0.length c0) (.int .i64 x5127) (.pointer (some (ad5147.add ((x5127 : Int).toNat * 3)))) rfl rfl rfl (index_at Try.underlying22 info25 hA5148 (by first | assumption | decide | omega) (by first | assumption | decide | omega))) ?_
        simp only [ls0, ls1]
        refine st (.agg #[.string ((rd_T25 l0 x5127).f0), .string ((rd_T25 l0 x5127).f1), .int .i64 ((rd_T25 l0 x5127).f2)]) rfl rfl (xr_load (.pointer (some (ad5147.add ((x5127 : Int).toNat * 3)))) (.agg #[.string ((rd_T25 l0 x5127).f0), .string ((rd_T25 l0 x5127).f1), .int .i64 ((rd_T25 l0 x5127).f2)]) rfl rfl (by obtain ⟨ad_, cs_, e_, _, hK_, hc_⟩ := Kd.C_get (Ft.now HJ5126) z25 x5127 (by first | assumption | decide | omega) (by first | assumption | decide | omega); rw [hA5148] at e_; injection e_ with e_; subst e_; obtain rfl := k25_open hK_; exact load_agg (cs := [.string ((rd_T25 l0 x5127).f0), .string ((rd_T25 l0 x5127).f1), .int .i64 ((rd_T25 l0 x5127).f2)]) Try.underlying25 rfl (by kernel_rfl) (fun j_ u_ hu_ => by first | (rw [add_add]; exact hc_ _ _ hu_) | exact add_cells hc_ hu_))) ?_
        simp only [ls0, ls1]
        refine bx_new (C := C5132) 25 ([.string (⟨#[]⟩ : ByteArray), .string (⟨#[]⟩ : ByteArray), .int .i64 0]) 15 rfl rfl (by first | (go_simp; done) | (go_simp; rfl)) ?_
        intro g5150 w5151 C5152 HX5153 hs5154
        replace HJ5126 := HJ5126.thru hs5154 rfl
        replace HJ5130 := HJ5130.thru hs5154 rfl
        replace HJ5128 := HJ5128.thru hs5154 rfl
        replace HJ5129 := HJ5129.thru hs5154 rfl
        replace HS5135 := HS5135.trans hs5154 hc rfl
        (try simp only [Act.put, List.setIfInBounds_toArray, ls0, ls1])
        refine st (.int .i64 x5127) rfl rfl (xr_assign (.int .i64 x5127) rfl rfl) ?_
        simp only [ls0, ls1]
        refine bx_store (C := C5152) (z := 15) (g := g5150) (j := 0) (tb := 25) (u := .agg #[.string ((rd_T25 l0 x5127).f0), .string ((rd_T25 l0 x5127).f1), .int .i64 ((rd_T25 l0 x5127).f2)]) (seg := [.string ((rd_T25 l0 x5127).f0), .string ((rd_T25 l0 x5127).f1), .int .i64 ((rd_T25 l0 x5127).f2)]) (xs := [.string (⟨#[]⟩ : ByteArray), .string (⟨#[]⟩ : ByteArray), .int .i64 0]) rfl rfl rfl rfl rfl rfl (by first | kernel_rfl | rfl) (by simp [Value.oneCell']) HX5153 (by simp only [List.length_cons, List.length_nil]; omega) rfl ?_
        intro w5155 HX5156 hs5157
        replace HJ5126 := HJ5126.thru hs5157 rfl
        replace HJ5130 := HJ5130.thru hs5157 rfl
        replace HJ5128 := HJ5128.thru hs5157 rfl
        replace HJ5129 := HJ5129.thru hs5157 rfl
        replace HS5135 := HS5135.trans hs5157 hc rfl
        (try simp only [Act.put, List.setIfInBounds_toArray, ls0, ls1])
        refine wl_end ?_
        (try simp only [Act.put, List.setIfInBounds_toArray, ls0, ls1])
        refine hK5145 _ _ ?_
        (try clear hK5145 K5145)
        refine wp_seq_k fun K5158 hK5158 => ?_
        (try simp only [Act.put, List.setIfInBounds_toArray, ls0, ls1])
        refine al_start #[false, false, false, false, false, false, false, false, false, false, false, false, false, false, false, false, false, false, false, false, false] rfl rfl rfl (fun w_ => w_.heap[g4710]? = some (.cells (List.toArray ([.slice A4969 x4968.length cp4971, .map (some mb4975)] ++ (List.map (Value.int .u64) t5029 ++ (List.map (Value.int .u64) t5030)))) 47 (0, 0)) ∧ w_.heap[g5150]? = some (.cells (List.toArray ([.string ((rd_T25 l0 x5127).f0), .string ((rd_T25 l0 x5127).f1), .int .i64 ((rd_T25 l0 x5127).f2)])) 25 (0, 0)) ∧ Kd.MapIs Value.string (Value.int .i64) w_ mb4975 x4974) ⟨(HJ5130.drew).2, (HX5156.drew).2, (HJ5129.drew).2⟩ [] ?_
        replace HJ5126 := HJ5126.drew
        replace HJ5130 := HJ5130.drew
        replace HJ5128 := HJ5128.drew
        replace HJ5129 := HJ5129.drew
        replace HX5156 := HX5156.drew
        replace HS5135 := Step.ofDrew HS5135
        generalize w5155.drew = w5168 at *
        refine al_pure 0 37 (.pointer (some ⟨g5150, 1, none⟩)) #[true, false, false, false, false, false, false, false, false, false, false, false, false, false, false, false, false, false, false, false, false] rfl rfl (by kernel_rfl) (fun _ _ _ h_ => h_) rfl (fun w_ => xr_fieldAddr (.pointer (some ⟨g5150, 0, none⟩)) (.pointer (some ⟨g5150, 1, none⟩)) rfl rfl (bx_field2 Try.underlying25 rfl rfl (by kernel_rfl))) ?_
        simp only [ls0, ls1]
        refine al_take 1 38 (.string ((rd_T25 l0 x5127).f1)) #[true, true, false, false, false, false, false, false, false, false, false, false, false, false, false, false, false, false, false, false, false] rfl rfl (by kernel_rfl) (fun _ _ _ h_ => h_) rfl (fun w_ hS_ => xr_load (.pointer (some ⟨g5150, 1, none⟩)) (.string ((rd_T25 l0 x5127).f1)) rfl rfl (load_cell Try.underlying9 rfl (bx_cell (l := ([.string ((rd_T25 l0 x5127).f0), .string ((rd_T25 l0 x5127).f1), .int .i64 ((rd_T25 l0 x5127).f2)])) hS_.2.1 1 rfl))) ⟨(HJ5130).2, (HX5156).2, (HJ5129).2⟩ ?_
        simp only [ls0, ls1]
        refine al_pure 2 39 (.bool (!decide (((rd_T25 l0 x5127).f1) = (⟨#[]⟩ : ByteArray)))) #[true, true, true, false, false, false, false, false, false, false, false, false, false, false, false, false, false, false, false, false, false] rfl rfl (by kernel_rfl) (fun _ _ _ h_ => h_) rfl (fun w_ => xr_bin (.string ((rd_T25 l0 x5127).f1)) (.string (⟨#[]⟩ : ByteArray)) (.bool (!decide (((rd_T25 l0 x5127).f1) = (⟨#[]⟩ : ByteArray)))) rfl rfl rfl (B.neq_str ((rd_T25 l0 x5127).f1) (⟨#[]⟩ : ByteArray))) ?_
        simp only [ls0, ls1]
        refine al_pure 3 40 (.bool (!decide (((rd_T25 l0 x5127).f1) = (⟨#[]⟩ : ByteArray)))) #[true, true, true, true, false, false, false, false, false, false, false, false, false, false, false, false, false, false, false, false, false] rfl rfl (by kernel_rfl) (fun _ _ _ h_ => h_) rfl (fun w_ => xr_move (.bool (!decide (((rd_T25 l0 x5127).f1) = (⟨#[]⟩ : ByteArray)))) rfl rfl) ?_
        simp only [ls0, ls1]
        by_cases c5169 : ((rd_T25 l0 x5127).f1) = (⟨#[]⟩ : ByteArray)
        ·rw [if_pos c5169] at H
         (try rw [(decide_eq_true c5169)])
         (try simp only [Bool.not_true, Bool.not_false])
         refine al_off 4 41 #[true, true, true, true, true, false, false, false, false, false, false, false, false, false, false, false, false, false, false, false, false] rfl rfl (by kernel_rfl) (fun _ _ _ h_ => h_) (guard_off 3 true 40 rfl rfl false (by decide) rfl) ?_
         simp only [ls0, ls1]
         refine al_off 5 42 #[true, true, true, true, true, true, false, false, false, false, false, false, false, false, false, false, false, false, false, false, false] rfl rfl (by kernel_rfl) (fun _ _ _ h_ => h_) (guard_off 3 true 40 rfl rfl false (by decide) rfl) ?_
         simp only [ls0, ls1]
         refine al_off 6 43 #[true, true, true, true, true, true, true, false, false, false, false, false, false, false, false, false, false, false, false, false, false] rfl rfl (by kernel_rfl) (fun _ _ _ h_ => h_) (guard_off 3 true 40 rfl rfl false (by decide) rfl) ?_
         simp only [ls0, ls1]
         refine al_off 7 44 #[true, true, true, true, true, true, true, true, false, false, false, false, false, false, false, false, false, false, false, false, false] rfl rfl (by kernel_rfl) (fun _ _ _ h_ => h_) (guard_off 3 true 40 rfl rfl false (by decide) rfl) ?_
         simp only [ls0, ls1]
         refine al_off 8 45 #[true, true, true, true, true, true, true, true, true, false, false, false, false, false, false, false, false, false, false, false, false] rfl rfl (by kernel_rfl) (fun _ _ _ h_ => h_) (guard_off 3 true 40 rfl rfl false (by decide) rfl) ?_
         simp only [ls0, ls1]
         refine al_off 9 46 #[true, true, true, true, true, true, true, true, true, true, false, false, false, false, false, false, false, false, false, false, false] rfl rfl (by kernel_rfl) (fun _ _ _ h_ => h_) (guard_off 3 true 40 rfl rfl false (by decide) rfl) ?_
         simp only [ls0, ls1]
         refine al_off 10 47 #[true, true, true, true, true, true, true, true, true, true, true, false, false, false, false, false, false, false, false, false, false] rfl rfl (by kernel_rfl) (fun _ _ _ h_ => h_) (guard_off 3 true 40 rfl rfl false (by decide) rfl) ?_
         simp only [ls0, ls1]
         refine al_off 11 48 #[true, true, true, true, true, true, true, true, true, true, true, true, false, false, false, false, false, false, false, false, false] rfl rfl (by kernel_rfl) (fun _ _ _ h_ => h_) (guard_off 3 true 40 rfl rfl false (by decide) rfl) ?_
         simp only [ls0, ls1]
         refine al_off 12 49 #[true, true, true, true, true, true, true, true, true, true, true, true, true, false, false, false, false, false, false, false, false] rfl rfl (by kernel_rfl) (fun _ _ _ h_ => h_) (guard_off 3 true 40 rfl rfl false (by decide) rfl) ?_
         simp only [ls0, ls1]
         refine al_off 13 50 #[true, true, true, true, true, true, true, true, true, true, true, true, true, true, false, false, false, false, false, false, false] rfl rfl (by kernel_rfl) (fun _ _ _ h_ => h_) (guard_off 3 true 40 rfl rfl false (by decide) rfl) ?_
         simp only [ls0, ls1]
         refine al_off 14 51 #[true, true, true, true, true, true, true, true, true, true, true, true, true, true, true, false, false, false, false, false, false] rfl rfl (by kernel_rfl) (fun _ _ _ h_ => h_) (guard_off 3 true 40 rfl rfl false (by decide) rfl) ?_
         simp only [ls0, ls1]
         refine al_off 15 52 #[true, true, true, true, true, true, true, true, true, true, true, true, true, true, true, true, false, false, false, false, false] rfl rfl (by kernel_rfl) (fun _ _ _ h_ => h_) (guard_off 3 true 40 rfl rfl false (by decide) rfl) ?_
         simp only [ls0, ls1]
         refine al_off 16 53 #[true, true, true, true, true, true, true, true, true, true, true, true, true, true, true, true, true, false, false, false, false] rfl rfl (by kernel_rfl) (fun _ _ _ h_ => h_) (guard_off 3 true 40 rfl rfl false (by decide) rfl) ?_
         simp only [ls0, ls1]
         refine al_off 17 54 #[true, true, true, true, true, true, true, true, true, true, true, true, true, true, true, true, true, true, false, false, false] rfl rfl (by kernel_rfl) (fun _ _ _ h_ => h_) (guard_off 3 true 40 rfl rfl false (by decide) rfl) ?_
         simp only [ls0, ls1]
         refine al_off 18 55 #[true, true, true, true, true, true, true, true, true, true, true, true, true, true, true, true, true, true, true, false, false] rfl rfl (by kernel_rfl) (fun _ _ _ h_ => h_) (guard_off 3 true 40 rfl rfl false (by decide) rfl) ?_
         simp only [ls0, ls1]
         refine al_off 19 56 #[true, true, true, true, true, true, true, true, true, true, true, true, true, true, true, true, true, true, true, true, false] rfl rfl (by kernel_rfl) (fun _ _ _ h_ => h_) (guard_off 3 true 40 rfl rfl false (by decide) rfl) ?_
         simp only [ls0, ls1]
         refine al_pure 20 57 (.bool false) #[true, true, true, true, true, true, true, true, true, true, true, true, true, true, true, true, true, true, true, true, true] rfl rfl (by kernel_rfl) (fun _ _ _ h_ => h_) rfl (fun w_ => xr_pick false (.bool false) rfl rfl rfl) ?_
         simp only [ls0, ls1]
         refine al_end (by kernel_rfl) ?_
         (try simp only [Act.put, List.setIfInBounds_toArray, ls0, ls1])
         refine hK5158 _ _ ?_
         (try clear hK5158 K5158)
         refine wp_cond_false rfl ?_
         refine wp_skip ?_
         (try simp only [Act.put, List.setIfInBounds_toArray, ls0, ls1])
         refine hK5144 _ _ ?_
         (try clear hK5144 K5144)
         refine wl_region ?_
         refine st (.int .i64 (wrap64 (x5127 + 1))) rfl rfl (xr_bin (.int .i64 x5127) (.int .i64 1) (.int .i64 (wrap64 (x5127 + 1))) rfl rfl rfl (B.add_i64 x5127 1)) ?_
         simp only [ls0, ls1]
         refine st (.int .i64 (wrap64 (x5127 + 1))) rfl rfl (xr_move (.int .i64 (wrap64 (x5127 + 1))) rfl rfl) ?_
         simp only [ls0, ls1]
         refine wl_end ?_
         (try simp only [Act.put, List.setIfInBounds_toArray, ls0, ls1])
         exact ih5137 k5140 (by omega) _ _ ⟨_, wrap64 (x5127 + 1), (fun q_ => List.getD [(g5131 0), (g5131 1), undef, (g5131 3), (g5131 4), (g5131 5), (g5131 6), (g5131 7), .int .i64 x5127, .pointer (some ⟨g5150, 0, none⟩), (g5131 10), (g5131 11), (g5131 12), (g5131 13), (g5131 14), (g5131 15), (g5131 16), (g5131 17), (g5131 18), (g5131 19), (g5131 20), (g5131 21), (g5131 22), (g5131 23), (g5131 24), (g5131 25), (g5131 26), (g5131 27), (g5131 28), (g5131 29), undef, undef, undef, .bool true, .int .i64 x5127, .pointer (some (ad5147.add ((x5127 : Int).toNat * 3))), .agg #[.string ((rd_T25 l0 x5127).f0), .string ((rd_T25 l0 x5127).f1), .int .i64 ((rd_T25 l0 x5127).f2)], .pointer (some ⟨g5150, 1, none⟩), .string ((rd_T25 l0 x5127).f1), .bool false, .bool false, undef, undef, undef, undef, undef, undef, undef, undef, undef, undef, undef, undef, undef, undef, undef, undef, .bool false, (g5131 58), .int .i64 (wrap64 (x5127 + 1)), (g5131 60)] q_ undef), rfl, HS5135, (by omega), HJ5126, HJ5128, HJ5129, HJ5130, H⟩
        ·rw [if_neg c5169] at H
         (try rw [(decide_eq_false c5169)])
         (try simp only [Bool.not_true, Bool.not_false])
         refine al_pure 4 41 (.pointer (some ⟨g4710, 0, none⟩)) #[true, true, true, true, true, false, false, false, false, false, false, false, false, false, false, false, false, false, false, false, false] rfl rfl (by kernel_rfl) (fun _ _ _ h_ => h_) (guard_on 3 true 40 rfl rfl rfl) (fun w_ => xr_move (.pointer (some ⟨g4710, 0, none⟩)) rfl rfl) ?_
         simp only [ls0, ls1]
         refine al_pure 5 42 (.pointer (some ⟨g4710, 0, none⟩)) #[true, true, true, true, true, true, false, false, false, false, false, false, false, false, false, false, false, false, false, false, false] rfl rfl (by kernel_rfl) (fun _ _ _ h_ => h_) (guard_on 3 true 40 rfl rfl rfl) (fun w_ => xr_move (.pointer (some ⟨g4710, 0, none⟩)) rfl rfl) ?_
         simp only [ls0, ls1]
         refine al_pure 6 43 (.pointer (some ⟨g4710, 0, none⟩)) #[true, true, true, true, true, true, true, false, false, false, false, false, false, false, false, false, false, false, false, false, false] rfl rfl (by kernel_rfl) (fun _ _ _ h_ => h_) (guard_on 3 true 40 rfl rfl rfl) (fun w_ => xr_nilCheck ⟨g4710, 0, none⟩ rfl rfl) ?_
         simp only [ls0, ls1]
         refine al_pure 7 44 (.pointer (some ⟨g4710, 1, none⟩)) #[true, true, true, true, true, true, true, true, false, false, false, false, false, false, false, false, false, false, false, false, false] rfl rfl (by kernel_rfl) (fun _ _ _ h_ => h_) (guard_on 3 true 40 rfl rfl rfl) (fun w_ => xr_fieldAddr (.pointer (some ⟨g4710, 0, none⟩)) (.pointer (some ⟨g4710, 1, none⟩)) rfl rfl (bx_field2 Try.underlying47 rfl rfl (by kernel_rfl))) ?_
         simp only [ls0, ls1]
         refine al_pure 9 46 (.pointer (some ⟨g5150, 1, none⟩)) #[true, true, true, true, true, true, true, true, false, true, false, false, false, false, false, false, false, false, false, false, false] rfl rfl (by kernel_rfl) (fun _ _ _ h_ => h_) (guard_on 3 true 40 rfl rfl rfl) (fun w_ => xr_fieldAddr (.pointer (some ⟨g5150, 0, none⟩)) (.pointer (some ⟨g5150, 1, none⟩)) rfl rfl (bx_field2 Try.underlying25 rfl rfl (by kernel_rfl))) ?_
         simp only [ls0, ls1]
         refine al_pure 12 49 (.pointer (some ⟨g4710, 0, none⟩)) #[true, true, true, true, true, true, true, true, false, true, false, false, true, false, false, false, false, false, false, false, false] rfl rfl (by kernel_rfl) (fun _ _ _ h_ => h_) (guard_on 3 true 40 rfl rfl rfl) (fun w_ => xr_move (.pointer (some ⟨g4710, 0, none⟩)) rfl rfl) ?_
         simp only [ls0, ls1]
         refine al_pure 13 50 (.pointer (some ⟨g4710, 0, none⟩)) #[true, true, true, true, true, true, true, true, false, true, false, false, true, true, false, false, false, false, false, false, false] rfl rfl (by kernel_rfl) (fun _ _ _ h_ => h_) (guard_on 3 true 40 rfl rfl rfl) (fun w_ => xr_nilCheck ⟨g4710, 0, none⟩ rfl rfl) ?_
         simp only [ls0, ls1]
         refine al_pure 14 51 (.pointer (some ⟨g4710, 1, none⟩)) #[true, true, true, true, true, true, true, true, false, true, false, false, true, true, true, false, false, false, false, false, false] rfl rfl (by kernel_rfl) (fun _ _ _ h_ => h_) (guard_on 3 true 40 rfl rfl rfl) (fun w_ => xr_fieldAddr (.pointer (some ⟨g4710, 0, none⟩)) (.pointer (some ⟨g4710, 1, none⟩)) rfl rfl (bx_field2 Try.underlying47 rfl rfl (by kernel_rfl))) ?_
         simp only [ls0, ls1]
         refine al_pure 16 53 (.pointer (some ⟨g5150, 0, none⟩)) #[true, true, true, true, true, true, true, true, false, true, false, false, true, true, true, false, true, false, false, false, false] rfl rfl (by kernel_rfl) (fun _ _ _ h_ => h_) (guard_on 3 true 40 rfl rfl rfl) (fun w_ => xr_fieldAddr (.pointer (some ⟨g5150, 0, none⟩)) (.pointer (some ⟨g5150, 0, none⟩)) rfl rfl (bx_field2 Try.underlying25 rfl rfl (by kernel_rfl))) ?_
         simp only [ls0, ls1]
         refine al_take 8 45 (.map (some mb4975)) #[true, true, true, true, true, true, true, true, true, true, false, false, true, true, true, false, true, false, false, false, false] rfl rfl (by kernel_rfl) (fun _ _ _ h_ => h_) (guard_on 3 true 40 rfl rfl rfl) (fun w_ hS_ => xr_load (.pointer (some ⟨g4710, 1, none⟩)) (.map (some mb4975)) rfl rfl (load_cell Try.underlying43 rfl (bx_cell (l := ([.slice A4969 x4968.length cp4971, .map (some mb4975)] ++ (List.map (Value.int .u64) t5029 ++ (List.map (Value.int .u64) t5030)))) hS_.1 1 rfl))) ⟨(HJ5130).2, (HX5156).2, (HJ5129).2⟩ ?_
         simp only [ls0, ls1]
         refine al_take 10 47 (.string ((rd_T25 l0 x5127).f1)) #[true, true, true, true, true, true, true, true, true, true, true, false, true, true, true, false, true, false, false, false, false] rfl rfl (by kernel_rfl) (fun _ _ _ h_ => h_) (guard_on 3 true 40 rfl rfl rfl) (fun w_ hS_ => xr_load (.pointer (some ⟨g5150, 1, none⟩)) (.string ((rd_T25 l0 x5127).f1)) rfl rfl (load_cell Try.underlying9 rfl (bx_cell (l := ([.string ((rd_T25 l0 x5127).f0), .string ((rd_T25 l0 x5127).f1), .int .i64 ((rd_T25 l0 x5127).f2)])) hS_.2.1 1 rfl))) ⟨(HJ5130).2, (HX5156).2, (HJ5129).2⟩ ?_
         simp only [ls0, ls1]
         refine al_take 11 48 (.int .i64 (mget 0 x4974 ((rd_T25 l0 x5127).f1))) #[true, true, true, true, true, true, true, true, true, true, true, true, true, true, true, false, true, false, false, false, false] rfl rfl (by kernel_rfl) (fun _ _ _ h_ => h_) (guard_on 3 true 40 rfl rfl rfl) (fun w_ hS_ => xr_lookup (.map (some mb4975)) (.string ((rd_T25 l0 x5127).f1)) (.int .i64 (mget 0 x4974 ((rd_T25 l0 x5127).f1))) rfl rfl rfl (look_map (z := 0) (keyK_str Try.underlying9) Try.underlying43 info3 hS_.2.2 ((rd_T25 l0 x5127).f1) false)) ⟨(HJ5130).2, (HX5156).2, (HJ5129).2⟩ ?_
         simp only [ls0, ls1]
         refine al_take 15 52 (.map (some mb4975)) #[true, true, true, true, true, true, true, true, true, true, true, true, true, true, true, true, true, false, false, false, false] rfl rfl (by kernel_rfl) (fun _ _ _ h_ => h_) (guard_on 3 true 40 rfl rfl rfl) (fun w_ hS_ => xr_load (.pointer (some ⟨g4710, 1, none⟩)) (.map (some mb4975)) rfl rfl (load_cell Try.underlying43 rfl (bx_cell (l := ([.slice A4969 x4968.length cp4971, .map (some mb4975)] ++ (List.map (Value.int .u64) t5029 ++ (List.map (Value.int .u64) t5030)))) hS_.1 1 rfl))) ⟨(HJ5130).2, (HX5156).2, (HJ5129).2⟩ ?_
         simp only [ls0, ls1]
         refine al_take 17 54 (.string ((rd_T25 l0 x5127).f0)) #[true, true, true, true, true, true, true, true, true, true, true, true, true, true, true, true, true, true, false, false, false] rfl rfl (by kernel_rfl) (fun _ _ _ h_ => h_) (guard_on 3 true 40 rfl rfl rfl) (fun w_ hS_ => xr_load (.pointer (some ⟨g5150, 0, none⟩)) (.string ((rd_T25 l0 x5127).f0)) rfl rfl (load_cell Try.underlying9 rfl (bx_cell (l := ([.string ((rd_T25 l0 x5127).f0), .string ((rd_T25 l0 x5127).f1), .int .i64 ((rd_T25 l0 x5127).f2)])) hS_.2.1 0 rfl))) ⟨(HJ5130).2, (HX5156).2, (HJ5129).2⟩ ?_
         simp only [ls0, ls1]
         refine al_take 18 55 (.int .i64 (mget 0 x4974 ((rd_T25 l0 x5127).f0))) #[true, true, true, true, true, true, true, true, true, true, true, true, true, true, true, true, true, true, true, false, false] rfl rfl (by kernel_rfl) (fun _ _ _ h_ => h_) (guard_on 3 true 40 rfl rfl rfl) (fun w_ hS_ => xr_lookup (.map (some mb4975)) (.string ((rd_T25 l0 x5127).f0)) (.int .i64 (mget 0 x4974 ((rd_T25 l0 x5127).f0))) rfl rfl rfl (look_map (z := 0) (keyK_str Try.underlying9) Try.underlying43 info3 hS_.2.2 ((rd_T25 l0 x5127).f0) false)) ⟨(HJ5130).2, (HX5156).2, (HJ5129).2⟩ ?_
         simp only [ls0, ls1]
         have HP5170 : Ft C5152 [0, 12, 13, 14] w5168 (fun w_ => (Kd.ptr 47 k47).K w_ (some (⟨x4968, x4974, t5029, t5030⟩ : S47)) [.pointer (some ⟨g4710, 0, none⟩)]) := ptr_mk (Ft.more (HJ5130.ft) rfl) (k47_mkF _ _ (⟨x4968, x4974, t5029, t5030⟩ : S47) HC4972 (Ft.more (HJ5128.ft) rfl) (Ft.more (HJ5129.ft) rfl) HL5036 HL5037)
         obtain ⟨t5171, A5172, H⟩ := Option.bind_eq_some_iff.mp H
         (try dsimp only at H)
         refine al_one 19 #[true, true, true, true, true, true, true, true, true, true, true, true, true, true, true, true, true, true, true, true, false] rfl rfl (by kernel_rfl) rfl (fun K_ hK_ => ?_)
         refine goes_ Try.func11 (by kernel_rfl) rfl #[.pointer (some ⟨g4710, 0, none⟩), .int .i64 (mget 0 x4974 ((rd_T25 l0 x5127).f1)), .int .i64 (mget 0 x4974 ((rd_T25 l0 x5127).f0))] (guard_on 3 true 40 rfl rfl rfl) rfl rfl (by rw [map_ev]; simp only [List.map_toArray, List.map_cons, List.map_nil]; first | done | rfl) ?_
         refine (order_Order_Most.calls (.pointer (some ⟨g4710, 0, none⟩)) (some (⟨x4968, x4974, t5029, t5030⟩ : S47) : Option S47) (mget 0 x4974 ((rd_T25 l0 x5127).f1)) (mget 0 x4974 ((rd_T25 l0 x5127).f0)) t5171  (fun z_ => pal [(0, 0), (12, 0), (13, 0), (14, 0)] (C5152 z_)) w5168 (fun _ => pal_lt rfl _) (Ft.arg HP5170 rfl) A5172).mono ?_
         rintro _ w5174 ⟨C5175, rfl, hs5176⟩
         refine ⟨_, rfl, ?_⟩
         replace hs5176 := Step.lift (U := [(0, 0)]) hs5176 [] rfl rfl
         generalize up C5152 C5175 w5168.heap.size [(0, 0)] = C5175_ at hs5176
         replace HJ5126 := HJ5126.thru hs5176 rfl
         replace HJ5130 := HJ5130.thru hs5176 rfl
         replace HJ5128 := HJ5128.thru hs5176 rfl
         replace HJ5129 := HJ5129.thru hs5176 rfl
         replace HX5156 := HX5156.thru hs5176 rfl
         replace HS5135 := HS5135.trans hs5176 hc rfl
         refine hK_ _ _ ⟨(HJ5130).2, (HX5156).2, (HJ5129).2⟩ ?_
         clear hK_ K_
         (try simp only [Act.put, List.setIfInBounds_toArray, ls0, ls1])
         refine al_pure 20 57 (.bool t5171) #[true, true, true, true, true, true, true, true, true, true, true, true, true, true, true, true, true, true, true, true, true] rfl rfl (by kernel_rfl) (fun _ _ _ h_ => h_) rfl (fun w_ => xr_pick true (.bool t5171) rfl rfl rfl) ?_
         simp only [ls0, ls1]
         refine al_end (by kernel_rfl) ?_
         (try simp only [Act.put, List.setIfInBounds_toArray, ls0, ls1])
         refine hK5158 _ _ ?_
         (try clear hK5158 K5158)
         by_cases c5177 : t5171 = true
         ·rw [if_pos c5177] at H
          (try rw [c5177])
          (try simp only [Bool.not_true, Bool.not_false])
          refine wp_cond_true rfl ?_
          refine wp_seq_k fun K5178 hK5178 => ?_
          refine wl_region ?_
          refine st (.int .i64 x5127) rfl rfl (xr_move (.int .i64 x5127) rfl rfl) ?_
          simp only [ls0, ls1]
          refine st (.pointer none) rfl rfl (xr_assign (.pointer none) rfl rfl) ?_
          simp only [ls0, ls1]
          refine st (.int .i64 x5127) rfl rfl (xr_assign (.int .i64 x5127) rfl rfl) ?_
          simp only [ls0, ls1]
          refine st (.int .i64 16) rfl rfl (xr_assign (.int .i64 16) rfl rfl) ?_
          simp only [ls0, ls1]
          refine wl_end ?_
          (try simp only [Act.put, List.setIfInBounds_toArray, ls0, ls1])
          refine hK5178 _ _ ?_
          (try clear hK5178 K5178)
          refine wp_ret ?_
          (try simp only [Exit.inBlock, Exit.then, Exit.noGoto])
          (try simp only [Act.put, List.setIfInBounds_toArray, ls0, ls1])
          simp only [Option.some.injEq, Prod.mk.injEq] at H
          obtain ⟨rfl, rfl, rfl⟩ := H
          refine bodyPost_ret (results_tmp3 rfl _ _ _) rfl ?_
          exact ⟨_, (.pointer none), rfl, HS5135, (ptr_nil _ _ _ _ _)⟩
         ·rw [if_neg c5177] at H
          (try rw [(Bool.eq_false_iff.mpr c5177)])
          (try simp only [Bool.not_true, Bool.not_false])
          refine wp_cond_false rfl ?_
          refine wp_skip ?_
          (try simp only [Act.put, List.setIfInBounds_toArray, ls0, ls1])
          refine hK5144 _ _ ?_
          (try clear hK5144 K5144)
          refine wl_region ?_
          refine st (.int .i64 (wrap64 (x5127 + 1))) rfl rfl (xr_bin (.int .i64 x5127) (.int .i64 1) (.int .i64 (wrap64 (x5127 + 1))) rfl rfl rfl (B.add_i64 x5127 1)) ?_
          simp only [ls0, ls1]
          refine st (.int .i64 (wrap64 (x5127 + 1))) rfl rfl (xr_move (.int .i64 (wrap64 (x5127 + 1))) rfl rfl) ?_
          simp only [ls0, ls1]
          refine wl_end ?_
          (try simp only [Act.put, List.setIfInBounds_toArray, ls0, ls1])
          exact ih5137 k5140 (by omega) _ _ ⟨_, wrap64 (x5127 + 1), (fun q_ => List.getD [(g5131 0), (g5131 1), undef, (g5131 3), (g5131 4), (g5131 5), (g5131 6), (g5131 7), .int .i64 x5127, .pointer (some ⟨g5150, 0, none⟩), (g5131 10), (g5131 11), (g5131 12), (g5131 13), (g5131 14), (g5131 15), (g5131 16), (g5131 17), (g5131 18), (g5131 19), (g5131 20), (g5131 21), (g5131 22), (g5131 23), (g5131 24), (g5131 25), (g5131 26), (g5131 27), (g5131 28), (g5131 29), undef, undef, undef, .bool true, .int .i64 x5127, .pointer (some (ad5147.add ((x5127 : Int).toNat * 3))), .agg #[.string ((rd_T25 l0 x5127).f0), .string ((rd_T25 l0 x5127).f1), .int .i64 ((rd_T25 l0 x5127).f2)], .pointer (some ⟨g5150, 1, none⟩), .string ((rd_T25 l0 x5127).f1), .bool true, .bool true, .pointer (some ⟨g4710, 0, none⟩), .pointer (some ⟨g4710, 0, none⟩), .pointer (some ⟨g4710, 0, none⟩), .pointer (some ⟨g4710, 1, none⟩), .map (some mb4975), .pointer (some ⟨g5150, 1, none⟩), .string ((rd_T25 l0 x5127).f1), .int .i64 (mget 0 x4974 ((rd_T25 l0 x5127).f1)), .pointer (some ⟨g4710, 0, none⟩), .pointer (some ⟨g4710, 0, none⟩), .pointer (some ⟨g4710, 1, none⟩), .map (some mb4975), .pointer (some ⟨g5150, 0, none⟩), .string ((rd_T25 l0 x5127).f0), .int .i64 (mget 0 x4974 ((rd_T25 l0 x5127).f0)), .bool false, .bool false, (g5131 58), .int .i64 (wrap64 (x5127 + 1)), (g5131 60)] q_ undef), rfl, HS5135, (by omega), HJ5126, HJ5128, HJ5129, HJ5130, H⟩
       ·rw [if_neg c5146] at H
        exact absurd H (by simp)
      ·rw [if_neg c5143] at H
       (try rw [(decide_eq_false c5143)])
       (try simp only [Bool.not_true, Bool.not_false])
       refine wp_cond_false rfl ?_
       refine wp_exit ?_
       (try simp only [Act.put, List.setIfInBounds_toArray, ls0, ls1])
       refine hK5039 _ _ ?_
       (try clear hK5039 K5039)
       refine wp_seq_k fun K5179 hK5179 => ?_
       refine wl_region ?_
       refine st (.pointer (some ⟨g4710, 0, none⟩)) rfl rfl (xr_move (.pointer (some ⟨g4710, 0, none⟩)) rfl rfl) ?_
       simp only [ls0, ls1]
       refine st (.pointer (some ⟨g4710, 0, none⟩)) rfl rfl (xr_assign (.pointer (some ⟨g4710, 0, none⟩)) rfl rfl) ?_
       simp only [ls0, ls1]
       refine st (.int .i64 0) rfl rfl (xr_assign (.int .i64 0) rfl rfl) ?_
       simp only [ls0, ls1]
       refine st (.int .i64 0) rfl rfl (xr_assign (.int .i64 0) rfl rfl) ?_
       simp only [ls0, ls1]
       refine wl_end ?_
       (try simp only [Act.put, List.setIfInBounds_toArray, ls0, ls1])
       refine hK5179 _ _ ?_
       (try clear hK5179 K5179)
       refine wp_ret ?_
       (try simp only [Exit.inBlock, Exit.then, Exit.noGoto])
       (try simp only [Act.put, List.setIfInBounds_toArray, ls0, ls1])
       replace HJ5126 := Ft.recol (a := 12) (b := 0) HJ5126 (.inl rfl)
       have HX5180 := Ft.recolor (a := 12) (b := 0) (HJ5130.ft) [0] rfl
       replace HJ5128 := Own.recol (a := 12) (b := 0) HJ5128 (by decide) (by decide)
       replace HJ5129 := Mp.recol (x := 12) (y := 0) HJ5129 (by decide)
       replace HS5135 := Step.recol (a := 12) (b := 0) HS5135 hc (by decide)
       replace HJ5126 := Ft.recol (a := 13) (b := 0) HJ5126 (.inl rfl)
       replace HX5180 := Ft.recol (a := 13) (b := 0) HX5180 (.inl rfl)
       have HR5181 := Ft.recolor (a := 13) (b := 0) (HJ5128.ft) [0] rfl
       replace HJ5129 := Mp.recol (x := 13) (y := 0) HJ5129 (by decide)
       replace HS5135 := Step.recol (a := 13) (b := 0) HS5135 hc (by decide)
       replace HJ5126 := Ft.recol (a := 14) (b := 0) HJ5126 (.inl rfl)
       replace HX5180 := Ft.recol (a := 14) (b := 0) HX5180 (.inl rfl)
       replace HR5181 := Ft.recol (a := 14) (b := 0) HR5181 (.inl rfl)
       have HR5182 := Ft.recolor (a := 14) (b := 0) (HJ5129.ft) [0] rfl
       replace HS5135 := Step.recol (a := 14) (b := 0) HS5135 hc (by decide)
       have HP5183 : Ft (recol (recol (recol C5132 12 0) 13 0) 14 0) [0] w5133 (fun w_ => (Kd.ptr 47 k47).K w_ (some (⟨x4968, x4974, t5029, t5030⟩ : S47)) [.pointer (some ⟨g4710, 0, none⟩)]) := ptr_mk (Ft.more HX5180 rfl) (k47_mkF _ _ (⟨x4968, x4974, t5029, t5030⟩ : S47) HC4972 (Ft.more HR5181 rfl) (Ft.more HR5182 rfl) HL5036 HL5037)
       simp only [Option.some.injEq, Prod.mk.injEq] at H
       obtain ⟨rfl, rfl, rfl⟩ := H
       refine bodyPost_ret (results_tmp3 rfl _ _ _) rfl ?_
       exact ⟨_, (.pointer (some ⟨g4710, 0, none⟩)), rfl, HS5135, HP5183⟩

/-! ### order_Order_Below: function 16 -/
def order_Order_Below.f (x0 : Option S47) (a1 : Int) : Option (Int) := (order_Order_in.f x0 a1).bind fun t5207 => (if t5207 = true then (onOpt x0 (none) (fun o5215 => (if 0 ≤ a1 then (if a1 < 64 then (some (List.getD o5215.f3 ((a1 : Int).toNat) 0)) else (none)) else (none)))) else (some 0))
set_option maxHeartbeats 2000000 in
set_option maxRecDepth 100000 in
theorem order_Order_Below.calls (v0 : Value) (x0 : Option S47) (a1 : Int) (r : Int) (c : Nat → Nat) (w : World) (hc : ∀ k, c k < 10) (HP0 : Ft c [0] w (fun w_ => (Kd.ptr 47 k47).K w_ x0 [v0])) (H : order_Order_Below.f x0 a1 = some r) :
    Calls Try.prog 16 #[v0, .int .i64 a1] w fun e w' => ∃ (c' : Nat → Nat) , e = .returned (.int .u64 r) ∧ Step c w c' w' [] := by
 unfold order_Order_Below.f at H
 have HS := Step.refl c w []
 go_enter Try.func16, Try.ntmps16
 refine wp_seq_k fun K5204 hK5204 => ?_
 refine wl_region ?_
 refine st (.int .u64 0) rfl rfl (xr_assign (.int .u64 0) rfl rfl) ?_
 simp only [ls0, ls1]
 refine wl_end ?_
 (try simp only [Act.put, List.setIfInBounds_toArray, ls0, ls1])
 refine hK5204 _ _ ?_
 (try clear hK5204 K5204)
 refine wp_seq_k fun K5205 hK5205 => ?_
 refine wp_seq_k fun K5206 hK5206 => ?_
 refine wl_region ?_
 refine st (v0) rfl rfl (xr_move (v0) rfl rfl) ?_
 simp only [ls0, ls1]
 refine st (.int .i64 a1) rfl rfl (xr_move (.int .i64 a1) rfl rfl) ?_
 simp only [ls0, ls1]
 obtain ⟨t5207, A5208, H⟩ := Option.bind_eq_some_iff.mp H
 (try dsimp only at H)
 refine st_call #[v0, .int .i64 a1] rfl rfl Try.func20 (by kernel_rfl) rfl rfl (by simp only [List.map_toArray, List.map_cons, List.map_nil]; first | done | rfl) ?_
 refine (order_Order_in.calls v0 x0 a1 t5207  (fun z_ => pal [(0, 0)] (c z_)) w (fun _ => pal_lt rfl _) (Ft.arg HP0 rfl) A5208).mono ?_
 rintro _ w5210 ⟨C5211, rfl, hs5212⟩
 refine ⟨_, rfl, ?_⟩
 replace hs5212 := Step.lift (U := [(0, 0)]) hs5212 [] rfl rfl
 generalize up c C5211 w.heap.size [(0, 0)] = C5211_ at hs5212
 replace HP0 := HP0.thru hs5212 rfl
 replace HS := HS.trans hs5212 hc rfl
 (try simp only [Act.put, List.setIfInBounds_toArray, ls0, ls1])
 refine st (.bool (!t5207)) rfl rfl (xr_un (.bool t5207) (.bool (!t5207)) rfl rfl (by first | rfl | (go_simp; done) | (go_simp; rfl) | (go_simp; exact i64_w _) | (go_simp; exact i32_w _))) ?_
 simp only [ls0, ls1]
 refine wl_end ?_
 (try simp only [Act.put, List.setIfInBounds_toArray, ls0, ls1])
 refine hK5206 _ _ ?_
 (try clear hK5206 K5206)
 by_cases c5213 : t5207 = true
 ·rw [if_pos c5213] at H
  (try rw [c5213])
  (try simp only [Bool.not_true, Bool.not_false])
  refine wp_cond_false rfl ?_
  refine wp_skip ?_
  (try simp only [Act.put, List.setIfInBounds_toArray, ls0, ls1])
  refine hK5205 _ _ ?_
  (try clear hK5205 K5205)
  refine wp_seq_k fun K5214 hK5214 => ?_
  refine wl_region ?_
  refine st (v0) rfl rfl (xr_move (v0) rfl rfl) ?_
  simp only [ls0, ls1]
  refine st (.int .i64 a1) rfl rfl (xr_move (.int .i64 a1) rfl rfl) ?_
  simp only [ls0, ls1]
  cases x0 with
  | none =>
   (try simp only [onOpt] at H)
   obtain rfl := ptr_none HP0
   exact absurd H (by simp)
  | some o5215 =>
   (try simp only [onOpt] at H)
   obtain ⟨g5216, cs5217, rfl, HX5218, HK5219⟩ := ptr_some HP0
   obtain ⟨Aq5220_0, cpq5220_0, vq5220_1, rfl, HCq5220_0, HRq5220_0, HRq5220_1, HLq5220_2, HLq5220_3⟩ := k47_openF HK5219
   replace HRq5220_0 : Ft C5211_ [0] w5210 (fun w_ => Kd.string.C w_ Aq5220_0 o5215.f0.length o5215.f0) := HRq5220_0
   replace HRq5220_1 : Ft C5211_ [0] w5210 (fun w_ => (Kd.mp Value.string (Value.int .i64)).K w_ o5215.f1 [vq5220_1]) := HRq5220_1
   refine st (.pointer (some ⟨g5216, 0, none⟩)) rfl rfl (xr_nilCheck ⟨g5216, 0, none⟩ rfl rfl) ?_
   simp only [ls0, ls1]
   refine st (.pointer (some ⟨g5216, 66, none⟩)) rfl rfl (xr_fieldAddr (.pointer (some ⟨g5216, 0, none⟩)) (.pointer (some ⟨g5216, 66, none⟩)) rfl rfl (bx_field2 Try.underlying47 rfl rfl (by kernel_rfl))) ?_
   simp only [ls0, ls1]
   by_cases c5221 : 0 ≤ a1
   ·rw [if_pos c5221] at H
    by_cases c5222 : a1 < 64
    ·rw [if_pos c5222] at H
     refine st (.pointer (some ⟨g5216, 66 + ((a1 : Int).toNat), none⟩)) rfl rfl (xr_indexAddr (.pointer (some ⟨g5216, 66, none⟩)) (.int .i64 a1) (.pointer (some ⟨g5216, 66 + ((a1 : Int).toNat), none⟩)) rfl rfl rfl (arr_index (sz := 1) Try.underlying45 (by kernel_rfl) (by first | assumption | decide | omega) (by first | assumption | decide | omega) (by omega))) ?_
     simp only [ls0, ls1]
     refine st (.int .u64 (List.getD o5215.f3 ((a1 : Int).toNat) 0)) rfl rfl (xr_load (.pointer (some ⟨g5216, 66 + ((a1 : Int).toNat), none⟩)) (.int .u64 (List.getD o5215.f3 ((a1 : Int).toNat) 0)) rfl rfl (arr_load (o := 66) (N := 64) (pre := [.slice Aq5220_0 o5215.f0.length cpq5220_0, vq5220_1] ++ (List.map (Value.int .u64) o5215.f2)) (post := []) (enc := (Value.int .u64)) (l := o5215.f3) (i := (a1 : Int).toNat) 0 Try.underlying40 rfl (Ft.now HX5218) (by first | (simp only [List.append_assoc, List.cons_append, List.nil_append, List.append_nil]; done) | rfl) (by simp [HLq5220_2]) HLq5220_3 (by omega) (by omega))) ?_
     simp only [ls0, ls1]
     refine st (.int .u64 (List.getD o5215.f3 ((a1 : Int).toNat) 0)) rfl rfl (xr_assign (.int .u64 (List.getD o5215.f3 ((a1 : Int).toNat) 0)) rfl rfl) ?_
     simp only [ls0, ls1]
     refine wl_end ?_
     (try simp only [Act.put, List.setIfInBounds_toArray, ls0, ls1])
     refine hK5214 _ _ ?_
     (try clear hK5214 K5214)
     refine wp_ret ?_
     (try simp only [Exit.inBlock, Exit.then, Exit.noGoto])
     (try simp only [Act.put, List.setIfInBounds_toArray, ls0, ls1])
     obtain rfl := Option.some.inj H
     refine bodyPost_ret (results_tmp rfl _ _ _) rfl ?_
     exact ⟨_, rfl, HS⟩
    ·rw [if_neg c5222] at H
     exact absurd H (by simp)
   ·rw [if_neg c5221] at H
    exact absurd H (by simp)
 ·rw [if_neg c5213] at H
  (try rw [(Bool.eq_false_iff.mpr c5213)])
  (try simp only [Bool.not_true, Bool.not_false])
  refine wp_cond_true rfl ?_
  refine wp_seq_k fun K5223 hK5223 => ?_
  refine wl_region ?_
  refine st (.int .u64 0) rfl rfl (xr_assign (.int .u64 0) rfl rfl) ?_
  simp only [ls0, ls1]
  refine wl_end ?_
  (try simp only [Act.put, List.setIfInBounds_toArray, ls0, ls1])
  refine hK5223 _ _ ?_
  (try clear hK5223 K5223)
  refine wp_ret ?_
  (try simp only [Exit.inBlock, Exit.then, Exit.noGoto])
  (try simp only [Act.put, List.setIfInBounds_toArray, ls0, ls1])
  obtain rfl := Option.some.inj H
  refine bodyPost_ret (results_tmp rfl _ _ _) rfl ?_
  exact ⟨_, rfl, HS⟩

/-! ### blazonlaw13_awake: function 9 -/
def blazonlaw13_awake.f (k : Nat)  : Option (Bool) := (some ([(⟨(⟨#[97]⟩ : ByteArray), (⟨#[98]⟩ : ByteArray), 0⟩ : S25), (⟨(⟨#[98]⟩ : ByteArray), (⟨#[99]⟩ : ByteArray), 0⟩ : S25)] : List (S25))).bind fun y5279 => ((order_New.f k y5279).bind fun bt5289 => ((some ([(⟨(⟨#[97]⟩ : ByteArray), (⟨#[98]⟩ : ByteArray), 0⟩ : S25), (⟨(⟨#[98]⟩ : ByteArray), (⟨#[97]⟩ : ByteArray), 0⟩ : S25)] : List (S25))).bind fun y5300 => ((order_New.f k y5300).bind fun bt5310 => (if bt5289.2.2 = 0 then ((order_Order_Below.f bt5289.1 2).bind fun t5322 => (if t5322 = 7 then (if bt5310.2.1 = 0 then (some (decide (bt5310.2.2 = 16))) else (some false)) else (some false))) else (some false)))))

set_option maxHeartbeats 2000000 in
set_option maxRecDepth 100000 in
theorem blazonlaw13_awake.calls (k : Nat)  (r : Bool) (c : Nat → Nat) (w : World) (hc : ∀ k, c k < 10)  (H : blazonlaw13_awake.f k = some r) :
    Calls Try.prog 9 #[] w fun e w' => ∃ (c' : Nat → Nat) , e = .returned (.bool r) ∧ Step c w c' w' [] := by
 unfold blazonlaw13_awake.f at H
 have HS := Step.refl c w []
 go_enter Try.func9, Try.ntmps9
 refine wp_seq_k fun K5277 hK5277 => ?_
 refine wl_region ?_
 refine st (.bool false) rfl rfl (xr_assign (.bool false) rfl rfl) ?_
 simp only [ls0, ls1]
 refine wl_end ?_
 (try simp only [Act.put, List.setIfInBounds_toArray, ls0, ls1])
 refine hK5277 _ _ ?_
 (try clear hK5277 K5277)
 refine wp_seq_k fun K5278 hK5278 => ?_
 refine wl_region ?_
 refine st (.agg #[.string (⟨#[97]⟩ : ByteArray), .string (⟨#[98]⟩ : ByteArray), .int .i64 0]) rfl rfl (xr_build #[(0, .string (⟨#[97]⟩ : ByteArray)), (1, .string (⟨#[98]⟩ : ByteArray))] (.agg #[.string (⟨#[97]⟩ : ByteArray), .string (⟨#[98]⟩ : ByteArray), .int .i64 0]) rfl (by simp only [List.map_toArray, List.map_cons, List.map_nil]; first | done | rfl) (by first | rfl | (go_simp; done) | (go_simp; rfl) | (go_simp; exact i64_w _) | (go_simp; exact i32_w _))) ?_
 simp only [ls0, ls1]
 refine st (.agg #[.string (⟨#[98]⟩ : ByteArray), .string (⟨#[99]⟩ : ByteArray), .int .i64 0]) rfl rfl (xr_build #[(0, .string (⟨#[98]⟩ : ByteArray)), (1, .string (⟨#[99]⟩ : ByteArray))] (.agg #[.string (⟨#[98]⟩ : ByteArray), .string (⟨#[99]⟩ : ByteArray), .int .i64 0]) rfl (by simp only [List.map_toArray, List.map_cons, List.map_nil]; first | done | rfl) (by first | rfl | (go_simp; done) | (go_simp; rfl) | (go_simp; exact i64_w _) | (go_simp; exact i32_w _))) ?_
 simp only [ls0, ls1]
 obtain ⟨y5279, A5280, H⟩ := Option.bind_eq_some_iff.mp H
 (try dsimp only at H)
 refine Own.lit k25 (C := c) (i := 11) rfl 25 rfl (xs := [(⟨(⟨#[97]⟩ : ByteArray), (⟨#[98]⟩ : ByteArray), 0⟩ : S25), (⟨(⟨#[98]⟩ : ByteArray), (⟨#[99]⟩ : ByteArray), 0⟩ : S25)]) (inner := [.string (⟨#[97]⟩ : ByteArray), .string (⟨#[98]⟩ : ByteArray), .int .i64 0, .string (⟨#[98]⟩ : ByteArray), .string (⟨#[99]⟩ : ByteArray), .int .i64 0]) (by first | (go_simp; done) | (go_simp; rfl)) (reps_cons (k25_mkF _ _ (⟨(⟨#[97]⟩ : ByteArray), (⟨#[98]⟩ : ByteArray), 0⟩ : S25)) rfl (reps_cons (k25_mkF _ _ (⟨(⟨#[98]⟩ : ByteArray), (⟨#[99]⟩ : ByteArray), 0⟩ : S25)) rfl (Reps.none _ _))) (by simp only [List.length_cons, List.length_nil]; omega) (Option.some.inj A5280) ?_
 intro A5281 cp5282 w5283 C5284 HO5285 HC5286 hs5287
 replace HS := HS.trans hs5287 hc rfl
 (try simp only [Act.put, List.setIfInBounds_toArray, ls0, ls1])
 have HR5288 := Ft.recolor (a := 11) (b := 0) (HO5285.ft) [0] rfl
 replace HS := Step.recol (a := 11) (b := 0) HS hc (by decide)
 obtain ⟨⟨t5289, t5290, t5291⟩, A5292, H⟩ := Option.bind_eq_some_iff.mp H
 (try dsimp only at H)
 refine st_call #[.slice A5281 y5279.length cp5282] rfl rfl Try.func8 (by kernel_rfl) rfl rfl (by simp only [List.map_toArray, List.map_cons, List.map_nil]; first | done | rfl) ?_
 refine (order_New.calls k A5281 cp5282 y5279 t5289 t5290 t5291  (fun z_ => pal [(0, 0)] ((recol C5284 11 0) z_)) w5283 (fun _ => pal_lt rfl _) (Ft.arg HR5288 rfl) HC5286 A5292).mono ?_
 rintro _ w5294 ⟨C5295, v5297, rfl, hs5296, HB5298⟩
 refine ⟨_, rfl, ?_⟩
 replace HB5298 := Ft.res (U := [(0, 0)]) HB5298 hs5296 [0] rfl rfl rfl
 replace hs5296 := Step.lift (U := [(0, 0)]) hs5296 [] rfl rfl
 generalize up (recol C5284 11 0) C5295 w5283.heap.size [(0, 0)] = C5295_ at HB5298 hs5296
 replace HS := HS.trans hs5296 hc rfl
 (try simp only [Act.put, List.setIfInBounds_toArray, ls0, ls1])
 refine st (.tuple #[v5297, .int .i64 t5290, .int .i64 t5291]) rfl rfl (xr_move (.tuple #[v5297, .int .i64 t5290, .int .i64 t5291]) rfl rfl) ?_
 simp only [ls0, ls1]
 refine st (v5297) rfl rfl (xr_extract (.tuple #[v5297, .int .i64 t5290, .int .i64 t5291]) (v5297) rfl rfl rfl) ?_
 simp only [ls0, ls1]
 refine st (.int .i64 t5290) rfl rfl (xr_extract (.tuple #[v5297, .int .i64 t5290, .int .i64 t5291]) (.int .i64 t5290) rfl rfl rfl) ?_
 simp only [ls0, ls1]
 refine st (.int .i64 t5291) rfl rfl (xr_extract (.tuple #[v5297, .int .i64 t5290, .int .i64 t5291]) (.int .i64 t5291) rfl rfl rfl) ?_
 simp only [ls0, ls1]
 refine st (v5297) rfl rfl (xr_assign (v5297) rfl rfl) ?_
 simp only [ls0, ls1]
 refine st (.int .i64 t5290) rfl rfl (xr_assign (.int .i64 t5290) rfl rfl) ?_
 simp only [ls0, ls1]
 refine st (.int .i64 t5291) rfl rfl (xr_assign (.int .i64 t5291) rfl rfl) ?_
 simp only [ls0, ls1]
 refine wl_end ?_
 (try simp only [Act.put, List.setIfInBounds_toArray, ls0, ls1])
 refine hK5278 _ _ ?_
 (try clear hK5278 K5278)
 refine wp_seq_k fun K5299 hK5299 => ?_
 refine wl_region ?_
 refine st (.agg #[.string (⟨#[97]⟩ : ByteArray), .string (⟨#[98]⟩ : ByteArray), .int .i64 0]) rfl rfl (xr_build #[(0, .string (⟨#[97]⟩ : ByteArray)), (1, .string (⟨#[98]⟩ : ByteArray))] (.agg #[.string (⟨#[97]⟩ : ByteArray), .string (⟨#[98]⟩ : ByteArray), .int .i64 0]) rfl (by simp only [List.map_toArray, List.map_cons, List.map_nil]; first | done | rfl) (by first | rfl | (go_simp; done) | (go_simp; rfl) | (go_simp; exact i64_w _) | (go_simp; exact i32_w _))) ?_
 simp only [ls0, ls1]
 refine st (.agg #[.string (⟨#[98]⟩ : ByteArray), .string (⟨#[97]⟩ : ByteArray), .int .i64 0]) rfl rfl (xr_build #[(0, .string (⟨#[98]⟩ : ByteArray)), (1, .string (⟨#[97]⟩ : ByteArray))] (.agg #[.string (⟨#[98]⟩ : ByteArray), .string (⟨#[97]⟩ : ByteArray), .int .i64 0]) rfl (by simp only [List.map_toArray, List.map_cons, List.map_nil]; first | done | rfl) (by first | rfl | (go_simp; done) | (go_simp; rfl) | (go_simp; exact i64_w _) | (go_simp; exact i32_w _))) ?_
 simp only [ls0, ls1]
 obtain ⟨y5300, A5301, H⟩ := Option.bind_eq_some_iff.mp H
 (try dsimp only at H)
 refine Own.lit k25 (C := C5295_) (i := 12) rfl 25 rfl (xs := [(⟨(⟨#[97]⟩ : ByteArray), (⟨#[98]⟩ : ByteArray), 0⟩ : S25), (⟨(⟨#[98]⟩ : ByteArray), (⟨#[97]⟩ : ByteArray), 0⟩ : S25)]) (inner := [.string (⟨#[97]⟩ : ByteArray), .string (⟨#[98]⟩ : ByteArray), .int .i64 0, .string (⟨#[98]⟩ : ByteArray), .string (⟨#[97]⟩ : ByteArray), .int .i64 0]) (by first | (go_simp; done) | (go_simp; rfl)) (reps_cons (k25_mkF _ _ (⟨(⟨#[97]⟩ : ByteArray), (⟨#[98]⟩ : ByteArray), 0⟩ : S25)) rfl (reps_cons (k25_mkF _ _ (⟨(⟨#[98]⟩ : ByteArray), (⟨#[97]⟩ : ByteArray), 0⟩ : S25)) rfl (Reps.none _ _))) (by simp only [List.length_cons, List.length_nil]; omega) (Option.some.inj A5301) ?_
 intro A5302 cp5303 w5304 C5305 HO5306 HC5307 hs5308
 replace HB5298 := HB5298.thru hs5308 rfl
 replace HS := HS.trans hs5308 hc rfl
 (try simp only [Act.put, List.setIfInBounds_toArray, ls0, ls1])
 replace HB5298 := Ft.recol (a := 12) (b := 0) HB5298 (.inl rfl)
 have HR5309 := Ft.recolor (a := 12) (b := 0) (HO5306.ft) [0] rfl
 replace HS := Step.recol (a := 12) (b := 0) HS hc (by decide)
 obtain ⟨⟨t5310, t5311, t5312⟩, A5313, H⟩ := Option.bind_eq_some_iff.mp H
 (try dsimp only at H)
 refine st_call #[.slice A5302 y5300.length cp5303] rfl rfl Try.func8 (by kernel_rfl) rfl rfl (by simp only [List.map_toArray, List.map_cons, List.map_nil]; first | done | rfl) ?_
 refine (order_New.calls k A5302 cp5303 y5300 t5310 t5311 t5312  (fun z_ => pal [(0, 0)] ((recol C5305 12 0) z_)) w5304 (fun _ => pal_lt rfl _) (Ft.arg HR5309 rfl) HC5307 A5313).mono ?_
 rintro _ w5315 ⟨C5316, v5318, rfl, hs5317, HB5319⟩
 refine ⟨_, rfl, ?_⟩
 replace HB5319 := Ft.res (U := [(0, 0)]) HB5319 hs5317 [0] rfl rfl rfl
 replace hs5317 := Step.lift (U := [(0, 0)]) hs5317 [] rfl rfl
 generalize up (recol C5305 12 0) C5316 w5304.heap.size [(0, 0)] = C5316_ at HB5319 hs5317
 replace HB5298 := HB5298.thru hs5317 rfl
 replace HS := HS.trans hs5317 hc rfl
 (try simp only [Act.put, List.setIfInBounds_toArray, ls0, ls1])
 refine st (.tuple #[v5318, .int .i64 t5311, .int .i64 t5312]) rfl rfl (xr_move (.tuple #[v5318, .int .i64 t5311, .int .i64 t5312]) rfl rfl) ?_
 simp only [ls0, ls1]
 refine st (v5318) rfl rfl (xr_extract (.tuple #[v5318, .int .i64 t5311, .int .i64 t5312]) (v5318) rfl rfl rfl) ?_
 simp only [ls0, ls1]
 refine st (.int .i64 t5311) rfl rfl (xr_extract (.tuple #[v5318, .int .i64 t5311, .int .i64 t5312]) (.int .i64 t5311) rfl rfl rfl) ?_
 simp only [ls0, ls1]
 refine st (.int .i64 t5312) rfl rfl (xr_extract (.tuple #[v5318, .int .i64 t5311, .int .i64 t5312]) (.int .i64 t5312) rfl rfl rfl) ?_
 simp only [ls0, ls1]
 refine st (v5318) rfl rfl (xr_assign (v5318) rfl rfl) ?_
 simp only [ls0, ls1]
 refine st (.int .i64 t5311) rfl rfl (xr_assign (.int .i64 t5311) rfl rfl) ?_
 simp only [ls0, ls1]
 refine st (.int .i64 t5312) rfl rfl (xr_assign (.int .i64 t5312) rfl rfl) ?_
 simp only [ls0, ls1]
 refine wl_end ?_
 (try simp only [Act.put, List.setIfInBounds_toArray, ls0, ls1])
 refine hK5299 _ _ ?_
 (try clear hK5299 K5299)
 refine wp_seq_k fun K5320 hK5320 => ?_
 refine wl_region ?_
 refine st (.int .i64 t5291) rfl rfl (xr_move (.int .i64 t5291) rfl rfl) ?_
 simp only [ls0, ls1]
 refine st (.bool (decide (t5291 = 0))) rfl rfl (xr_bin (.int .i64 t5291) (.int .i64 0) (.bool (decide (t5291 = 0))) rfl rfl rfl (B.eql_i64 t5291 0)) ?_
 simp only [ls0, ls1]
 refine st (.bool (decide (t5291 = 0))) rfl rfl (xr_move (.bool (decide (t5291 = 0))) rfl rfl) ?_
 simp only [ls0, ls1]
 by_cases c5321 : t5291 = 0
 ·rw [if_pos c5321] at H
  (try rw [(decide_eq_true c5321)])
  (try simp only [Bool.not_true, Bool.not_false])
  refine on_guard (guard_on 2 true 25 rfl rfl rfl) ?_
  refine st (v5297) rfl rfl (xr_move (v5297) rfl rfl) ?_
  simp only [ls0, ls1]
  refine on_guard (guard_on 2 true 25 rfl rfl rfl) ?_
  obtain ⟨t5322, A5323, H⟩ := Option.bind_eq_some_iff.mp H
  (try dsimp only at H)
  refine st_call #[v5297, .int .i64 2] rfl rfl Try.func16 (by kernel_rfl) rfl rfl (by simp only [List.map_toArray, List.map_cons, List.map_nil]; first | done | rfl) ?_
  refine (order_Order_Below.calls v5297 t5289 2 t5322  (fun z_ => pal [(0, 0)] (C5316_ z_)) w5315 (fun _ => pal_lt rfl _) (Ft.arg HB5298 rfl) A5323).mono ?_
  rintro _ w5325 ⟨C5326, rfl, hs5327⟩
  refine ⟨_, rfl, ?_⟩
  replace hs5327 := Step.lift (U := [(0, 0)]) hs5327 [] rfl rfl
  generalize up C5316_ C5326 w5315.heap.size [(0, 0)] = C5326_ at hs5327
  replace HS := HS.trans hs5327 hc rfl
  (try simp only [Act.put, List.setIfInBounds_toArray, ls0, ls1])
  refine on_guard (guard_on 2 true 25 rfl rfl rfl) ?_
  refine st (.bool (decide (t5322 = 7))) rfl rfl (xr_bin (.int .u64 t5322) (.int .u64 7) (.bool (decide (t5322 = 7))) rfl rfl rfl (B.eql_u64 t5322 7)) ?_
  simp only [ls0, ls1]
  refine st (.bool (decide (t5322 = 7))) rfl rfl (xr_pick true (.bool (decide (t5322 = 7))) rfl rfl rfl) ?_
  simp only [ls0, ls1]
  refine st (.bool (decide (t5322 = 7))) rfl rfl (xr_move (.bool (decide (t5322 = 7))) rfl rfl) ?_
  simp only [ls0, ls1]
  by_cases c5328 : t5322 = 7
  ·rw [if_pos c5328] at H
   (try rw [(decide_eq_true c5328)])
   (try simp only [Bool.not_true, Bool.not_false])
   refine on_guard (guard_on 7 true 30 rfl rfl rfl) ?_
   refine st (.int .i64 t5311) rfl rfl (xr_move (.int .i64 t5311) rfl rfl) ?_
   simp only [ls0, ls1]
   refine on_guard (guard_on 7 true 30 rfl rfl rfl) ?_
   refine st (.bool (decide (t5311 = 0))) rfl rfl (xr_bin (.int .i64 t5311) (.int .i64 0) (.bool (decide (t5311 = 0))) rfl rfl rfl (B.eql_i64 t5311 0)) ?_
   simp only [ls0, ls1]
   refine st (.bool (decide (t5311 = 0))) rfl rfl (xr_pick true (.bool (decide (t5311 = 0))) rfl rfl rfl) ?_
   simp only [ls0, ls1]
   refine st (.bool (decide (t5311 = 0))) rfl rfl (xr_move (.bool (decide (t5311 = 0))) rfl rfl) ?_
   simp only [ls0, ls1]
   by_cases c5329 : t5311 = 0
   ·rw [if_pos c5329] at H
    (try rw [(decide_eq_true c5329)])
    (try simp only [Bool.not_true, Bool.not_false])
    refine on_guard (guard_on 11 true 34 rfl rfl rfl) ?_
    refine st (.int .i64 t5312) rfl rfl (xr_move (.int .i64 t5312) rfl rfl) ?_
    simp only [ls0, ls1]
    refine on_guard (guard_on 11 true 34 rfl rfl rfl) ?_
    refine st (.bool (decide (t5312 = 16))) rfl rfl (xr_bin (.int .i64 t5312) (.int .i64 16) (.bool (decide (t5312 = 16))) rfl rfl rfl (B.eql_i64 t5312 16)) ?_
    simp only [ls0, ls1]
    refine st (.bool (decide (t5312 = 16))) rfl rfl (xr_pick true (.bool (decide (t5312 = 16))) rfl rfl rfl) ?_
    simp only [ls0, ls1]
    refine st (.bool (decide (t5312 = 16))) rfl rfl (xr_assign (.bool (decide (t5312 = 16))) rfl rfl) ?_
    simp only [ls0, ls1]
    refine wl_end ?_
    (try simp only [Act.put, List.setIfInBounds_toArray, ls0, ls1])
    refine hK5320 _ _ ?_
    (try clear hK5320 K5320)
    refine wp_ret ?_
    (try simp only [Exit.inBlock, Exit.then, Exit.noGoto])
    (try simp only [Act.put, List.setIfInBounds_toArray, ls0, ls1])
    obtain rfl := Option.some.inj H
    refine bodyPost_ret (results_tmp rfl _ _ _) rfl ?_
    exact ⟨_, rfl, HS⟩
   ·rw [if_neg c5329] at H
    (try rw [(decide_eq_false c5329)])
    (try simp only [Bool.not_true, Bool.not_false])
    refine sk_guard (guard_off 11 true 34 rfl rfl false (by decide) rfl) rfl ?_
    simp only [ls0, ls1]
    refine sk_guard (guard_off 11 true 34 rfl rfl false (by decide) rfl) rfl ?_
    simp only [ls0, ls1]
    refine st (.bool false) rfl rfl (xr_pick false (.bool false) rfl rfl rfl) ?_
    simp only [ls0, ls1]
    refine st (.bool false) rfl rfl (xr_assign (.bool false) rfl rfl) ?_
    simp only [ls0, ls1]
    refine wl_end ?_
    (try simp only [Act.put, List.setIfInBounds_toArray, ls0, ls1])
    refine hK5320 _ _ ?_
    (try clear hK5320 K5320)
    refine wp_ret ?_
    (try simp only [Exit.inBlock, Exit.then, Exit.noGoto])
    (try simp only [Act.put, List.setIfInBounds_toArray, ls0, ls1])
    obtain rfl := Option.some.inj H
    refine bodyPost_ret (results_tmp rfl _ _ _) rfl ?_
    exact ⟨_, rfl, HS⟩
  ·rw [if_neg c5328] at H
   (try rw [(decide_eq_false c5328)])
   (try simp only [Bool.not_true, Bool.not_false])
   refine sk_guard (guard_off 7 true 30 rfl rfl false (by decide) rfl) rfl ?_
   simp only [ls0, ls1]
   refine sk_guard (guard_off 7 true 30 rfl rfl false (by decide) rfl) rfl ?_
   simp only [ls0, ls1]
   refine st (.bool false) rfl rfl (xr_pick false (.bool false) rfl rfl rfl) ?_
   simp only [ls0, ls1]
   refine st (.bool false) rfl rfl (xr_move (.bool false) rfl rfl) ?_
   simp only [ls0, ls1]
   refine sk_guard (guard_off 11 true 34 rfl rfl false (by decide) rfl) rfl ?_
   simp only [ls0, ls1]
   refine sk_guard (guard_off 11 true 34 rfl rfl false (by decide) rfl) rfl ?_
   simp only [ls0, ls1]
   refine st (.bool false) rfl rfl (xr_pick false (.bool false) rfl rfl rfl) ?_
   simp only [ls0, ls1]
   refine st (.bool false) rfl rfl (xr_assign (.bool false) rfl rfl) ?_
   simp only [ls0, ls1]
   refine wl_end ?_
   (try simp only [Act.put, List.setIfInBounds_toArray, ls0, ls1])
   refine hK5320 _ _ ?_
   (try clear hK5320 K5320)
   refine wp_ret ?_
   (try simp only [Exit.inBlock, Exit.then, Exit.noGoto])
   (try simp only [Act.put, List.setIfInBounds_toArray, ls0, ls1])
   obtain rfl := Option.some.inj H
   refine bodyPost_ret (results_tmp rfl _ _ _) rfl ?_
   exact ⟨_, rfl, HS⟩
 ·rw [if_neg c5321] at H
  (try rw [(decide_eq_false c5321)])
  (try simp only [Bool.not_true, Bool.not_false])
  refine sk_guard (guard_off 2 true 25 rfl rfl false (by decide) rfl) rfl ?_
  simp only [ls0, ls1]
  refine sk_guard (guard_off 2 true 25 rfl rfl false (by decide) rfl) rfl ?_
  simp only [ls0, ls1]
  refine sk_guard (guard_off 2 true 25 rfl rfl false (by decide) rfl) rfl ?_
  simp only [ls0, ls1]
  refine st (.bool false) rfl rfl (xr_pick false (.bool false) rfl rfl rfl) ?_
  simp only [ls0, ls1]
  refine st (.bool false) rfl rfl (xr_move (.bool false) rfl rfl) ?_
  simp only [ls0, ls1]
  refine sk_guard (guard_off 7 true 30 rfl rfl false (by decide) rfl) rfl ?_
  simp only [ls0, ls1]
  refine sk_guard (guard_off 7 true 30 rfl rfl false (by decide) rfl) rfl ?_
  simp only [ls0, ls1]
  refine st (.bool false) rfl rfl (xr_pick false (.bool false) rfl rfl rfl) ?_
  simp only [ls0, ls1]
  refine st (.bool false) rfl rfl (xr_move (.bool false) rfl rfl) ?_
  simp only [ls0, ls1]
  refine sk_guard (guard_off 11 true 34 rfl rfl false (by decide) rfl) rfl ?_
  simp only [ls0, ls1]
  refine sk_guard (guard_off 11 true 34 rfl rfl false (by decide) rfl) rfl ?_
  simp only [ls0, ls1]
  refine st (.bool false) rfl rfl (xr_pick false (.bool false) rfl rfl rfl) ?_
  simp only [ls0, ls1]
  refine st (.bool false) rfl rfl (xr_assign (.bool false) rfl rfl) ?_
  simp only [ls0, ls1]
  refine wl_end ?_
  (try simp only [Act.put, List.setIfInBounds_toArray, ls0, ls1])
  refine hK5320 _ _ ?_
  (try clear hK5320 K5320)
  refine wp_ret ?_
  (try simp only [Exit.inBlock, Exit.then, Exit.noGoto])
  (try simp only [Act.put, List.setIfInBounds_toArray, ls0, ls1])
  obtain rfl := Option.some.inj H
  refine bodyPost_ret (results_tmp rfl _ _ _) rfl ?_
  exact ⟨_, rfl, HS⟩

/-! ### blazonref13_Great: function 12 -/
mutual
def blazonref13_Great.j0 : Nat → Int → (List (S25)) → Int → Bool → Option (Bool)
  | 0, _, _, _, _ => none
  | k + 1, a1, l0, x5663, x5718 => if x5718 = true then (some true) else (blazonref13_Great.l0 k a1 l0 (wrap64 (x5663 + 1)))
def blazonref13_Great.j1 : Nat → Int → (List (S25)) → Int → Bool → Option (Bool)
  | 0, _, _, _, _ => none
  | k + 1, a1, l0, x5663, x5696 => if x5696 = true then (if 0 ≤ x5663 then (if x5663 < (l0.length : Int) then (if (((rd_T25 l0 x5663).f0).size : Int) > 100 then (blazonref13_Great.j0 k a1 l0 x5663 true) else (blazonref13_Great.j0 k a1 l0 x5663 (decide ((((rd_T25 l0 x5663).f1).size : Int) > 100)))) else (none)) else (none)) else (some (decide ((l0.length : Int) > a1)))
def blazonref13_Great.l0 : Nat → Int → (List (S25)) → Int → Option (Bool)
  | 0, _, _, _ => none
  | k + 1, a1, l0, x5663 => if x5663 < (l0.length : Int) then (blazonref13_Great.j1 k a1 l0 x5663 (decide (x5663 < a1))) else (blazonref13_Great.j1 k a1 l0 x5663 false)
end
def blazonref13_Great.f (k : Nat) (l0 : List (S25)) (a1 : Int) : Option (Bool) := blazonref13_Great.l0 k a1 l0 0

set_option maxHeartbeats 2000000 in
set_option maxRecDepth 100000 in
theorem blazonref13_Great.calls (k : Nat) (A0 : Option Addr) (c0 : Nat) (l0 : List (S25)) (a1 : Int) (r : Bool) (c : Nat → Nat) (w : World) (hc : ∀ k, c k < 10) (HP0 : Ft c [0] w (fun w_ => k25.C w_ A0 l0.length l0)) (HCP0 : l0.length ≤ c0) (H : blazonref13_Great.f k l0 a1 = some r) :
    Calls Try.prog 12 #[.slice A0 l0.length c0, .int .i64 a1] w fun e w' => ∃ (c' : Nat → Nat) , e = .returned (.bool r) ∧ Step c w c' w' [] := by
 unfold blazonref13_Great.f at H
 have HS := Step.refl c w []
 go_enter Try.func12, Try.ntmps12
 refine wp_seq_k fun K5533 hK5533 => ?_
 refine wl_region ?_
 refine st (.bool false) rfl rfl (xr_assign (.bool false) rfl rfl) ?_
 simp only [ls0, ls1]
 refine wl_end ?_
 (try simp only [Act.put, List.setIfInBounds_toArray, ls0, ls1])
 refine hK5533 _ _ ?_
 (try clear hK5533 K5533)
 refine wp_seq_k fun K5534 hK5534 => ?_
 refine wp_seq_k fun K5535 hK5535 => ?_
 refine wl_region ?_
 refine st (.int .i64 0) rfl rfl (xr_assign (.int .i64 0) rfl rfl) ?_
 simp only [ls0, ls1]
 refine wl_end ?_
 (try simp only [Act.put, List.setIfInBounds_toArray, ls0, ls1])
 refine hK5535 _ _ ?_
 (try clear hK5535 K5535)
 refine wp_block ?_
 (try simp only [Act.put, List.setIfInBounds_toArray, ls0, ls1])
 refine wp_looped (looped_ind (fun kq5667 a_ w5666 => ∃ (C5665 : Nat → Nat) (x5663 : Int) (g5664 : Nat → Value), a_ = ⟨#[.slice A0 l0.length c0, .int .i64 a1, (g5664 2), (g5664 3), (g5664 4), .int .i64 x5663, (g5664 6), (g5664 7), (g5664 8), (g5664 9), (g5664 10), (g5664 11), (g5664 12), (g5664 13), (g5664 14), (g5664 15), (g5664 16), (g5664 17), (g5664 18), (g5664 19), (g5664 20), (g5664 21), (g5664 22), (g5664 23), (g5664 24), (g5664 25), (g5664 26), (g5664 27), (g5664 28), (g5664 29), (g5664 30), (g5664 31), (g5664 32), (g5664 33), (g5664 34), (g5664 35), (g5664 36)], []⟩ ∧ Step c w C5665 w5666 [] ∧ kq5667 ≤ k ∧ (Ft C5665 [0] w5666 (fun w_ => k25.C w_ A0 l0.length l0)) ∧ blazonref13_Great.l0 kq5667 a1 l0 x5663 = some r) ?step k _ _ ?init)
 case init =>
  exact ⟨_, 0, (fun q_ => List.getD [undef, undef, undef, undef, .bool false, undef, undef, undef, undef, undef, undef, undef, undef, undef, undef, undef, undef, undef, undef, undef, undef, undef, undef, undef, undef, undef, undef, undef, undef, undef, undef, undef, undef, undef, undef, undef, undef] q_ undef), rfl, HS, Nat.le_refl _, HP0, H⟩
 case step =>
  intro kq5667 ih5670 a5671 w5666 hr5672
  obtain ⟨C5665, x5663, g5664, rfl, HS5668, hk5669, HJ5662, H⟩ := hr5672
  refine looped_round ?_
  cases kq5667 with
  | zero => exact absurd H (by simp [blazonref13_Great.l0])
  | succ k5673 =>
   simp only [blazonref13_Great.l0] at H
   refine wp_seq_k fun K5674 hK5674 => ?_
   refine wp_seq_k fun K5689 hK5689 => ?_
   have hj5691 : ∀ (kq5698 : Nat) (C5692 : Nat → Nat) (w5693 : World) (x5696 : Bool) (g5697 : Nat → Value), Step c w C5692 w5693 [] → kq5698 ≤ k5673 → (Ft C5692 [0] w5693 (fun w_ => k25.C w_ A0 l0.length l0)) → blazonref13_Great.j1 kq5698 a1 l0 x5663 x5696 = some r → K5689 ⟨#[.slice A0 l0.length c0, .int .i64 a1, (g5697 2), (g5697 3), (g5697 4), .int .i64 x5663, (g5697 6), (g5697 7), (g5697 8), (g5697 9), (g5697 10), (g5697 11), (g5697 12), (g5697 13), .bool x5696, (g5697 15), (g5697 16), (g5697 17), (g5697 18), (g5697 19), (g5697 20), (g5697 21), (g5697 22), (g5697 23), (g5697 24), (g5697 25), (g5697 26), (g5697 27), (g5697 28), (g5697 29), (g5697 30), (g5697 31), (g5697 32), (g5697 33), (g5697 34), (g5697 35), (g5697 36)], []⟩ w5693 := by
    intro kq5698 C5692 w5693 x5696 g5697 HS5694 hk5699 HJ5695 H
    cases kq5698 with
    | zero => exact absurd H (by simp [blazonref13_Great.j1])
    | succ k5700 =>
     simp only [blazonref13_Great.j1] at H
     refine hK5689 _ _ ?_
     (try clear hK5689)
     by_cases c5701 : x5696 = true
     ·rw [if_pos c5701] at H
      (try rw [c5701])
      (try simp only [Bool.not_true, Bool.not_false])
      refine wp_cond_true rfl ?_
      refine wp_skip ?_
      (try simp only [Act.put, List.setIfInBounds_toArray, ls0, ls1])
      refine hK5674 _ _ ?_
      (try clear hK5674 K5674)
      refine wp_seq_k fun K5702 hK5702 => ?_
      refine wp_block ?_
      refine wp_seq_k fun K5703 hK5703 => ?_
      have hj5713 : ∀ (kq5720 : Nat) (C5714 : Nat → Nat) (w5715 : World) (x5718 : Bool) (g5719 : Nat → Value), Step c w C5714 w5715 [] → kq5720 ≤ k5700 → (Ft C5714 [0] w5715 (fun w_ => k25.C w_ A0 l0.length l0)) → blazonref13_Great.j0 kq5720 a1 l0 x5663 x5718 = some r → K5703 ⟨#[.slice A0 l0.length c0, .int .i64 a1, (g5719 2), (g5719 3), (g5719 4), .int .i64 x5663, (g5719 6), (g5719 7), (g5719 8), (g5719 9), (g5719 10), (g5719 11), (g5719 12), (g5719 13), (g5719 14), (g5719 15), (g5719 16), (g5719 17), (g5719 18), (g5719 19), (g5719 20), (g5719 21), (g5719 22), (g5719 23), (g5719 24), (g5719 25), (g5719 26), (g5719 27), (g5719 28), (g5719 29), (g5719 30), (g5719 31), .bool x5718, (g5719 33), (g5719 34), (g5719 35), (g5719 36)], []⟩ w5715 := by
       intro kq5720 C5714 w5715 x5718 g5719 HS5716 hk5721 HJ5717 H
       cases kq5720 with
       | zero => exact absurd H (by simp [blazonref13_Great.j0])
       | succ k5722 =>
        simp only [blazonref13_Great.j0] at H
        refine hK5703 _ _ ?_
        (try clear hK5703)
        by_cases c5723 : x5718 = true
        ·rw [if_pos c5723] at H
         (try rw [c5723])
         (try simp only [Bool.not_true, Bool.not_false])
         refine wp_cond_true rfl ?_
         refine wp_seq_k fun K5724 hK5724 => ?_
         refine wl_region ?_
         refine st (.bool true) rfl rfl (xr_assign (.bool true) rfl rfl) ?_
         simp only [ls0, ls1]
         refine wl_end ?_
         (try simp only [Act.put, List.setIfInBounds_toArray, ls0, ls1])
         refine hK5724 _ _ ?_
         (try clear hK5724 K5724)
         refine wp_ret ?_
         (try simp only [Exit.inBlock, Exit.then, Exit.noGoto])
         (try simp only [Act.put, List.setIfInBounds_toArray, ls0, ls1])
         obtain rfl := Option.some.inj H
         refine bodyPost_ret (results_tmp rfl _ _ _) rfl ?_
         exact ⟨_, rfl, HS5716⟩
        ·rw [if_neg c5723] at H
         (try rw [(Bool.eq_false_iff.mpr c5723)])
         (try simp only [Bool.not_true, Bool.not_false])
         refine wp_cond_false rfl ?_
         refine wp_skip ?_
         (try simp only [Act.put, List.setIfInBounds_toArray, ls0, ls1])
         refine hK5702 _ _ ?_
         (try clear hK5702 K5702)
         refine wl_region ?_
         refine st (.int .i64 x5663) rfl rfl (xr_move (.int .i64 x5663) rfl rfl) ?_
         simp only [ls0, ls1]
         refine st (.int .i64 (wrap64 (x5663 + 1))) rfl rfl (xr_bin (.int .i64 x5663) (.int .i64 1) (.int .i64 (wrap64 (x5663 + 1))) rfl rfl rfl (B.add_i64 x5663 1)) ?_
         simp only [ls0, ls1]
         refine st (.int .i64 (wrap64 (x5663 + 1))) rfl rfl (xr_assign (.int .i64 (wrap64 (x5663 + 1))) rfl rfl) ?_
         simp only [ls0, ls1]
         refine wl_end ?_
         (try simp only [Act.put, List.setIfInBounds_toArray, ls0, ls1])
         exact ih5670 k5722 (by omega) _ _ ⟨_, wrap64 (x5663 + 1), (fun q_ => List.getD [undef, undef, (g5719 2), (g5719 3), (g5719 4), undef, (g5719 6), (g5719 7), (g5719 8), (g5719 9), (g5719 10), (g5719 11), (g5719 12), (g5719 13), (g5719 14), .int .i64 x5663, .int .i64 (wrap64 (x5663 + 1)), (g5719 17), (g5719 18), (g5719 19), (g5719 20), (g5719 21), (g5719 22), (g5719 23), (g5719 24), (g5719 25), (g5719 26), (g5719 27), (g5719 28), (g5719 29), (g5719 30), (g5719 31), .bool false, (g5719 33), (g5719 34), (g5719 35), (g5719 36)] q_ undef), rfl, HS5716, (by omega), HJ5717, H⟩
      refine wl_region ?_
      refine st (.slice A0 l0.length c0) rfl rfl (xr_move (.slice A0 l0.length c0) rfl rfl) ?_
      simp only [ls0, ls1]
      refine st (.int .i64 x5663) rfl rfl (xr_move (.int .i64 x5663) rfl rfl) ?_
      simp only [ls0, ls1]
      by_cases c5725 : 0 ≤ x5663
      ·rw [if_pos c5725] at H
       by_cases c5726 : x5663 < (l0.length : Int)
       ·rw [if_pos c5726] at H
        obtain ⟨ad5727, hA5728⟩ := c_addr (Ft.now HJ5695) (pos_of (j := x5663) (by first | assumption | decide) (by first | assumption | omega))
        refine st (.pointer (some (ad5727.add ((x5663 : Int).toNat * 3)))) rfl rfl (xr_indexAddr (.slice A0 l0.length c0) (.int .i64 x5663) (.pointer (some (ad5727.add ((x5663 : Int).toNat * 3)))) rfl rfl rfl (index_at Try.underlying22 info25 hA5728 (by first | assumption | decide | omega) (by first | assumption | decide | omega))) ?_
        simp only [ls0, ls1]
        refine st (.pointer (some ((ad5727.add ((x5663 : Int).toNat * 3)).add 0))) rfl rfl (xr_fieldAddr (.pointer (some (ad5727.add ((x5663 : Int).toNat * 3)))) (.pointer (some ((ad5727.add ((x5663 : Int).toNat * 3)).add 0))) rfl rfl (field_at2 Try.underlying25 rfl rfl (by kernel_rfl))) ?_
        simp only [ls0, ls1]
        refine st (.string ((rd_T25 l0 x5663).f0)) rfl rfl (xr_load (.pointer (some ((ad5727.add ((x5663 : Int).toNat * 3)).add 0))) (.string ((rd_T25 l0 x5663).f0)) rfl rfl (by obtain ⟨ad_, cs_, e_, _, hK_, hc_⟩ := Kd.C_get (Ft.now HJ5695) z25 x5663 (by first | assumption | decide | omega) (by first | assumption | decide | omega); rw [hA5728] at e_; injection e_ with e_; subst e_; obtain rfl := k25_open hK_; exact load_cell Try.underlying9 rfl (by first | (rw [add_add]; exact hc_ 0 _ rfl) | (have h_ := hc_ 0 _ rfl; rw [Nat.add_zero] at h_; exact h_)))) ?_
        simp only [ls0, ls1]
        refine st (.int .i64 (((rd_T25 l0 x5663).f0).size : Int)) rfl rfl (xr_builtin #[.string ((rd_T25 l0 x5663).f0)] (.int .i64 (((rd_T25 l0 x5663).f0).size : Int)) rfl (by simp only [List.map_toArray, List.map_cons, List.map_nil]; first | done | rfl) (by first | rfl | (go_simp; done) | (go_simp; rfl) | (go_simp; exact i64_w _) | (go_simp; exact i32_w _))) ?_
        simp only [ls0, ls1]
        refine st (.bool (decide ((((rd_T25 l0 x5663).f0).size : Int) > 100))) rfl rfl (xr_bin (.int .i64 (((rd_T25 l0 x5663).f0).size : Int)) (.int .i64 100) (.bool (decide ((((rd_T25 l0 x5663).f0).size : Int) > 100))) rfl rfl rfl (B.gtr_i64 (((rd_T25 l0 x5663).f0).size : Int) 100)) ?_
        simp only [ls0, ls1]
        refine st (.bool (decide ((((rd_T25 l0 x5663).f0).size : Int) > 100))) rfl rfl (xr_move (.bool (decide ((((rd_T25 l0 x5663).f0).size : Int) > 100))) rfl rfl) ?_
        simp only [ls0, ls1]
        by_cases c5730 : (((rd_T25 l0 x5663).f0).size : Int) > 100
        ·rw [if_pos c5730] at H
         (try rw [(decide_eq_true c5730)])
         (try simp only [Bool.not_true, Bool.not_false])
         refine sk_guard (guard_off 7 false 24 rfl rfl true (by decide) rfl) rfl ?_
         simp only [ls0, ls1]
         refine sk_guard (guard_off 7 false 24 rfl rfl true (by decide) rfl) rfl ?_
         simp only [ls0, ls1]
         refine sk_guard (guard_off 7 false 24 rfl rfl true (by decide) rfl) rfl ?_
         simp only [ls0, ls1]
         refine sk_guard (guard_off 7 false 24 rfl rfl true (by decide) rfl) rfl ?_
         simp only [ls0, ls1]
         refine sk_guard (guard_off 7 false 24 rfl rfl true (by decide) rfl) rfl ?_
         simp only [ls0, ls1]
         refine sk_guard (guard_off 7 false 24 rfl rfl true (by decide) rfl) rfl ?_
         simp only [ls0, ls1]
         refine sk_guard (guard_off 7 false 24 rfl rfl true (by decide) rfl) rfl ?_
         simp only [ls0, ls1]
         refine st (.bool true) rfl rfl (xr_pick true (.bool true) rfl rfl rfl) ?_
         simp only [ls0, ls1]
         refine wl_end ?_
         (try simp only [Act.put, List.setIfInBounds_toArray, ls0, ls1])
         exact hj5713 _ _ _ (true) (fun q_ => List.getD [undef, undef, (g5697 2), (g5697 3), (g5697 4), undef, (g5697 6), (g5697 7), (g5697 8), (g5697 9), (g5697 10), (g5697 11), (g5697 12), (g5697 13), .bool true, (g5697 15), (g5697 16), .slice A0 l0.length c0, .int .i64 x5663, .pointer (some (ad5727.add ((x5663 : Int).toNat * 3))), .pointer (some ((ad5727.add ((x5663 : Int).toNat * 3)).add 0)), .string ((rd_T25 l0 x5663).f0), .int .i64 (((rd_T25 l0 x5663).f0).size : Int), .bool true, .bool true, undef, undef, undef, undef, undef, undef, undef, undef, (g5697 33), (g5697 34), (g5697 35), (g5697 36)] q_ undef)  HS5694 (by omega) HJ5695 H
        ·rw [if_neg c5730] at H
         (try rw [(decide_eq_false c5730)])
         (try simp only [Bool.not_true, Bool.not_false])
         refine on_guard (guard_on 7 false 24 rfl rfl rfl) ?_
         refine st (.slice A0 l0.length c0) rfl rfl (xr_move (.slice A0 l0.length c0) rfl rfl) ?_
         simp only [ls0, ls1]
         refine on_guard (guard_on 7 false 24 rfl rfl rfl) ?_
         refine st (.int .i64 x5663) rfl rfl (xr_move (.int .i64 x5663) rfl rfl) ?_
         simp only [ls0, ls1]
         refine on_guard (guard_on 7 false 24 rfl rfl rfl) ?_
         obtain ⟨ad5731, hA5732⟩ := c_addr (Ft.now HJ5695) (pos_of (j := x5663) (by first | assumption | decide) (by first | assumption | omega))
         refine st (.pointer (some (ad5731.add ((x5663 : Int).toNat * 3)))) rfl rfl (xr_indexAddr (.slice A0 l0.length c0) (.int .i64 x5663) (.pointer (some (ad5731.add ((x5663 : Int).toNat * 3)))) rfl rfl rfl (index_at Try.underlying22 info25 hA5732 (by first | assumption | decide | omega) (by first | assumption | decide | omega))) ?_
         simp only [ls0, ls1]
         refine on_guard (guard_on 7 false 24 rfl rfl rfl) ?_
         refine st (.pointer (some ((ad5731.add ((x5663 : Int).toNat * 3)).add 1))) rfl rfl (xr_fieldAddr (.pointer (some (ad5731.add ((x5663 : Int).toNat * 3)))) (.pointer (some ((ad5731.add ((x5663 : Int).toNat * 3)).add 1))) rfl rfl (field_at2 Try.underlying25 rfl rfl (by kernel_rfl))) ?_
         simp only [ls0, ls1]
         refine on_guard (guard_on 7 false 24 rfl rfl rfl) ?_
         refine st (.string ((rd_T25 l0 x5663).f1)) rfl rfl (xr_load (.pointer (some ((ad5731.add ((x5663 : Int).toNat * 3)).add 1))) (.string ((rd_T25 l0 x5663).f1)) rfl rfl (by obtain ⟨ad_, cs_, e_, _, hK_, hc_⟩ := Kd.C_get (Ft.now HJ5695) z25 x5663 (by first | assumption | decide | omega) (by first | assumption | decide | omega); rw [hA5732] at e_; injection e_ with e_; subst e_; obtain rfl := k25_open hK_; exact load_cell Try.underlying9 rfl (by first | (rw [add_add]; exact hc_ 1 _ rfl) | (have h_ := hc_ 1 _ rfl; rw [Nat.add_zero] at h_; exact h_)))) ?_
         simp only [ls0, ls1]
         refine on_guard (guard_on 7 false 24 rfl rfl rfl) ?_
         refine st (.int .i64 (((rd_T25 l0 x5663).f1).size : Int)) rfl rfl (xr_builtin #[.string ((rd_T25 l0 x5663).f1)] (.int .i64 (((rd_T25 l0 x5663).f1).size : Int)) rfl (by simp only [List.map_toArray, List.map_cons, List.map_nil]; first | done | rfl) (by first | rfl | (go_simp; done) | (go_simp; rfl) | (go_simp; exact i64_w _) | (go_simp; exact i32_w _))) ?_
         simp only [ls0, ls1]
         refine on_guard (guard_on 7 false 24 rfl rfl rfl) ?_
         refine st (.bool (decide ((((rd_T25 l0 x5663).f1).size : Int) > 100))) rfl rfl (xr_bin (.int .i64 (((rd_T25 l0 x5663).f1).size : Int)) (.int .i64 100) (.bool (decide ((((rd_T25 l0 x5663).f1).size : Int) > 100))) rfl rfl rfl (B.gtr_i64 (((rd_T25 l0 x5663).f1).size : Int) 100)) ?_
         simp only [ls0, ls1]
         refine st (.bool (decide ((((rd_T25 l0 x5663).f1).size : Int) > 100))) rfl rfl (xr_pick false (.bool (decide ((((rd_T25 l0 x5663).f1).size : Int) > 100))) rfl rfl rfl) ?_
         simp only [ls0, ls1]
         refine wl_end ?_
         (try simp only [Act.put, List.setIfInBounds_toArray, ls0, ls1])
         exact hj5713 _ _ _ (decide ((((rd_T25 l0 x5663).f1).size : Int) > 100)) (fun q_ => List.getD [undef, undef, (g5697 2), (g5697 3), (g5697 4), undef, (g5697 6), (g5697 7), (g5697 8), (g5697 9), (g5697 10), (g5697 11), (g5697 12), (g5697 13), .bool true, (g5697 15), (g5697 16), .slice A0 l0.length c0, .int .i64 x5663, .pointer (some (ad5727.add ((x5663 : Int).toNat * 3))), .pointer (some ((ad5727.add ((x5663 : Int).toNat * 3)).add 0)), .string ((rd_T25 l0 x5663).f0), .int .i64 (((rd_T25 l0 x5663).f0).size : Int), .bool false, .bool false, .slice A0 l0.length c0, .int .i64 x5663, .pointer (some (ad5731.add ((x5663 : Int).toNat * 3))), .pointer (some ((ad5731.add ((x5663 : Int).toNat * 3)).add 1)), .string ((rd_T25 l0 x5663).f1), .int .i64 (((rd_T25 l0 x5663).f1).size : Int), .bool (decide ((((rd_T25 l0 x5663).f1).size : Int) > 100)), undef, (g5697 33), (g5697 34), (g5697 35), (g5697 36)] q_ undef)  HS5694 (by omega) HJ5695 H
       ·rw [if_neg c5726] at H
        exact absurd H (by simp)
      ·rw [if_neg c5725] at H
       exact absurd H (by simp)
     ·rw [if_neg c5701] at H
      (try rw [(Bool.eq_false_iff.mpr c5701)])
      (try simp only [Bool.not_true, Bool.not_false])
      refine wp_cond_false rfl ?_
      refine wp_exit ?_
      (try simp only [Act.put, List.setIfInBounds_toArray, ls0, ls1])
      refine hK5534 _ _ ?_
      (try clear hK5534 K5534)
      refine wp_seq_k fun K5734 hK5734 => ?_
      refine wl_region ?_
      refine st (.slice A0 l0.length c0) rfl rfl (xr_move (.slice A0 l0.length c0) rfl rfl) ?_
      simp only [ls0, ls1]
      refine st (.int .i64 (l0.length : Int)) rfl rfl (xr_builtin #[.slice A0 l0.length c0] (.int .i64 (l0.length : Int)) rfl (by simp only [List.map_toArray, List.map_cons, List.map_nil]; first | done | rfl) (by first | rfl | (go_simp; done) | (go_simp; rfl) | (go_simp; exact i64_w _) | (go_simp; exact i32_w _))) ?_
      simp only [ls0, ls1]
      refine st (.int .i64 a1) rfl rfl (xr_move (.int .i64 a1) rfl rfl) ?_
      simp only [ls0, ls1]
      refine st (.bool (decide ((l0.length : Int) > a1))) rfl rfl (xr_bin (.int .i64 (l0.length : Int)) (.int .i64 a1) (.bool (decide ((l0.length : Int) > a1))) rfl rfl rfl (B.gtr_i64 (l0.length : Int) a1)) ?_
      simp only [ls0, ls1]
      refine st (.bool (decide ((l0.length : Int) > a1))) rfl rfl (xr_assign (.bool (decide ((l0.length : Int) > a1))) rfl rfl) ?_
      simp only [ls0, ls1]
      refine wl_end ?_
      (try simp only [Act.put, List.setIfInBounds_toArray, ls0, ls1])
      refine hK5734 _ _ ?_
      (try clear hK5734 K5734)
      refine wp_ret ?_
      (try simp only [Exit.inBlock, Exit.then, Exit.noGoto])
      (try simp only [Act.put, List.setIfInBounds_toArray, ls0, ls1])
      obtain rfl := Option.some.inj H
      refine bodyPost_ret (results_tmp rfl _ _ _) rfl ?_
      exact ⟨_, rfl, HS5694⟩
   refine wl_region ?_
   refine st (.int .i64 x5663) rfl rfl (xr_move (.int .i64 x5663) rfl rfl) ?_
   simp only [ls0, ls1]
   refine st (.slice A0 l0.length c0) rfl rfl (xr_move (.slice A0 l0.length c0) rfl rfl) ?_
   simp only [ls0, ls1]
   refine st (.int .i64 (l0.length : Int)) rfl rfl (xr_builtin #[.slice A0 l0.length c0] (.int .i64 (l0.length : Int)) rfl (by simp only [List.map_toArray, List.map_cons, List.map_nil]; first | done | rfl) (by first | rfl | (go_simp; done) | (go_simp; rfl) | (go_simp; exact i64_w _) | (go_simp; exact i32_w _))) ?_
   simp only [ls0, ls1]
   refine st (.bool (decide (x5663 < (l0.length : Int)))) rfl rfl (xr_bin (.int .i64 x5663) (.int .i64 (l0.length : Int)) (.bool (decide (x5663 < (l0.length : Int)))) rfl rfl rfl (B.lss_i64 x5663 (l0.length : Int))) ?_
   simp only [ls0, ls1]
   refine st (.bool (decide (x5663 < (l0.length : Int)))) rfl rfl (xr_move (.bool (decide (x5663 < (l0.length : Int)))) rfl rfl) ?_
   simp only [ls0, ls1]
   by_cases c5735 : x5663 < (l0.length : Int)
   ·rw [if_pos c5735] at H
    (try rw [(decide_eq_true c5735)])
    (try simp only [Bool.not_true, Bool.not_false])
    refine on_guard (guard_on 4 true 10 rfl rfl rfl) ?_
    refine st (.int .i64 x5663) rfl rfl (xr_move (.int .i64 x5663) rfl rfl) ?_
    simp only [ls0, ls1]
    refine on_guard (guard_on 4 true 10 rfl rfl rfl) ?_
    refine st (.int .i64 a1) rfl rfl (xr_move (.int .i64 a1) rfl rfl) ?_
    simp only [ls0, ls1]
    refine on_guard (guard_on 4 true 10 rfl rfl rfl) ?_
    refine st (.bool (decide (x5663 < a1))) rfl rfl (xr_bin (.int .i64 x5663) (.int .i64 a1) (.bool (decide (x5663 < a1))) rfl rfl rfl (B.lss_i64 x5663 a1)) ?_
    simp only [ls0, ls1]
    refine st (.bool (decide (x5663 < a1))) rfl rfl (xr_pick true (.bool (decide (x5663 < a1))) rfl rfl rfl) ?_
    simp only [ls0, ls1]
    refine wl_end ?_
    (try simp only [Act.put, List.setIfInBounds_toArray, ls0, ls1])
    exact hj5691 _ _ _ (decide (x5663 < a1)) (fun q_ => List.getD [undef, undef, (g5664 2), (g5664 3), (g5664 4), undef, .int .i64 x5663, .slice A0 l0.length c0, .int .i64 (l0.length : Int), .bool true, .bool true, .int .i64 x5663, .int .i64 a1, .bool (decide (x5663 < a1)), undef, (g5664 15), (g5664 16), (g5664 17), (g5664 18), (g5664 19), (g5664 20), (g5664 21), (g5664 22), (g5664 23), (g5664 24), (g5664 25), (g5664 26), (g5664 27), (g5664 28), (g5664 29), (g5664 30), (g5664 31), (g5664 32), (g5664 33), (g5664 34), (g5664 35), (g5664 36)] q_ undef)  HS5668 (by omega) HJ5662 H
   ·rw [if_neg c5735] at H
    (try rw [(decide_eq_false c5735)])
    (try simp only [Bool.not_true, Bool.not_false])
    refine sk_guard (guard_off 4 true 10 rfl rfl false (by decide) rfl) rfl ?_
    simp only [ls0, ls1]
    refine sk_guard (guard_off 4 true 10 rfl rfl false (by decide) rfl) rfl ?_
    simp only [ls0, ls1]
    refine sk_guard (guard_off 4 true 10 rfl rfl false (by decide) rfl) rfl ?_
    simp only [ls0, ls1]
    refine st (.bool false) rfl rfl (xr_pick false (.bool false) rfl rfl rfl) ?_
    simp only [ls0, ls1]
    refine wl_end ?_
    (try simp only [Act.put, List.setIfInBounds_toArray, ls0, ls1])
    exact hj5691 _ _ _ (false) (fun q_ => List.getD [undef, undef, (g5664 2), (g5664 3), (g5664 4), undef, .int .i64 x5663, .slice A0 l0.length c0, .int .i64 (l0.length : Int), .bool false, .bool false, undef, undef, undef, undef, (g5664 15), (g5664 16), (g5664 17), (g5664 18), (g5664 19), (g5664 20), (g5664 21), (g5664 22), (g5664 23), (g5664 24), (g5664 25), (g5664 26), (g5664 27), (g5664 28), (g5664 29), (g5664 30), (g5664 31), (g5664 32), (g5664 33), (g5664 34), (g5664 35), (g5664 36)] q_ undef)  HS5668 (by omega) HJ5662 H

end Go.Proofs.Ytpfepkkpbampkaa.POrs
