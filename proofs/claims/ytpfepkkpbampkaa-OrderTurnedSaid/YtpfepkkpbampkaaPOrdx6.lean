-- By cprint.py, a program of this work. Lean checks it.
import Derived.Test.YtpfepkkpbampkaaPOrdx0
import Derived.Test.YtpfepkkpbampkaaPOrdx1
import Derived.Test.YtpfepkkpbampkaaPOrdx4
import Derived.Test.YtpfepkkpbampkaaPOrdx5
namespace Go.Proofs.Ytpfepkkpbampkaa.POrd
open Go.RowKit Go.Proofs.YtpfepkkpbampkaaW.PrintWords Go.Proofs.YtpfepkkpbampkaaW.PrintLast Go.Proofs.YtpfepkkpbampkaaW.PrintMore
set_option linter.unusedVariables false
set_option linter.unusedSimpArgs false

/-! ### blazonlaw13_OrderTurned: function 4 -/
mutual
def blazonlaw13_OrderTurned.l0 : Nat → (Option S47) → (Option S47) → Int → Int → Option (Bool)
  | 0, _, _, _, _ => none
  | k + 1, x10087, x10090, x10093, x10229 => (order_Order_Len.f x10087).bind fun t10242 => (if x10229 < t10242 then ((order_Order_Name.f x10087 x10093).bind fun t10251 => ((order_Order_Find.f x10090 t10251).bind fun bt10257 => ((order_Order_Name.f x10087 x10229).bind fun t10265 => ((order_Order_Find.f x10090 t10265).bind fun bt10271 => ((order_Order_Most.f x10087 x10093 x10229).bind fun t10279 => ((order_Order_Most.f x10090 bt10271.1 bt10257.1).bind fun t10285 => (if t10279 = t10285 then (blazonlaw13_OrderTurned.l0 k x10087 x10090 x10093 (wrap64 (x10229 + 1))) else (some false)))))))) else (blazonlaw13_OrderTurned.l1 k x10087 x10090 (wrap64 (x10093 + 1))))
def blazonlaw13_OrderTurned.l1 : Nat → (Option S47) → (Option S47) → Int → Option (Bool)
  | 0, _, _, _ => none
  | k + 1, x10087, x10090, x10093 => (order_Order_Len.f x10087).bind fun t10106 => (if x10093 < t10106 then (blazonlaw13_OrderTurned.l0 k x10087 x10090 x10093 0) else ((order_Order_Len.f x10087).bind fun t10294 => ((order_Order_Len.f x10090).bind fun t10300 => (if t10294 = t10300 then ((blazonlaw13_awake.f k).bind fun t10307 => (some t10307)) else (some false)))))
def blazonlaw13_OrderTurned.l2 : Nat → (List (S25)) → Int → Option (Bool)
  | 0, _, _ => none
  | k + 1, l0, x10375 => if x10375 < (l0.length : Int) then (if 0 ≤ x10375 then (if ((rd_T25 l0 x10375).f0) = (⟨#[]⟩ : ByteArray) then ((blazonlaw13_awake.f k).bind fun t10397 => (some t10397)) else (blazonlaw13_OrderTurned.l2 k l0 (wrap64 (x10375 + 1)))) else (none)) else (some false)
def blazonlaw13_OrderTurned.l3 : Nat → (List (S25)) → (List (S25)) → Int → Option (Bool)
  | 0, _, _, _ => none
  | k + 1, l0, x8951, x8957 => if x8957 < (l0.length : Int) then (if 0 ≤ x8957 then (if ((rd_T25 l0 x8957).f1) = (⟨#[]⟩ : ByteArray) then (if x8951.length < 3518437208883 then ((some (x8951 ++ [(⟨(rd_T25 l0 x8957).f0, (rd_T25 l0 x8957).f1, (rd_T25 l0 x8957).f2⟩ : S25)] : List (S25))).bind fun y8989 => (blazonlaw13_OrderTurned.l3 k l0 y8989 (wrap64 (x8957 + 1)))) else (none)) else (if x8951.length < 3518437208883 then ((some (x8951 ++ [(⟨(rd_T25 l0 x8957).f1, (rd_T25 l0 x8957).f0, 0⟩ : S25)] : List (S25))).bind fun y9002 => (blazonlaw13_OrderTurned.l3 k l0 y9002 (wrap64 (x8957 + 1)))) else (none))) else (none)) else ((order_New.f k l0).bind fun bt9012 => ((order_New.f k x8951).bind fun bt9024 => (if (decide (bt9012.2.2 = 0)) = (decide (bt9024.2.2 = 0)) then (if bt9012.2.2 = 0 then (blazonlaw13_OrderTurned.l1 k bt9012.1 bt9024.1 0) else (if bt9012.2.2 = 16 then (if bt9024.2.2 = 16 then (if bt9012.2.1 = bt9024.2.1 then ((blazonlaw13_awake.f k).bind fun t10317 => (some t10317)) else (some false)) else ((blazonlaw13_awake.f k).bind fun t10323 => (some t10323))) else ((blazonlaw13_awake.f k).bind fun t10329 => (some t10329)))) else (blazonlaw13_OrderTurned.l2 k l0 0))))
end
def blazonlaw13_OrderTurned.f (k : Nat) (l0 : List (S25)) : Option (Bool) := (blazonref13_Great.f k l0 40).bind fun t8681 => (if t8681 = true then ((blazonlaw13_awake.f k).bind fun t8689 => (some t8689)) else (blazonlaw13_OrderTurned.l3 k l0 ([] : List (S25)) 0))

set_option maxHeartbeats 2000000 in
set_option maxRecDepth 100000 in
theorem blazonlaw13_OrderTurned.calls (k : Nat) (A0 : Option Addr) (c0 : Nat) (l0 : List (S25)) (r : Bool) (c : Nat → Nat) (w : World) (hc : ∀ k, c k < 10) (HP0 : Ft c [0] w (fun w_ => k25.C w_ A0 l0.length l0)) (HCP0 : l0.length ≤ c0) (H : blazonlaw13_OrderTurned.f k l0 = some r) :
    Calls Try.prog 4 #[.slice A0 l0.length c0] w fun e w' => ∃ (c' : Nat → Nat) , e = .returned (.bool r) ∧ Step c w c' w' [] := by
  unfold blazonlaw13_OrderTurned.f at H
  have HS := Step.refl c w []
  go_enter Try.func4, Try.ntmps4
  refine wp_seq_k fun K8678 hK8678 => ?_
  refine wl_region ?_
  refine st (.bool false) rfl rfl (xr_assign (.bool false) rfl rfl) ?_
  simp only [ls0, ls1]
  refine wl_end ?_
  (try simp only [Act.put, List.setIfInBounds_toArray, ls0, ls1])
  refine hK8678 _ _ ?_
  (try clear hK8678 K8678)
  refine wp_seq_k fun K8679 hK8679 => ?_
  refine wp_seq_k fun K8680 hK8680 => ?_
  refine wl_region ?_
  refine st (.slice A0 l0.length c0) rfl rfl (xr_move (.slice A0 l0.length c0) rfl rfl) ?_
  simp only [ls0, ls1]
  obtain ⟨t8681, A8682, H⟩ := Option.bind_eq_some_iff.mp H
  (try dsimp only at H)
  refine st_call #[.slice A0 l0.length c0, .int .i64 40] rfl rfl Try.func12 (by kernel_rfl) rfl rfl (by simp only [List.map_toArray, List.map_cons, List.map_nil]; first | done | rfl) ?_
  refine (blazonref13_Great.calls k A0 c0 l0 40 t8681  (fun z_ => pal [(0, 0)] (c z_)) w (fun _ => pal_lt rfl _) (Ft.arg HP0 rfl) HCP0 A8682).mono ?_
  rintro _ w8684 ⟨C8685, rfl, hs8686⟩
  refine ⟨_, rfl, ?_⟩
  replace hs8686 := Step.lift (U := [(0, 0)]) hs8686 [] rfl rfl
  generalize up c C8685 w.heap.size [(0, 0)] = C8685_ at hs8686
  replace HP0 := HP0.thru hs8686 rfl
  replace HS := HS.trans hs8686 hc rfl
  (try simp only [Act.put, List.setIfInBounds_toArray, ls0, ls1])
  refine wl_end ?_
  (try simp only [Act.put, List.setIfInBounds_toArray, ls0, ls1])
  refine hK8680 _ _ ?_
  (try clear hK8680 K8680)
  by_cases c8687 : t8681 = true
  · rw [if_pos c8687] at H
    (try rw [c8687])
    (try simp only [Bool.not_true, Bool.not_false])
    refine wp_cond_true rfl ?_
    refine wp_seq_k fun K8688 hK8688 => ?_
    refine wl_region ?_
    obtain ⟨t8689, A8690, H⟩ := Option.bind_eq_some_iff.mp H
    (try dsimp only at H)
    refine st_call #[] rfl rfl Try.func9 (by kernel_rfl) rfl rfl (by simp only [List.map_toArray, List.map_cons, List.map_nil]; first | done | rfl) ?_
    refine (blazonlaw13_awake.calls k t8689  (fun z_ => pal [(0, 0)] (C8685_ z_)) w8684 (fun _ => pal_lt rfl _) A8690).mono ?_
    rintro _ w8692 ⟨C8693, rfl, hs8694⟩
    refine ⟨_, rfl, ?_⟩
    replace hs8694 := Step.lift (U := [(0, 0)]) hs8694 [] rfl rfl
    generalize up C8685_ C8693 w8684.heap.size [(0, 0)] = C8693_ at hs8694
    replace HS := HS.trans hs8694 hc rfl
    (try simp only [Act.put, List.setIfInBounds_toArray, ls0, ls1])
    refine st (.bool t8689) rfl rfl (xr_assign (.bool t8689) rfl rfl) ?_
    simp only [ls0, ls1]
    refine wl_end ?_
    (try simp only [Act.put, List.setIfInBounds_toArray, ls0, ls1])
    refine hK8688 _ _ ?_
    (try clear hK8688 K8688)
    refine wp_ret ?_
    (try simp only [Exit.inBlock, Exit.then, Exit.noGoto])
    (try simp only [Act.put, List.setIfInBounds_toArray, ls0, ls1])
    obtain rfl := Option.some.inj H
    refine bodyPost_ret (results_tmp rfl _ _ _) rfl ?_
    exact ⟨_, rfl, HS⟩
  · rw [if_neg c8687] at H
    (try rw [(Bool.eq_false_iff.mpr c8687)])
    (try simp only [Bool.not_true, Bool.not_false])
    refine wp_cond_false rfl ?_
    refine wp_skip ?_
    (try simp only [Act.put, List.setIfInBounds_toArray, ls0, ls1])
    refine hK8679 _ _ ?_
    (try clear hK8679 K8679)
    refine wp_seq_k fun K8695 hK8695 => ?_
    refine wl_region ?_
    refine st (.slice none 0 0) rfl rfl (xr_assign (.slice none 0 0) rfl rfl) ?_
    simp only [ls0, ls1]
    refine wl_end ?_
    (try simp only [Act.put, List.setIfInBounds_toArray, ls0, ls1])
    refine hK8695 _ _ ?_
    (try clear hK8695 K8695)
    refine wp_seq_k fun K8696 hK8696 => ?_
    refine wp_seq_k fun K8854 hK8854 => ?_
    refine wl_region ?_
    refine st (.int .i64 0) rfl rfl (xr_assign (.int .i64 0) rfl rfl) ?_
    simp only [ls0, ls1]
    refine wl_end ?_
    (try simp only [Act.put, List.setIfInBounds_toArray, ls0, ls1])
    refine hK8854 _ _ ?_
    (try clear hK8854 K8854)
    refine wp_block ?_
    (try simp only [Act.put, List.setIfInBounds_toArray, ls0, ls1])
    refine wp_looped (looped_ind (fun kq8961 a_ w8960 => ∃ (C8959 : Nat → Nat) (x8957 : Int) (A8952 : Option Addr) (n8953 cp8954 : Nat) (x8951 : List (S25)) (g8958 : Nat → Value), a_ = ⟨#[.slice A0 l0.length c0, (g8958 1), (g8958 2), .slice A8952 n8953 cp8954, .int .i64 x8957, (g8958 5), (g8958 6), (g8958 7), (g8958 8), (g8958 9), (g8958 10), (g8958 11), (g8958 12), (g8958 13), (g8958 14), (g8958 15), (g8958 16), (g8958 17), (g8958 18), (g8958 19), (g8958 20), (g8958 21), (g8958 22), (g8958 23), (g8958 24), (g8958 25), (g8958 26), (g8958 27), (g8958 28), (g8958 29), (g8958 30), (g8958 31), (g8958 32), (g8958 33), (g8958 34), (g8958 35), (g8958 36), (g8958 37), (g8958 38), (g8958 39), (g8958 40), (g8958 41), (g8958 42), (g8958 43), (g8958 44), (g8958 45), (g8958 46), (g8958 47), (g8958 48), (g8958 49), (g8958 50), (g8958 51), (g8958 52), (g8958 53), (g8958 54), (g8958 55), (g8958 56), (g8958 57), (g8958 58), (g8958 59), (g8958 60), (g8958 61), (g8958 62), (g8958 63), (g8958 64), (g8958 65), (g8958 66), (g8958 67), (g8958 68), (g8958 69), (g8958 70), (g8958 71), (g8958 72), (g8958 73), (g8958 74), (g8958 75), (g8958 76), (g8958 77), (g8958 78), (g8958 79), (g8958 80), (g8958 81), (g8958 82), (g8958 83), (g8958 84), (g8958 85), (g8958 86), (g8958 87), (g8958 88), (g8958 89), (g8958 90), (g8958 91), (g8958 92), (g8958 93), (g8958 94), (g8958 95), (g8958 96), (g8958 97), (g8958 98), (g8958 99), (g8958 100), (g8958 101), (g8958 102), (g8958 103), (g8958 104), (g8958 105), (g8958 106), (g8958 107), (g8958 108), (g8958 109), (g8958 110), (g8958 111), (g8958 112), (g8958 113), (g8958 114), (g8958 115), (g8958 116), (g8958 117), (g8958 118), (g8958 119), (g8958 120), (g8958 121), (g8958 122), (g8958 123), (g8958 124), (g8958 125), (g8958 126), (g8958 127), (g8958 128), (g8958 129), (g8958 130), (g8958 131), (g8958 132), (g8958 133), (g8958 134)], []⟩ ∧ Step c w C8959 w8960 [] ∧ kq8961 ≤ k ∧ (Ft C8959 [0] w8960 (fun w_ => k25.C w_ A0 l0.length l0)) ∧ (Own C8959 11 w8960 k25 25 (.slice A8952 n8953 cp8954) x8951) ∧ (n8953 ≤ cp8954) ∧ blazonlaw13_OrderTurned.l3 kq8961 l0 x8951 x8957 = some r) ?step k _ _ ?init)
    case init =>
      exact ⟨_, 0, none, 0, 0, ([] : List (S25)), (fun q_ => List.getD [undef, undef, .bool false, undef, undef, undef, undef, undef, undef, undef, undef, undef, undef, undef, undef, undef, undef, undef, undef, .slice A0 l0.length c0, .bool false, undef, undef, undef, undef, undef, undef, undef, undef, undef, undef, undef, undef, undef, undef, undef, undef, undef, undef, undef, undef, undef, undef, undef, undef, undef, undef, undef, undef, undef, undef, undef, undef, undef, undef, undef, undef, undef, undef, undef, undef, undef, undef, undef, undef, undef, undef, undef, undef, undef, undef, undef, undef, undef, undef, undef, undef, undef, undef, undef, undef, undef, undef, undef, undef, undef, undef, undef, undef, undef, undef, undef, undef, undef, undef, undef, undef, undef, undef, undef, undef, undef, undef, undef, undef, undef, undef, undef, undef, undef, undef, undef, undef, undef, undef, undef, undef, undef, undef, undef, undef, undef, undef, undef, undef, undef, undef, undef, undef, undef, undef, undef, undef, undef, undef] q_ undef), rfl, HS, Nat.le_refl _, HP0, (Own.nil _ _ _ _ _), (Nat.le_refl 0), H⟩
    case step =>
      intro kq8961 ih8964 a8965 w8960 hr8966
      obtain ⟨C8959, x8957, A8952, n8953, cp8954, x8951, g8958, rfl, HS8962, hk8963, HJ8950, HJ8956, HC8955, H⟩ := hr8966
      refine looped_round ?_
      obtain rfl : n8953 = x8951.length := HJ8956.at_.1
      cases kq8961 with
      | zero => exact absurd H (by simp [blazonlaw13_OrderTurned.l3])
      | succ k8967 =>
        simp only [blazonlaw13_OrderTurned.l3] at H
        refine wp_seq_k fun K8968 hK8968 => ?_
        refine wp_seq_k fun K8969 hK8969 => ?_
        refine wl_region ?_
        refine st (.int .i64 x8957) rfl rfl (xr_move (.int .i64 x8957) rfl rfl) ?_
        simp only [ls0, ls1]
        refine st (.slice A0 l0.length c0) rfl rfl (xr_move (.slice A0 l0.length c0) rfl rfl) ?_
        simp only [ls0, ls1]
        refine st (.int .i64 (l0.length : Int)) rfl rfl (xr_builtin #[.slice A0 l0.length c0] (.int .i64 (l0.length : Int)) rfl (by simp only [List.map_toArray, List.map_cons, List.map_nil]; first | done | rfl) (by first | rfl | (go_simp; done) | (go_simp; rfl) | (go_simp; exact i64_w _) | (go_simp; exact i32_w _))) ?_
        simp only [ls0, ls1]
        refine st (.bool (decide (x8957 < (l0.length : Int)))) rfl rfl (xr_bin (.int .i64 x8957) (.int .i64 (l0.length : Int)) (.bool (decide (x8957 < (l0.length : Int)))) rfl rfl rfl (B.lss_i64 x8957 (l0.length : Int))) ?_
        simp only [ls0, ls1]
        refine wl_end ?_
        (try simp only [Act.put, List.setIfInBounds_toArray, ls0, ls1])
        refine hK8969 _ _ ?_
        (try clear hK8969 K8969)
        by_cases c8970 : x8957 < (l0.length : Int)
        · rw [if_pos c8970] at H
          (try rw [(decide_eq_true c8970)])
          (try simp only [Bool.not_true, Bool.not_false])
          refine wp_cond_true rfl ?_
          refine wp_skip ?_
          (try simp only [Act.put, List.setIfInBounds_toArray, ls0, ls1])
          refine hK8968 _ _ ?_
          (try clear hK8968 K8968)
          refine wp_seq_k fun K8971 hK8971 => ?_
          refine wp_block ?_
          refine wp_seq_k fun K8972 hK8972 => ?_
          refine wl_region ?_
          refine st (.slice A0 l0.length c0) rfl rfl (xr_move (.slice A0 l0.length c0) rfl rfl) ?_
          simp only [ls0, ls1]
          refine st (.int .i64 x8957) rfl rfl (xr_move (.int .i64 x8957) rfl rfl) ?_
          simp only [ls0, ls1]
          by_cases c8973 : 0 ≤ x8957
          · rw [if_pos c8973] at H
            obtain ⟨ad8974, hA8975⟩ := c_addr (Ft.now HJ8950) (pos_of (j := x8957) (by first | assumption | decide) (by first | assumption | omega))
            refine st (.pointer (some (ad8974.add ((x8957 : Int).toNat * 3)))) rfl rfl (xr_indexAddr (.slice A0 l0.length c0) (.int .i64 x8957) (.pointer (some (ad8974.add ((x8957 : Int).toNat * 3)))) rfl rfl rfl (index_at Try.underlying22 info25 hA8975 (by first | assumption | decide | omega) (by first | assumption | decide | omega))) ?_
            simp only [ls0, ls1]
            refine st (.agg #[.string ((rd_T25 l0 x8957).f0), .string ((rd_T25 l0 x8957).f1), .int .i64 ((rd_T25 l0 x8957).f2)]) rfl rfl (xr_load (.pointer (some (ad8974.add ((x8957 : Int).toNat * 3)))) (.agg #[.string ((rd_T25 l0 x8957).f0), .string ((rd_T25 l0 x8957).f1), .int .i64 ((rd_T25 l0 x8957).f2)]) rfl rfl (by obtain ⟨ad_, cs_, e_, _, hK_, hc_⟩ := Kd.C_get (Ft.now HJ8950) z25 x8957 (by first | assumption | decide | omega) (by first | assumption | decide | omega); rw [hA8975] at e_; injection e_ with e_; subst e_; obtain rfl := k25_open hK_; exact load_agg (cs := [.string ((rd_T25 l0 x8957).f0), .string ((rd_T25 l0 x8957).f1), .int .i64 ((rd_T25 l0 x8957).f2)]) Try.underlying25 rfl (by kernel_rfl) (fun j_ u_ hu_ => by first | (rw [add_add]; exact hc_ _ _ hu_) | exact add_cells hc_ hu_))) ?_
            simp only [ls0, ls1]
            refine bx_new (C := C8959) 25 ([.string (⟨#[]⟩ : ByteArray), .string (⟨#[]⟩ : ByteArray), .int .i64 0]) 12 rfl rfl (by first | (go_simp; done) | (go_simp; rfl)) ?_
            intro g8977 w8978 C8979 HX8980 hs8981
            replace HJ8950 := HJ8950.thru hs8981 rfl
            replace HJ8956 := HJ8956.thru hs8981 rfl
            replace HS8962 := HS8962.trans hs8981 hc rfl
            (try simp only [Act.put, List.setIfInBounds_toArray, ls0, ls1])
            refine bx_store (C := C8979) (z := 12) (g := g8977) (j := 0) (tb := 25) (u := .agg #[.string ((rd_T25 l0 x8957).f0), .string ((rd_T25 l0 x8957).f1), .int .i64 ((rd_T25 l0 x8957).f2)]) (seg := [.string ((rd_T25 l0 x8957).f0), .string ((rd_T25 l0 x8957).f1), .int .i64 ((rd_T25 l0 x8957).f2)]) (xs := [.string (⟨#[]⟩ : ByteArray), .string (⟨#[]⟩ : ByteArray), .int .i64 0]) rfl rfl rfl rfl rfl rfl (by first | kernel_rfl | rfl) (by simp [Value.oneCell']) HX8980 (by simp only [List.length_cons, List.length_nil]; omega) rfl ?_
            intro w8982 HX8983 hs8984
            replace HJ8950 := HJ8950.thru hs8984 rfl
            replace HJ8956 := HJ8956.thru hs8984 rfl
            replace HS8962 := HS8962.trans hs8984 hc rfl
            (try simp only [Act.put, List.setIfInBounds_toArray, ls0, ls1])
            refine wl_end ?_
            (try simp only [Act.put, List.setIfInBounds_toArray, ls0, ls1])
            refine hK8972 _ _ ?_
            (try clear hK8972 K8972)
            refine wp_seq_k fun K8985 hK8985 => ?_
            refine wp_seq_k fun K8986 hK8986 => ?_
            refine wl_region ?_
            refine st (.pointer (some ⟨g8977, 1, none⟩)) rfl rfl (xr_fieldAddr (.pointer (some ⟨g8977, 0, none⟩)) (.pointer (some ⟨g8977, 1, none⟩)) rfl rfl (bx_field2 Try.underlying25 rfl rfl (by kernel_rfl))) ?_
            simp only [ls0, ls1]
            refine st (.string ((rd_T25 l0 x8957).f1)) rfl rfl (xr_load (.pointer (some ⟨g8977, 1, none⟩)) (.string ((rd_T25 l0 x8957).f1)) rfl rfl (load_cell Try.underlying9 rfl (bx_cell (l := ([.string ((rd_T25 l0 x8957).f0), .string ((rd_T25 l0 x8957).f1), .int .i64 ((rd_T25 l0 x8957).f2)])) (HX8983).2 1 rfl))) ?_
            simp only [ls0, ls1]
            refine st (.bool (!decide (((rd_T25 l0 x8957).f1) = (⟨#[]⟩ : ByteArray)))) rfl rfl (xr_bin (.string ((rd_T25 l0 x8957).f1)) (.string (⟨#[]⟩ : ByteArray)) (.bool (!decide (((rd_T25 l0 x8957).f1) = (⟨#[]⟩ : ByteArray)))) rfl rfl rfl (B.neq_str ((rd_T25 l0 x8957).f1) (⟨#[]⟩ : ByteArray))) ?_
            simp only [ls0, ls1]
            refine wl_end ?_
            (try simp only [Act.put, List.setIfInBounds_toArray, ls0, ls1])
            refine hK8986 _ _ ?_
            (try clear hK8986 K8986)
            by_cases c8987 : ((rd_T25 l0 x8957).f1) = (⟨#[]⟩ : ByteArray)
            · rw [if_pos c8987] at H
              (try rw [(decide_eq_true c8987)])
              (try simp only [Bool.not_true, Bool.not_false])
              refine wp_cond_false rfl ?_
              refine wp_skip ?_
              (try simp only [Act.put, List.setIfInBounds_toArray, ls0, ls1])
              refine hK8985 _ _ ?_
              (try clear hK8985 K8985)
              refine wl_region ?_
              refine st (.slice A8952 x8951.length cp8954) rfl rfl (xr_move (.slice A8952 x8951.length cp8954) rfl rfl) ?_
              simp only [ls0, ls1]
              refine st (.agg #[.string ((rd_T25 l0 x8957).f0), .string ((rd_T25 l0 x8957).f1), .int .i64 ((rd_T25 l0 x8957).f2)]) rfl rfl (xr_load (.pointer (some ⟨g8977, 0, none⟩)) (.agg #[.string ((rd_T25 l0 x8957).f0), .string ((rd_T25 l0 x8957).f1), .int .i64 ((rd_T25 l0 x8957).f2)]) rfl rfl (load_agg (cs := [.string ((rd_T25 l0 x8957).f0), .string ((rd_T25 l0 x8957).f1), .int .i64 ((rd_T25 l0 x8957).f2)]) Try.underlying25 rfl (by kernel_rfl) (bx_cells (l := ([.string ((rd_T25 l0 x8957).f0), .string ((rd_T25 l0 x8957).f1), .int .i64 ((rd_T25 l0 x8957).f2)])) (HX8983).2 0 rfl))) ?_
              simp only [ls0, ls1]
              refine ev_run (w1 := w8982.alloc (.cells #[.string ((rd_T25 l0 x8957).f0), .string ((rd_T25 l0 x8957).f1), .int .i64 ((rd_T25 l0 x8957).f2)] 25)) (.slice (some ⟨w8982.heap.size, 0, none⟩) 1 1) rfl rfl (by first | (go_simp; done) | (go_simp; rfl)) ?_
              (try simp only [Act.put, List.setIfInBounds_toArray, ls0, ls1])
              by_cases c8988 : x8951.length < 3518437208883
              · rw [if_pos c8988] at H
                obtain ⟨y8989, A8990, H⟩ := Option.bind_eq_some_iff.mp H
                (try dsimp only at H)
                refine Own.append k25 (C := C8979) (i := 11) rfl (.tmp 40) (.tmp 42) 22 25 (.agg #[(.string ⟨#[]⟩), (.string ⟨#[]⟩), (.int .i64 0)]) 40 rfl Try.underlying22 info25 rfl (by decide) (by decide) (.slice A8952 x8951.length cp8954) x8951 (⟨(rd_T25 l0 x8957).f0, (rd_T25 l0 x8957).f1, (rd_T25 l0 x8957).f2⟩ : S25) [.string ((rd_T25 l0 x8957).f0), .string ((rd_T25 l0 x8957).f1), .int .i64 ((rd_T25 l0 x8957).f2)] rfl rfl (k25_mkF _ _ (⟨(rd_T25 l0 x8957).f0, (rd_T25 l0 x8957).f1, (rd_T25 l0 x8957).f2⟩ : S25)) HJ8956 (by decide) (by omega) (Option.some.inj A8990) ?_
                intro A8991 cp8992 w8993 C8994 HO8995 HC8996 hs8997
                replace HJ8950 := HJ8950.thru hs8997 rfl
                replace HX8983 := HX8983.thru hs8997 rfl
                replace HS8962 := HS8962.trans hs8997 hc rfl
                (try simp only [Act.put, List.setIfInBounds_toArray, ls0, ls1])
                refine st (.slice A8991 y8989.length cp8992) rfl rfl (xr_assign (.slice A8991 y8989.length cp8992) rfl rfl) ?_
                simp only [ls0, ls1]
                refine wl_end ?_
                (try simp only [Act.put, List.setIfInBounds_toArray, ls0, ls1])
                refine hK8971 _ _ ?_
                (try clear hK8971 K8971)
                refine wl_region ?_
                refine st (.int .i64 x8957) rfl rfl (xr_move (.int .i64 x8957) rfl rfl) ?_
                simp only [ls0, ls1]
                refine st (.int .i64 (wrap64 (x8957 + 1))) rfl rfl (xr_bin (.int .i64 x8957) (.int .i64 1) (.int .i64 (wrap64 (x8957 + 1))) rfl rfl rfl (B.add_i64 x8957 1)) ?_
                simp only [ls0, ls1]
                refine st (.int .i64 (wrap64 (x8957 + 1))) rfl rfl (xr_assign (.int .i64 (wrap64 (x8957 + 1))) rfl rfl) ?_
                simp only [ls0, ls1]
                refine wl_end ?_
                (try simp only [Act.put, List.setIfInBounds_toArray, ls0, ls1])
                exact ih8964 k8967 (by omega) _ _ ⟨_, wrap64 (x8957 + 1), A8991, y8989.length, cp8992, y8989, (fun q_ => List.getD [undef, (g8958 1), (g8958 2), undef, undef, .pointer (some ⟨g8977, 0, none⟩), (g8958 6), (g8958 7), (g8958 8), (g8958 9), (g8958 10), (g8958 11), (g8958 12), (g8958 13), (g8958 14), (g8958 15), (g8958 16), (g8958 17), (g8958 18), (g8958 19), (g8958 20), (g8958 21), .int .i64 x8957, .slice A0 l0.length c0, .int .i64 (l0.length : Int), .bool true, .int .i64 x8957, .int .i64 (wrap64 (x8957 + 1)), .slice A0 l0.length c0, .int .i64 x8957, .pointer (some (ad8974.add ((x8957 : Int).toNat * 3))), .agg #[.string ((rd_T25 l0 x8957).f0), .string ((rd_T25 l0 x8957).f1), .int .i64 ((rd_T25 l0 x8957).f2)], .pointer (some ⟨g8977, 1, none⟩), .string ((rd_T25 l0 x8957).f1), .bool false, (g8958 35), (g8958 36), (g8958 37), (g8958 38), (g8958 39), .slice A8952 x8951.length cp8954, .agg #[.string ((rd_T25 l0 x8957).f0), .string ((rd_T25 l0 x8957).f1), .int .i64 ((rd_T25 l0 x8957).f2)], .slice (some ⟨w8982.heap.size, 0, none⟩) 1 1, .slice A8991 y8989.length cp8992, (g8958 44), (g8958 45), (g8958 46), (g8958 47), (g8958 48), (g8958 49), (g8958 50), (g8958 51), (g8958 52), (g8958 53), (g8958 54), (g8958 55), (g8958 56), (g8958 57), (g8958 58), (g8958 59), (g8958 60), (g8958 61), (g8958 62), (g8958 63), (g8958 64), (g8958 65), (g8958 66), (g8958 67), (g8958 68), (g8958 69), (g8958 70), (g8958 71), (g8958 72), (g8958 73), (g8958 74), (g8958 75), (g8958 76), (g8958 77), (g8958 78), (g8958 79), (g8958 80), (g8958 81), (g8958 82), (g8958 83), (g8958 84), (g8958 85), (g8958 86), (g8958 87), (g8958 88), (g8958 89), (g8958 90), (g8958 91), (g8958 92), (g8958 93), (g8958 94), (g8958 95), (g8958 96), (g8958 97), (g8958 98), (g8958 99), (g8958 100), (g8958 101), (g8958 102), (g8958 103), (g8958 104), (g8958 105), (g8958 106), (g8958 107), (g8958 108), (g8958 109), (g8958 110), (g8958 111), (g8958 112), (g8958 113), (g8958 114), (g8958 115), (g8958 116), (g8958 117), (g8958 118), (g8958 119), (g8958 120), (g8958 121), (g8958 122), (g8958 123), (g8958 124), (g8958 125), (g8958 126), (g8958 127), (g8958 128), (g8958 129), (g8958 130), (g8958 131), (g8958 132), (g8958 133), (g8958 134)] q_ undef), rfl, HS8962, (by omega), HJ8950, HO8995, HC8996, H⟩
              · rw [if_neg c8988] at H
                exact absurd H (by simp)
            · rw [if_neg c8987] at H
              (try rw [(decide_eq_false c8987)])
              (try simp only [Bool.not_true, Bool.not_false])
              refine wp_cond_true rfl ?_
              refine wl_region ?_
              refine st (.pointer (some ⟨g8977, 1, none⟩)) rfl rfl (xr_fieldAddr (.pointer (some ⟨g8977, 0, none⟩)) (.pointer (some ⟨g8977, 1, none⟩)) rfl rfl (bx_field2 Try.underlying25 rfl rfl (by kernel_rfl))) ?_
              simp only [ls0, ls1]
              refine st (.string ((rd_T25 l0 x8957).f1)) rfl rfl (xr_load (.pointer (some ⟨g8977, 1, none⟩)) (.string ((rd_T25 l0 x8957).f1)) rfl rfl (load_cell Try.underlying9 rfl (bx_cell (l := ([.string ((rd_T25 l0 x8957).f0), .string ((rd_T25 l0 x8957).f1), .int .i64 ((rd_T25 l0 x8957).f2)])) (HX8983).2 1 rfl))) ?_
              simp only [ls0, ls1]
              refine st (.pointer (some ⟨g8977, 0, none⟩)) rfl rfl (xr_fieldAddr (.pointer (some ⟨g8977, 0, none⟩)) (.pointer (some ⟨g8977, 0, none⟩)) rfl rfl (bx_field2 Try.underlying25 rfl rfl (by kernel_rfl))) ?_
              simp only [ls0, ls1]
              refine st (.string ((rd_T25 l0 x8957).f0)) rfl rfl (xr_load (.pointer (some ⟨g8977, 0, none⟩)) (.string ((rd_T25 l0 x8957).f0)) rfl rfl (load_cell Try.underlying9 rfl (bx_cell (l := ([.string ((rd_T25 l0 x8957).f0), .string ((rd_T25 l0 x8957).f1), .int .i64 ((rd_T25 l0 x8957).f2)])) (HX8983).2 0 rfl))) ?_
              simp only [ls0, ls1]
              refine st (.agg #[.string ((rd_T25 l0 x8957).f1), .string ((rd_T25 l0 x8957).f0), .int .i64 0]) rfl rfl (xr_build #[(0, .string ((rd_T25 l0 x8957).f1)), (1, .string ((rd_T25 l0 x8957).f0))] (.agg #[.string ((rd_T25 l0 x8957).f1), .string ((rd_T25 l0 x8957).f0), .int .i64 0]) rfl (by simp only [List.map_toArray, List.map_cons, List.map_nil]; first | done | rfl) (by first | rfl | (go_simp; done) | (go_simp; rfl) | (go_simp; exact i64_w _) | (go_simp; exact i32_w _))) ?_
              simp only [ls0, ls1]
              refine bx_store (C := C8979) (z := 12) (g := g8977) (j := 0) (tb := 25) (u := .agg #[.string ((rd_T25 l0 x8957).f1), .string ((rd_T25 l0 x8957).f0), .int .i64 0]) (seg := [.string ((rd_T25 l0 x8957).f1), .string ((rd_T25 l0 x8957).f0), .int .i64 0]) (xs := [.string ((rd_T25 l0 x8957).f0), .string ((rd_T25 l0 x8957).f1), .int .i64 ((rd_T25 l0 x8957).f2)]) rfl rfl rfl rfl rfl rfl (by first | kernel_rfl | rfl) (by simp [Value.oneCell']) HX8983 (by simp only [List.length_cons, List.length_nil]; omega) rfl ?_
              intro w8998 HX8999 hs9000
              replace HJ8950 := HJ8950.thru hs9000 rfl
              replace HJ8956 := HJ8956.thru hs9000 rfl
              replace HS8962 := HS8962.trans hs9000 hc rfl
              (try simp only [Act.put, List.setIfInBounds_toArray, ls0, ls1])
              refine wl_end ?_
              (try simp only [Act.put, List.setIfInBounds_toArray, ls0, ls1])
              refine hK8985 _ _ ?_
              (try clear hK8985 K8985)
              refine wl_region ?_
              refine st (.slice A8952 x8951.length cp8954) rfl rfl (xr_move (.slice A8952 x8951.length cp8954) rfl rfl) ?_
              simp only [ls0, ls1]
              refine st (.agg #[.string ((rd_T25 l0 x8957).f1), .string ((rd_T25 l0 x8957).f0), .int .i64 0]) rfl rfl (xr_load (.pointer (some ⟨g8977, 0, none⟩)) (.agg #[.string ((rd_T25 l0 x8957).f1), .string ((rd_T25 l0 x8957).f0), .int .i64 0]) rfl rfl (load_agg (cs := [.string ((rd_T25 l0 x8957).f1), .string ((rd_T25 l0 x8957).f0), .int .i64 0]) Try.underlying25 rfl (by kernel_rfl) (bx_cells (l := ([.string ((rd_T25 l0 x8957).f1), .string ((rd_T25 l0 x8957).f0), .int .i64 0])) (HX8999).2 0 rfl))) ?_
              simp only [ls0, ls1]
              refine ev_run (w1 := w8998.alloc (.cells #[.string ((rd_T25 l0 x8957).f1), .string ((rd_T25 l0 x8957).f0), .int .i64 0] 25)) (.slice (some ⟨w8998.heap.size, 0, none⟩) 1 1) rfl rfl (by first | (go_simp; done) | (go_simp; rfl)) ?_
              (try simp only [Act.put, List.setIfInBounds_toArray, ls0, ls1])
              by_cases c9001 : x8951.length < 3518437208883
              · rw [if_pos c9001] at H
                obtain ⟨y9002, A9003, H⟩ := Option.bind_eq_some_iff.mp H
                (try dsimp only at H)
                refine Own.append k25 (C := C8979) (i := 11) rfl (.tmp 40) (.tmp 42) 22 25 (.agg #[(.string ⟨#[]⟩), (.string ⟨#[]⟩), (.int .i64 0)]) 40 rfl Try.underlying22 info25 rfl (by decide) (by decide) (.slice A8952 x8951.length cp8954) x8951 (⟨(rd_T25 l0 x8957).f1, (rd_T25 l0 x8957).f0, 0⟩ : S25) [.string ((rd_T25 l0 x8957).f1), .string ((rd_T25 l0 x8957).f0), .int .i64 0] rfl rfl (k25_mkF _ _ (⟨(rd_T25 l0 x8957).f1, (rd_T25 l0 x8957).f0, 0⟩ : S25)) HJ8956 (by decide) (by omega) (Option.some.inj A9003) ?_
                intro A9004 cp9005 w9006 C9007 HO9008 HC9009 hs9010
                replace HJ8950 := HJ8950.thru hs9010 rfl
                replace HX8999 := HX8999.thru hs9010 rfl
                replace HS8962 := HS8962.trans hs9010 hc rfl
                (try simp only [Act.put, List.setIfInBounds_toArray, ls0, ls1])
                refine st (.slice A9004 y9002.length cp9005) rfl rfl (xr_assign (.slice A9004 y9002.length cp9005) rfl rfl) ?_
                simp only [ls0, ls1]
                refine wl_end ?_
                (try simp only [Act.put, List.setIfInBounds_toArray, ls0, ls1])
                refine hK8971 _ _ ?_
                (try clear hK8971 K8971)
                refine wl_region ?_
                refine st (.int .i64 x8957) rfl rfl (xr_move (.int .i64 x8957) rfl rfl) ?_
                simp only [ls0, ls1]
                refine st (.int .i64 (wrap64 (x8957 + 1))) rfl rfl (xr_bin (.int .i64 x8957) (.int .i64 1) (.int .i64 (wrap64 (x8957 + 1))) rfl rfl rfl (B.add_i64 x8957 1)) ?_
                simp only [ls0, ls1]
                refine st (.int .i64 (wrap64 (x8957 + 1))) rfl rfl (xr_assign (.int .i64 (wrap64 (x8957 + 1))) rfl rfl) ?_
                simp only [ls0, ls1]
                refine wl_end ?_
                (try simp only [Act.put, List.setIfInBounds_toArray, ls0, ls1])
                exact ih8964 k8967 (by omega) _ _ ⟨_, wrap64 (x8957 + 1), A9004, y9002.length, cp9005, y9002, (fun q_ => List.getD [undef, (g8958 1), (g8958 2), undef, undef, .pointer (some ⟨g8977, 0, none⟩), (g8958 6), (g8958 7), (g8958 8), (g8958 9), (g8958 10), (g8958 11), (g8958 12), (g8958 13), (g8958 14), (g8958 15), (g8958 16), (g8958 17), (g8958 18), (g8958 19), (g8958 20), (g8958 21), .int .i64 x8957, .slice A0 l0.length c0, .int .i64 (l0.length : Int), .bool true, .int .i64 x8957, .int .i64 (wrap64 (x8957 + 1)), .slice A0 l0.length c0, .int .i64 x8957, .pointer (some (ad8974.add ((x8957 : Int).toNat * 3))), .agg #[.string ((rd_T25 l0 x8957).f0), .string ((rd_T25 l0 x8957).f1), .int .i64 ((rd_T25 l0 x8957).f2)], .pointer (some ⟨g8977, 1, none⟩), .string ((rd_T25 l0 x8957).f1), .bool true, .pointer (some ⟨g8977, 1, none⟩), .string ((rd_T25 l0 x8957).f1), .pointer (some ⟨g8977, 0, none⟩), .string ((rd_T25 l0 x8957).f0), .agg #[.string ((rd_T25 l0 x8957).f1), .string ((rd_T25 l0 x8957).f0), .int .i64 0], .slice A8952 x8951.length cp8954, .agg #[.string ((rd_T25 l0 x8957).f1), .string ((rd_T25 l0 x8957).f0), .int .i64 0], .slice (some ⟨w8998.heap.size, 0, none⟩) 1 1, .slice A9004 y9002.length cp9005, (g8958 44), (g8958 45), (g8958 46), (g8958 47), (g8958 48), (g8958 49), (g8958 50), (g8958 51), (g8958 52), (g8958 53), (g8958 54), (g8958 55), (g8958 56), (g8958 57), (g8958 58), (g8958 59), (g8958 60), (g8958 61), (g8958 62), (g8958 63), (g8958 64), (g8958 65), (g8958 66), (g8958 67), (g8958 68), (g8958 69), (g8958 70), (g8958 71), (g8958 72), (g8958 73), (g8958 74), (g8958 75), (g8958 76), (g8958 77), (g8958 78), (g8958 79), (g8958 80), (g8958 81), (g8958 82), (g8958 83), (g8958 84), (g8958 85), (g8958 86), (g8958 87), (g8958 88), (g8958 89), (g8958 90), (g8958 91), (g8958 92), (g8958 93), (g8958 94), (g8958 95), (g8958 96), (g8958 97), (g8958 98), (g8958 99), (g8958 100), (g8958 101), (g8958 102), (g8958 103), (g8958 104), (g8958 105), (g8958 106), (g8958 107), (g8958 108), (g8958 109), (g8958 110), (g8958 111), (g8958 112), (g8958 113), (g8958 114), (g8958 115), (g8958 116), (g8958 117), (g8958 118), (g8958 119), (g8958 120), (g8958 121), (g8958 122), (g8958 123), (g8958 124), (g8958 125), (g8958 126), (g8958 127), (g8958 128), (g8958 129), (g8958 130), (g8958 131), (g8958 132), (g8958 133), (g8958 134)] q_ undef), rfl, HS8962, (by omega), HJ8950, HO9008, HC9009, H⟩
              · rw [if_neg c9001] at H
                exact absurd H (by simp)
          · rw [if_neg c8973] at H
            exact absurd H (by simp)
        · rw [if_neg c8970] at H
          (try rw [(decide_eq_false c8970)])
          (try simp only [Bool.not_true, Bool.not_false])
          refine wp_cond_false rfl ?_
          refine wp_exit ?_
          (try simp only [Act.put, List.setIfInBounds_toArray, ls0, ls1])
          refine hK8696 _ _ ?_
          (try clear hK8696 K8696)
          refine wp_seq_k fun K9011 hK9011 => ?_
          refine wl_region ?_
          refine st (.slice A0 l0.length c0) rfl rfl (xr_move (.slice A0 l0.length c0) rfl rfl) ?_
          simp only [ls0, ls1]
          obtain ⟨⟨t9012, t9013, t9014⟩, A9015, H⟩ := Option.bind_eq_some_iff.mp H
          (try dsimp only at H)
          refine st_call #[.slice A0 l0.length c0] rfl rfl Try.func8 (by kernel_rfl) rfl rfl (by simp only [List.map_toArray, List.map_cons, List.map_nil]; first | done | rfl) ?_
          refine (order_New.calls k8967 A0 c0 l0 t9012 t9013 t9014  (fun z_ => pal [(0, 0)] (C8959 z_)) w8960 (fun _ => pal_lt rfl _) (Ft.arg HJ8950 rfl) HCP0 A9015).mono ?_
          rintro _ w9017 ⟨C9018, v9020, rfl, hs9019, HB9021⟩
          refine ⟨_, rfl, ?_⟩
          replace HB9021 := Ft.res (U := [(0, 0)]) HB9021 hs9019 [0] rfl rfl rfl
          replace hs9019 := Step.lift (U := [(0, 0)]) hs9019 [] rfl rfl
          generalize up C8959 C9018 w8960.heap.size [(0, 0)] = C9018_ at HB9021 hs9019
          replace HJ8950 := HJ8950.thru hs9019 rfl
          replace HJ8956 := HJ8956.thru hs9019 rfl
          replace HS8962 := HS8962.trans hs9019 hc rfl
          (try simp only [Act.put, List.setIfInBounds_toArray, ls0, ls1])
          refine st (.tuple #[v9020, .int .i64 t9013, .int .i64 t9014]) rfl rfl (xr_move (.tuple #[v9020, .int .i64 t9013, .int .i64 t9014]) rfl rfl) ?_
          simp only [ls0, ls1]
          refine st (v9020) rfl rfl (xr_extract (.tuple #[v9020, .int .i64 t9013, .int .i64 t9014]) (v9020) rfl rfl rfl) ?_
          simp only [ls0, ls1]
          refine st (.int .i64 t9013) rfl rfl (xr_extract (.tuple #[v9020, .int .i64 t9013, .int .i64 t9014]) (.int .i64 t9013) rfl rfl rfl) ?_
          simp only [ls0, ls1]
          refine st (.int .i64 t9014) rfl rfl (xr_extract (.tuple #[v9020, .int .i64 t9013, .int .i64 t9014]) (.int .i64 t9014) rfl rfl rfl) ?_
          simp only [ls0, ls1]
          refine st (v9020) rfl rfl (xr_assign (v9020) rfl rfl) ?_
          simp only [ls0, ls1]
          refine st (.int .i64 t9013) rfl rfl (xr_assign (.int .i64 t9013) rfl rfl) ?_
          simp only [ls0, ls1]
          refine st (.int .i64 t9014) rfl rfl (xr_assign (.int .i64 t9014) rfl rfl) ?_
          simp only [ls0, ls1]
          refine wl_end ?_
          (try simp only [Act.put, List.setIfInBounds_toArray, ls0, ls1])
          refine hK9011 _ _ ?_
          (try clear hK9011 K9011)
          refine wp_seq_k fun K9022 hK9022 => ?_
          refine wl_region ?_
          refine st (.slice A8952 x8951.length cp8954) rfl rfl (xr_move (.slice A8952 x8951.length cp8954) rfl rfl) ?_
          simp only [ls0, ls1]
          replace HJ8950 := Ft.recol (a := 11) (b := 0) HJ8950 (.inl rfl)
          have HR9023 := Ft.recolor (a := 11) (b := 0) (HJ8956.ft) [0] rfl
          replace HB9021 := Ft.recol (a := 11) (b := 0) HB9021 (.inl rfl)
          replace HS8962 := Step.recol (a := 11) (b := 0) HS8962 hc (by decide)
          obtain ⟨⟨t9024, t9025, t9026⟩, A9027, H⟩ := Option.bind_eq_some_iff.mp H
          (try dsimp only at H)
          refine st_call #[.slice A8952 x8951.length cp8954] rfl rfl Try.func8 (by kernel_rfl) rfl rfl (by simp only [List.map_toArray, List.map_cons, List.map_nil]; first | done | rfl) ?_
          refine (order_New.calls k8967 A8952 cp8954 x8951 t9024 t9025 t9026  (fun z_ => pal [(0, 0)] ((recol C9018_ 11 0) z_)) w9017 (fun _ => pal_lt rfl _) (Ft.arg HR9023 rfl) HC8955 A9027).mono ?_
          rintro _ w9029 ⟨C9030, v9032, rfl, hs9031, HB9033⟩
          refine ⟨_, rfl, ?_⟩
          replace HB9033 := Ft.res (U := [(0, 0)]) HB9033 hs9031 [0] rfl rfl rfl
          replace hs9031 := Step.lift (U := [(0, 0)]) hs9031 [] rfl rfl
          generalize up (recol C9018_ 11 0) C9030 w9017.heap.size [(0, 0)] = C9030_ at HB9033 hs9031
          replace HJ8950 := HJ8950.thru hs9031 rfl
          replace HB9021 := HB9021.thru hs9031 rfl
          replace HS8962 := HS8962.trans hs9031 hc rfl
          (try simp only [Act.put, List.setIfInBounds_toArray, ls0, ls1])
          refine st (.tuple #[v9032, .int .i64 t9025, .int .i64 t9026]) rfl rfl (xr_move (.tuple #[v9032, .int .i64 t9025, .int .i64 t9026]) rfl rfl) ?_
          simp only [ls0, ls1]
          refine st (v9032) rfl rfl (xr_extract (.tuple #[v9032, .int .i64 t9025, .int .i64 t9026]) (v9032) rfl rfl rfl) ?_
          simp only [ls0, ls1]
          refine st (.int .i64 t9025) rfl rfl (xr_extract (.tuple #[v9032, .int .i64 t9025, .int .i64 t9026]) (.int .i64 t9025) rfl rfl rfl) ?_
          simp only [ls0, ls1]
          refine st (.int .i64 t9026) rfl rfl (xr_extract (.tuple #[v9032, .int .i64 t9025, .int .i64 t9026]) (.int .i64 t9026) rfl rfl rfl) ?_
          simp only [ls0, ls1]
          refine st (v9032) rfl rfl (xr_assign (v9032) rfl rfl) ?_
          simp only [ls0, ls1]
          refine st (.int .i64 t9025) rfl rfl (xr_assign (.int .i64 t9025) rfl rfl) ?_
          simp only [ls0, ls1]
          refine st (.int .i64 t9026) rfl rfl (xr_assign (.int .i64 t9026) rfl rfl) ?_
          simp only [ls0, ls1]
          refine wl_end ?_
          (try simp only [Act.put, List.setIfInBounds_toArray, ls0, ls1])
          refine hK9022 _ _ ?_
          (try clear hK9022 K9022)
          refine wp_seq_k fun K9034 hK9034 => ?_
          refine wp_seq_k fun K9035 hK9035 => ?_
          refine wl_region ?_
          refine st (.int .i64 t9014) rfl rfl (xr_move (.int .i64 t9014) rfl rfl) ?_
          simp only [ls0, ls1]
          refine st (.bool (decide (t9014 = 0))) rfl rfl (xr_bin (.int .i64 t9014) (.int .i64 0) (.bool (decide (t9014 = 0))) rfl rfl rfl (B.eql_i64 t9014 0)) ?_
          simp only [ls0, ls1]
          refine st (.int .i64 t9026) rfl rfl (xr_move (.int .i64 t9026) rfl rfl) ?_
          simp only [ls0, ls1]
          refine st (.bool (decide (t9026 = 0))) rfl rfl (xr_bin (.int .i64 t9026) (.int .i64 0) (.bool (decide (t9026 = 0))) rfl rfl rfl (B.eql_i64 t9026 0)) ?_
          simp only [ls0, ls1]
          refine st (.bool (!decide ((decide (t9014 = 0)) = (decide (t9026 = 0))))) rfl rfl (xr_bin (.bool (decide (t9014 = 0))) (.bool (decide (t9026 = 0))) (.bool (!decide ((decide (t9014 = 0)) = (decide (t9026 = 0))))) rfl rfl rfl (B.neq_bool Try.underlying4 (decide (t9014 = 0)) (decide (t9026 = 0)))) ?_
          simp only [ls0, ls1]
          refine wl_end ?_
          (try simp only [Act.put, List.setIfInBounds_toArray, ls0, ls1])
          refine hK9035 _ _ ?_
          (try clear hK9035 K9035)
          by_cases c9036 : (decide (t9014 = 0)) = (decide (t9026 = 0))
          · rw [if_pos c9036] at H
            (try rw [(decide_eq_true c9036)])
            (try simp only [Bool.not_true, Bool.not_false])
            refine wp_cond_false rfl ?_
            refine wp_skip ?_
            (try simp only [Act.put, List.setIfInBounds_toArray, ls0, ls1])
            refine hK9034 _ _ ?_
            (try clear hK9034 K9034)
            refine wp_seq_k fun K9037 hK9037 => ?_
            refine wp_seq_k fun K9038 hK9038 => ?_
            refine wl_region ?_
            refine st (.int .i64 t9014) rfl rfl (xr_move (.int .i64 t9014) rfl rfl) ?_
            simp only [ls0, ls1]
            refine st (.bool (!decide (t9014 = 0))) rfl rfl (xr_bin (.int .i64 t9014) (.int .i64 0) (.bool (!decide (t9014 = 0))) rfl rfl rfl (B.neq_i64 t9014 0)) ?_
            simp only [ls0, ls1]
            refine wl_end ?_
            (try simp only [Act.put, List.setIfInBounds_toArray, ls0, ls1])
            refine hK9038 _ _ ?_
            (try clear hK9038 K9038)
            by_cases c9039 : t9014 = 0
            · rw [if_pos c9039] at H
              (try rw [(decide_eq_true c9039)])
              (try simp only [Bool.not_true, Bool.not_false])
              refine wp_cond_false rfl ?_
              refine wp_skip ?_
              (try simp only [Act.put, List.setIfInBounds_toArray, ls0, ls1])
              refine hK9037 _ _ ?_
              (try clear hK9037 K9037)
              refine wp_seq_k fun K9040 hK9040 => ?_
              refine wp_seq_k fun K9667 hK9667 => ?_
              refine wl_region ?_
              refine st (.int .i64 0) rfl rfl (xr_assign (.int .i64 0) rfl rfl) ?_
              simp only [ls0, ls1]
              refine wl_end ?_
              (try simp only [Act.put, List.setIfInBounds_toArray, ls0, ls1])
              refine hK9667 _ _ ?_
              (try clear hK9667 K9667)
              refine wp_block ?_
              (try simp only [Act.put, List.setIfInBounds_toArray, ls0, ls1])
              refine wp_looped (looped_ind (fun kq10097 a_ w10096 => ∃ (C10095 : Nat → Nat) (x10093 : Int) (v10088 : Value) (x10087 : Option S47) (v10091 : Value) (x10090 : Option S47) (g10094 : Nat → Value), a_ = ⟨#[(g10094 0), (g10094 1), (g10094 2), (g10094 3), (g10094 4), (g10094 5), v10088, (g10094 7), (g10094 8), v10091, (g10094 10), (g10094 11), (g10094 12), .int .i64 x10093, (g10094 14), (g10094 15), (g10094 16), (g10094 17), (g10094 18), (g10094 19), (g10094 20), (g10094 21), (g10094 22), (g10094 23), (g10094 24), (g10094 25), (g10094 26), (g10094 27), (g10094 28), (g10094 29), (g10094 30), (g10094 31), (g10094 32), (g10094 33), (g10094 34), (g10094 35), (g10094 36), (g10094 37), (g10094 38), (g10094 39), (g10094 40), (g10094 41), (g10094 42), (g10094 43), (g10094 44), (g10094 45), (g10094 46), (g10094 47), (g10094 48), (g10094 49), (g10094 50), (g10094 51), (g10094 52), (g10094 53), (g10094 54), (g10094 55), (g10094 56), (g10094 57), (g10094 58), (g10094 59), (g10094 60), (g10094 61), (g10094 62), (g10094 63), (g10094 64), (g10094 65), (g10094 66), (g10094 67), (g10094 68), (g10094 69), (g10094 70), (g10094 71), (g10094 72), (g10094 73), (g10094 74), (g10094 75), (g10094 76), (g10094 77), (g10094 78), (g10094 79), (g10094 80), (g10094 81), (g10094 82), (g10094 83), (g10094 84), (g10094 85), (g10094 86), (g10094 87), (g10094 88), (g10094 89), (g10094 90), (g10094 91), (g10094 92), (g10094 93), (g10094 94), (g10094 95), (g10094 96), (g10094 97), (g10094 98), (g10094 99), (g10094 100), (g10094 101), (g10094 102), (g10094 103), (g10094 104), (g10094 105), (g10094 106), (g10094 107), (g10094 108), (g10094 109), (g10094 110), (g10094 111), (g10094 112), (g10094 113), (g10094 114), (g10094 115), (g10094 116), (g10094 117), (g10094 118), (g10094 119), (g10094 120), (g10094 121), (g10094 122), (g10094 123), (g10094 124), (g10094 125), (g10094 126), (g10094 127), (g10094 128), (g10094 129), (g10094 130), (g10094 131), (g10094 132), (g10094 133), (g10094 134)], []⟩ ∧ Step c w C10095 w10096 [] ∧ kq10097 ≤ k8967 ∧ (Ft C10095 [0] w10096 (fun w_ => (Kd.ptr 47 k47).K w_ x10087 [v10088])) ∧ (Ft C10095 [0] w10096 (fun w_ => (Kd.ptr 47 k47).K w_ x10090 [v10091])) ∧ blazonlaw13_OrderTurned.l1 kq10097 x10087 x10090 x10093 = some r) ?step k8967 _ _ ?init)
              case init =>
                exact ⟨_, 0, v9020, t9012, v9032, t9024, (fun q_ => List.getD [.slice A0 l0.length c0, (g8958 1), (g8958 2), .slice A8952 x8951.length cp8954, .int .i64 x8957, (g8958 5), undef, .int .i64 t9013, .int .i64 t9014, undef, .int .i64 t9025, .int .i64 t9026, (g8958 12), undef, (g8958 14), (g8958 15), (g8958 16), (g8958 17), (g8958 18), (g8958 19), (g8958 20), (g8958 21), .int .i64 x8957, .slice A0 l0.length c0, .int .i64 (l0.length : Int), .bool false, (g8958 26), (g8958 27), (g8958 28), (g8958 29), (g8958 30), (g8958 31), (g8958 32), (g8958 33), (g8958 34), (g8958 35), (g8958 36), (g8958 37), (g8958 38), (g8958 39), (g8958 40), (g8958 41), (g8958 42), (g8958 43), .tuple #[v9020, .int .i64 t9013, .int .i64 t9014], .slice A0 l0.length c0, .tuple #[v9020, .int .i64 t9013, .int .i64 t9014], v9020, .int .i64 t9013, .int .i64 t9014, .tuple #[v9032, .int .i64 t9025, .int .i64 t9026], .slice A8952 x8951.length cp8954, .tuple #[v9032, .int .i64 t9025, .int .i64 t9026], v9032, .int .i64 t9025, .int .i64 t9026, .int .i64 t9014, .bool true, .int .i64 t9026, .bool (decide (t9026 = 0)), .bool false, (g8958 61), (g8958 62), (g8958 63), (g8958 64), (g8958 65), (g8958 66), (g8958 67), (g8958 68), (g8958 69), (g8958 70), (g8958 71), (g8958 72), (g8958 73), .int .i64 t9014, .bool false, (g8958 76), (g8958 77), (g8958 78), (g8958 79), (g8958 80), (g8958 81), (g8958 82), (g8958 83), (g8958 84), (g8958 85), (g8958 86), (g8958 87), (g8958 88), (g8958 89), (g8958 90), (g8958 91), (g8958 92), (g8958 93), (g8958 94), (g8958 95), (g8958 96), (g8958 97), (g8958 98), (g8958 99), (g8958 100), (g8958 101), (g8958 102), (g8958 103), (g8958 104), (g8958 105), (g8958 106), (g8958 107), (g8958 108), (g8958 109), (g8958 110), (g8958 111), (g8958 112), (g8958 113), (g8958 114), (g8958 115), (g8958 116), (g8958 117), (g8958 118), (g8958 119), (g8958 120), (g8958 121), (g8958 122), (g8958 123), (g8958 124), (g8958 125), (g8958 126), (g8958 127), (g8958 128), (g8958 129), (g8958 130), (g8958 131), (g8958 132), (g8958 133), (g8958 134)] q_ undef), rfl, HS8962, Nat.le_refl _, HB9021, HB9033, H⟩
              case step =>
                intro kq10097 ih10100 a10101 w10096 hr10102
                obtain ⟨C10095, x10093, v10088, x10087, v10091, x10090, g10094, rfl, HS10098, hk10099, HJ10089, HJ10092, H⟩ := hr10102
                refine looped_round ?_
                cases kq10097 with
                | zero => exact absurd H (by simp [blazonlaw13_OrderTurned.l1])
                | succ k10103 =>
                  simp only [blazonlaw13_OrderTurned.l1] at H
                  refine wp_seq_k fun K10104 hK10104 => ?_
                  refine wp_seq_k fun K10105 hK10105 => ?_
                  refine wl_region ?_
                  refine st (.int .i64 x10093) rfl rfl (xr_move (.int .i64 x10093) rfl rfl) ?_
                  simp only [ls0, ls1]
                  refine st (v10088) rfl rfl (xr_move (v10088) rfl rfl) ?_
                  simp only [ls0, ls1]
                  obtain ⟨t10106, A10107, H⟩ := Option.bind_eq_some_iff.mp H
                  (try dsimp only at H)
                  refine st_call #[v10088] rfl rfl Try.func10 (by kernel_rfl) rfl rfl (by simp only [List.map_toArray, List.map_cons, List.map_nil]; first | done | rfl) ?_
                  refine (order_Order_Len.calls v10088 x10087 t10106  (fun z_ => pal [(0, 0)] (C10095 z_)) w10096 (fun _ => pal_lt rfl _) (Ft.arg HJ10089 rfl) A10107).mono ?_
                  rintro _ w10109 ⟨C10110, rfl, hs10111⟩
                  refine ⟨_, rfl, ?_⟩
                  replace hs10111 := Step.lift (U := [(0, 0)]) hs10111 [] rfl rfl
                  generalize up C10095 C10110 w10096.heap.size [(0, 0)] = C10110_ at hs10111
                  replace HJ10089 := HJ10089.thru hs10111 rfl
                  replace HJ10092 := HJ10092.thru hs10111 rfl
                  replace HS10098 := HS10098.trans hs10111 hc rfl
                  (try simp only [Act.put, List.setIfInBounds_toArray, ls0, ls1])
                  refine st (.bool (decide (x10093 < t10106))) rfl rfl (xr_bin (.int .i64 x10093) (.int .i64 t10106) (.bool (decide (x10093 < t10106))) rfl rfl rfl (B.lss_i64 x10093 t10106)) ?_
                  simp only [ls0, ls1]
                  refine wl_end ?_
                  (try simp only [Act.put, List.setIfInBounds_toArray, ls0, ls1])
                  refine hK10105 _ _ ?_
                  (try clear hK10105 K10105)
                  by_cases c10112 : x10093 < t10106
                  · rw [if_pos c10112] at H
                    (try rw [(decide_eq_true c10112)])
                    (try simp only [Bool.not_true, Bool.not_false])
                    refine wp_cond_true rfl ?_
                    refine wp_skip ?_
                    (try simp only [Act.put, List.setIfInBounds_toArray, ls0, ls1])
                    refine hK10104 _ _ ?_
                    (try clear hK10104 K10104)
                    refine wp_seq_k fun K10113 hK10113 => ?_
                    refine wp_block ?_
                    refine wp_seq_k fun K10114 hK10114 => ?_
                    refine wl_region ?_
                    refine st (.int .i64 0) rfl rfl (xr_assign (.int .i64 0) rfl rfl) ?_
                    simp only [ls0, ls1]
                    refine wl_end ?_
                    (try simp only [Act.put, List.setIfInBounds_toArray, ls0, ls1])
                    refine hK10114 _ _ ?_
                    (try clear hK10114 K10114)
                    refine wp_block ?_
                    (try simp only [Act.put, List.setIfInBounds_toArray, ls0, ls1])
                    refine wp_looped (looped_ind (fun kq10233 a_ w10232 => ∃ (C10231 : Nat → Nat) (x10229 : Int) (g10230 : Nat → Value), a_ = ⟨#[(g10230 0), (g10230 1), (g10230 2), (g10230 3), (g10230 4), (g10230 5), v10088, (g10230 7), (g10230 8), v10091, (g10230 10), (g10230 11), (g10230 12), .int .i64 x10093, .int .i64 x10229, (g10230 15), (g10230 16), (g10230 17), (g10230 18), (g10230 19), (g10230 20), (g10230 21), (g10230 22), (g10230 23), (g10230 24), (g10230 25), (g10230 26), (g10230 27), (g10230 28), (g10230 29), (g10230 30), (g10230 31), (g10230 32), (g10230 33), (g10230 34), (g10230 35), (g10230 36), (g10230 37), (g10230 38), (g10230 39), (g10230 40), (g10230 41), (g10230 42), (g10230 43), (g10230 44), (g10230 45), (g10230 46), (g10230 47), (g10230 48), (g10230 49), (g10230 50), (g10230 51), (g10230 52), (g10230 53), (g10230 54), (g10230 55), (g10230 56), (g10230 57), (g10230 58), (g10230 59), (g10230 60), (g10230 61), (g10230 62), (g10230 63), (g10230 64), (g10230 65), (g10230 66), (g10230 67), (g10230 68), (g10230 69), (g10230 70), (g10230 71), (g10230 72), (g10230 73), (g10230 74), (g10230 75), (g10230 76), (g10230 77), (g10230 78), (g10230 79), (g10230 80), (g10230 81), (g10230 82), (g10230 83), (g10230 84), (g10230 85), (g10230 86), (g10230 87), (g10230 88), (g10230 89), (g10230 90), (g10230 91), (g10230 92), (g10230 93), (g10230 94), (g10230 95), (g10230 96), (g10230 97), (g10230 98), (g10230 99), (g10230 100), (g10230 101), (g10230 102), (g10230 103), (g10230 104), (g10230 105), (g10230 106), (g10230 107), (g10230 108), (g10230 109), (g10230 110), (g10230 111), (g10230 112), (g10230 113), (g10230 114), (g10230 115), (g10230 116), (g10230 117), (g10230 118), (g10230 119), (g10230 120), (g10230 121), (g10230 122), (g10230 123), (g10230 124), (g10230 125), (g10230 126), (g10230 127), (g10230 128), (g10230 129), (g10230 130), (g10230 131), (g10230 132), (g10230 133), (g10230 134)], []⟩ ∧ Step c w C10231 w10232 [] ∧ kq10233 ≤ k10103 ∧ (Ft C10231 [0] w10232 (fun w_ => (Kd.ptr 47 k47).K w_ x10087 [v10088])) ∧ (Ft C10231 [0] w10232 (fun w_ => (Kd.ptr 47 k47).K w_ x10090 [v10091])) ∧ blazonlaw13_OrderTurned.l0 kq10233 x10087 x10090 x10093 x10229 = some r) ?step k10103 _ _ ?init)
                    case init =>
                      exact ⟨_, 0, (fun q_ => List.getD [(g10094 0), (g10094 1), (g10094 2), (g10094 3), (g10094 4), (g10094 5), undef, (g10094 7), (g10094 8), undef, (g10094 10), (g10094 11), (g10094 12), undef, undef, (g10094 15), (g10094 16), (g10094 17), (g10094 18), (g10094 19), (g10094 20), (g10094 21), (g10094 22), (g10094 23), (g10094 24), (g10094 25), (g10094 26), (g10094 27), (g10094 28), (g10094 29), (g10094 30), (g10094 31), (g10094 32), (g10094 33), (g10094 34), (g10094 35), (g10094 36), (g10094 37), (g10094 38), (g10094 39), (g10094 40), (g10094 41), (g10094 42), (g10094 43), (g10094 44), (g10094 45), (g10094 46), (g10094 47), (g10094 48), (g10094 49), (g10094 50), (g10094 51), (g10094 52), (g10094 53), (g10094 54), (g10094 55), (g10094 56), (g10094 57), (g10094 58), (g10094 59), (g10094 60), (g10094 61), (g10094 62), (g10094 63), (g10094 64), (g10094 65), (g10094 66), (g10094 67), (g10094 68), (g10094 69), (g10094 70), (g10094 71), (g10094 72), (g10094 73), (g10094 74), (g10094 75), (g10094 76), (g10094 77), (g10094 78), (g10094 79), (g10094 80), (g10094 81), (g10094 82), (g10094 83), (g10094 84), (g10094 85), (g10094 86), (g10094 87), (g10094 88), (g10094 89), .int .i64 x10093, v10088, .int .i64 t10106, .bool true, (g10094 94), (g10094 95), (g10094 96), (g10094 97), (g10094 98), (g10094 99), (g10094 100), (g10094 101), (g10094 102), (g10094 103), (g10094 104), (g10094 105), (g10094 106), (g10094 107), (g10094 108), (g10094 109), (g10094 110), (g10094 111), (g10094 112), (g10094 113), (g10094 114), (g10094 115), (g10094 116), (g10094 117), (g10094 118), (g10094 119), (g10094 120), (g10094 121), (g10094 122), (g10094 123), (g10094 124), (g10094 125), (g10094 126), (g10094 127), (g10094 128), (g10094 129), (g10094 130), (g10094 131), (g10094 132), (g10094 133), (g10094 134)] q_ undef), rfl, HS10098, Nat.le_refl _, HJ10089, HJ10092, H⟩
                    case step =>
                      intro kq10233 ih10236 a10237 w10232 hr10238
                      obtain ⟨C10231, x10229, g10230, rfl, HS10234, hk10235, HJ10227, HJ10228, H⟩ := hr10238
                      refine looped_round ?_
                      cases kq10233 with
                      | zero => exact absurd H (by simp [blazonlaw13_OrderTurned.l0])
                      | succ k10239 =>
                        simp only [blazonlaw13_OrderTurned.l0] at H
                        refine wp_seq_k fun K10240 hK10240 => ?_
                        refine wp_seq_k fun K10241 hK10241 => ?_
                        refine wl_region ?_
                        refine st (.int .i64 x10229) rfl rfl (xr_move (.int .i64 x10229) rfl rfl) ?_
                        simp only [ls0, ls1]
                        refine st (v10088) rfl rfl (xr_move (v10088) rfl rfl) ?_
                        simp only [ls0, ls1]
                        obtain ⟨t10242, A10243, H⟩ := Option.bind_eq_some_iff.mp H
                        (try dsimp only at H)
                        refine st_call #[v10088] rfl rfl Try.func10 (by kernel_rfl) rfl rfl (by simp only [List.map_toArray, List.map_cons, List.map_nil]; first | done | rfl) ?_
                        refine (order_Order_Len.calls v10088 x10087 t10242  (fun z_ => pal [(0, 0)] (C10231 z_)) w10232 (fun _ => pal_lt rfl _) (Ft.arg HJ10227 rfl) A10243).mono ?_
                        rintro _ w10245 ⟨C10246, rfl, hs10247⟩
                        refine ⟨_, rfl, ?_⟩
                        replace hs10247 := Step.lift (U := [(0, 0)]) hs10247 [] rfl rfl
                        generalize up C10231 C10246 w10232.heap.size [(0, 0)] = C10246_ at hs10247
                        replace HJ10227 := HJ10227.thru hs10247 rfl
                        replace HJ10228 := HJ10228.thru hs10247 rfl
                        replace HS10234 := HS10234.trans hs10247 hc rfl
                        (try simp only [Act.put, List.setIfInBounds_toArray, ls0, ls1])
                        refine st (.bool (decide (x10229 < t10242))) rfl rfl (xr_bin (.int .i64 x10229) (.int .i64 t10242) (.bool (decide (x10229 < t10242))) rfl rfl rfl (B.lss_i64 x10229 t10242)) ?_
                        simp only [ls0, ls1]
                        refine wl_end ?_
                        (try simp only [Act.put, List.setIfInBounds_toArray, ls0, ls1])
                        refine hK10241 _ _ ?_
                        (try clear hK10241 K10241)
                        by_cases c10248 : x10229 < t10242
                        · rw [if_pos c10248] at H
                          (try rw [(decide_eq_true c10248)])
                          (try simp only [Bool.not_true, Bool.not_false])
                          refine wp_cond_true rfl ?_
                          refine wp_skip ?_
                          (try simp only [Act.put, List.setIfInBounds_toArray, ls0, ls1])
                          refine hK10240 _ _ ?_
                          (try clear hK10240 K10240)
                          refine wp_seq_k fun K10249 hK10249 => ?_
                          refine wp_block ?_
                          refine wp_seq_k fun K10250 hK10250 => ?_
                          refine wl_region ?_
                          refine st (v10091) rfl rfl (xr_move (v10091) rfl rfl) ?_
                          simp only [ls0, ls1]
                          refine st (v10088) rfl rfl (xr_move (v10088) rfl rfl) ?_
                          simp only [ls0, ls1]
                          refine st (.int .i64 x10093) rfl rfl (xr_move (.int .i64 x10093) rfl rfl) ?_
                          simp only [ls0, ls1]
                          obtain ⟨t10251, A10252, H⟩ := Option.bind_eq_some_iff.mp H
                          (try dsimp only at H)
                          refine st_call #[v10088, .int .i64 x10093] rfl rfl Try.func14 (by kernel_rfl) rfl rfl (by simp only [List.map_toArray, List.map_cons, List.map_nil]; first | done | rfl) ?_
                          refine (order_Order_Name.calls v10088 x10087 x10093 t10251  (fun z_ => pal [(0, 0)] (C10246_ z_)) w10245 (fun _ => pal_lt rfl _) (Ft.arg HJ10227 rfl) A10252).mono ?_
                          rintro _ w10254 ⟨C10255, rfl, hs10256⟩
                          refine ⟨_, rfl, ?_⟩
                          replace hs10256 := Step.lift (U := [(0, 0)]) hs10256 [] rfl rfl
                          generalize up C10246_ C10255 w10245.heap.size [(0, 0)] = C10255_ at hs10256
                          replace HJ10227 := HJ10227.thru hs10256 rfl
                          replace HJ10228 := HJ10228.thru hs10256 rfl
                          replace HS10234 := HS10234.trans hs10256 hc rfl
                          (try simp only [Act.put, List.setIfInBounds_toArray, ls0, ls1])
                          obtain ⟨⟨t10257, t10258⟩, A10259, H⟩ := Option.bind_eq_some_iff.mp H
                          (try dsimp only at H)
                          refine st_call #[v10091, .string t10251] rfl rfl Try.func13 (by kernel_rfl) rfl rfl (by simp only [List.map_toArray, List.map_cons, List.map_nil]; first | done | rfl) ?_
                          refine (order_Order_Find.calls v10091 x10090 t10251 t10257 t10258  (fun z_ => pal [(0, 0)] (C10255_ z_)) w10254 (fun _ => pal_lt rfl _) (Ft.arg HJ10228 rfl) A10259).mono ?_
                          rintro _ w10261 ⟨C10262, rfl, hs10263⟩
                          refine ⟨_, rfl, ?_⟩
                          replace hs10263 := Step.lift (U := [(0, 0)]) hs10263 [] rfl rfl
                          generalize up C10255_ C10262 w10254.heap.size [(0, 0)] = C10262_ at hs10263
                          replace HJ10227 := HJ10227.thru hs10263 rfl
                          replace HJ10228 := HJ10228.thru hs10263 rfl
                          replace HS10234 := HS10234.trans hs10263 hc rfl
                          (try simp only [Act.put, List.setIfInBounds_toArray, ls0, ls1])
                          refine st (.tuple #[.int .i64 t10257, .bool t10258]) rfl rfl (xr_move (.tuple #[.int .i64 t10257, .bool t10258]) rfl rfl) ?_
                          simp only [ls0, ls1]
                          refine st (.int .i64 t10257) rfl rfl (xr_extract (.tuple #[.int .i64 t10257, .bool t10258]) (.int .i64 t10257) rfl rfl rfl) ?_
                          simp only [ls0, ls1]
                          refine st (.bool t10258) rfl rfl (xr_extract (.tuple #[.int .i64 t10257, .bool t10258]) (.bool t10258) rfl rfl rfl) ?_
                          simp only [ls0, ls1]
                          refine st (.int .i64 t10257) rfl rfl (xr_assign (.int .i64 t10257) rfl rfl) ?_
                          simp only [ls0, ls1]
                          refine st (.bool t10258) rfl rfl (xr_assign (.bool t10258) rfl rfl) ?_
                          simp only [ls0, ls1]
                          refine wl_end ?_
                          (try simp only [Act.put, List.setIfInBounds_toArray, ls0, ls1])
                          refine hK10250 _ _ ?_
                          (try clear hK10250 K10250)
                          refine wp_seq_k fun K10264 hK10264 => ?_
                          refine wl_region ?_
                          refine st (v10091) rfl rfl (xr_move (v10091) rfl rfl) ?_
                          simp only [ls0, ls1]
                          refine st (v10088) rfl rfl (xr_move (v10088) rfl rfl) ?_
                          simp only [ls0, ls1]
                          refine st (.int .i64 x10229) rfl rfl (xr_move (.int .i64 x10229) rfl rfl) ?_
                          simp only [ls0, ls1]
                          obtain ⟨t10265, A10266, H⟩ := Option.bind_eq_some_iff.mp H
                          (try dsimp only at H)
                          refine st_call #[v10088, .int .i64 x10229] rfl rfl Try.func14 (by kernel_rfl) rfl rfl (by simp only [List.map_toArray, List.map_cons, List.map_nil]; first | done | rfl) ?_
                          refine (order_Order_Name.calls v10088 x10087 x10229 t10265  (fun z_ => pal [(0, 0)] (C10262_ z_)) w10261 (fun _ => pal_lt rfl _) (Ft.arg HJ10227 rfl) A10266).mono ?_
                          rintro _ w10268 ⟨C10269, rfl, hs10270⟩
                          refine ⟨_, rfl, ?_⟩
                          replace hs10270 := Step.lift (U := [(0, 0)]) hs10270 [] rfl rfl
                          generalize up C10262_ C10269 w10261.heap.size [(0, 0)] = C10269_ at hs10270
                          replace HJ10227 := HJ10227.thru hs10270 rfl
                          replace HJ10228 := HJ10228.thru hs10270 rfl
                          replace HS10234 := HS10234.trans hs10270 hc rfl
                          (try simp only [Act.put, List.setIfInBounds_toArray, ls0, ls1])
                          obtain ⟨⟨t10271, t10272⟩, A10273, H⟩ := Option.bind_eq_some_iff.mp H
                          (try dsimp only at H)
                          refine st_call #[v10091, .string t10265] rfl rfl Try.func13 (by kernel_rfl) rfl rfl (by simp only [List.map_toArray, List.map_cons, List.map_nil]; first | done | rfl) ?_
                          refine (order_Order_Find.calls v10091 x10090 t10265 t10271 t10272  (fun z_ => pal [(0, 0)] (C10269_ z_)) w10268 (fun _ => pal_lt rfl _) (Ft.arg HJ10228 rfl) A10273).mono ?_
                          rintro _ w10275 ⟨C10276, rfl, hs10277⟩
                          refine ⟨_, rfl, ?_⟩
                          replace hs10277 := Step.lift (U := [(0, 0)]) hs10277 [] rfl rfl
                          generalize up C10269_ C10276 w10268.heap.size [(0, 0)] = C10276_ at hs10277
                          replace HJ10227 := HJ10227.thru hs10277 rfl
                          replace HJ10228 := HJ10228.thru hs10277 rfl
                          replace HS10234 := HS10234.trans hs10277 hc rfl
                          (try simp only [Act.put, List.setIfInBounds_toArray, ls0, ls1])
                          refine st (.tuple #[.int .i64 t10271, .bool t10272]) rfl rfl (xr_move (.tuple #[.int .i64 t10271, .bool t10272]) rfl rfl) ?_
                          simp only [ls0, ls1]
                          refine st (.int .i64 t10271) rfl rfl (xr_extract (.tuple #[.int .i64 t10271, .bool t10272]) (.int .i64 t10271) rfl rfl rfl) ?_
                          simp only [ls0, ls1]
                          refine st (.bool t10272) rfl rfl (xr_extract (.tuple #[.int .i64 t10271, .bool t10272]) (.bool t10272) rfl rfl rfl) ?_
                          simp only [ls0, ls1]
                          refine st (.int .i64 t10271) rfl rfl (xr_assign (.int .i64 t10271) rfl rfl) ?_
                          simp only [ls0, ls1]
                          refine st (.bool t10272) rfl rfl (xr_assign (.bool t10272) rfl rfl) ?_
                          simp only [ls0, ls1]
                          refine wl_end ?_
                          (try simp only [Act.put, List.setIfInBounds_toArray, ls0, ls1])
                          refine hK10264 _ _ ?_
                          (try clear hK10264 K10264)
                          refine wp_seq_k fun K10278 hK10278 => ?_
                          refine wl_region ?_
                          refine st (v10088) rfl rfl (xr_move (v10088) rfl rfl) ?_
                          simp only [ls0, ls1]
                          refine st (.int .i64 x10093) rfl rfl (xr_move (.int .i64 x10093) rfl rfl) ?_
                          simp only [ls0, ls1]
                          refine st (.int .i64 x10229) rfl rfl (xr_move (.int .i64 x10229) rfl rfl) ?_
                          simp only [ls0, ls1]
                          obtain ⟨t10279, A10280, H⟩ := Option.bind_eq_some_iff.mp H
                          (try dsimp only at H)
                          refine st_call #[v10088, .int .i64 x10093, .int .i64 x10229] rfl rfl Try.func11 (by kernel_rfl) rfl rfl (by simp only [List.map_toArray, List.map_cons, List.map_nil]; first | done | rfl) ?_
                          refine (order_Order_Most.calls v10088 x10087 x10093 x10229 t10279  (fun z_ => pal [(0, 0)] (C10276_ z_)) w10275 (fun _ => pal_lt rfl _) (Ft.arg HJ10227 rfl) A10280).mono ?_
                          rintro _ w10282 ⟨C10283, rfl, hs10284⟩
                          refine ⟨_, rfl, ?_⟩
                          replace hs10284 := Step.lift (U := [(0, 0)]) hs10284 [] rfl rfl
                          generalize up C10276_ C10283 w10275.heap.size [(0, 0)] = C10283_ at hs10284
                          replace HJ10227 := HJ10227.thru hs10284 rfl
                          replace HJ10228 := HJ10228.thru hs10284 rfl
                          replace HS10234 := HS10234.trans hs10284 hc rfl
                          (try simp only [Act.put, List.setIfInBounds_toArray, ls0, ls1])
                          refine st (v10091) rfl rfl (xr_move (v10091) rfl rfl) ?_
                          simp only [ls0, ls1]
                          refine st (.int .i64 t10271) rfl rfl (xr_move (.int .i64 t10271) rfl rfl) ?_
                          simp only [ls0, ls1]
                          refine st (.int .i64 t10257) rfl rfl (xr_move (.int .i64 t10257) rfl rfl) ?_
                          simp only [ls0, ls1]
                          obtain ⟨t10285, A10286, H⟩ := Option.bind_eq_some_iff.mp H
                          (try dsimp only at H)
                          refine st_call #[v10091, .int .i64 t10271, .int .i64 t10257] rfl rfl Try.func11 (by kernel_rfl) rfl rfl (by simp only [List.map_toArray, List.map_cons, List.map_nil]; first | done | rfl) ?_
                          refine (order_Order_Most.calls v10091 x10090 t10271 t10257 t10285  (fun z_ => pal [(0, 0)] (C10283_ z_)) w10282 (fun _ => pal_lt rfl _) (Ft.arg HJ10228 rfl) A10286).mono ?_
                          rintro _ w10288 ⟨C10289, rfl, hs10290⟩
                          refine ⟨_, rfl, ?_⟩
                          replace hs10290 := Step.lift (U := [(0, 0)]) hs10290 [] rfl rfl
                          generalize up C10283_ C10289 w10282.heap.size [(0, 0)] = C10289_ at hs10290
                          replace HJ10227 := HJ10227.thru hs10290 rfl
                          replace HJ10228 := HJ10228.thru hs10290 rfl
                          replace HS10234 := HS10234.trans hs10290 hc rfl
                          (try simp only [Act.put, List.setIfInBounds_toArray, ls0, ls1])
                          refine st (.bool (!decide (t10279 = t10285))) rfl rfl (xr_bin (.bool t10279) (.bool t10285) (.bool (!decide (t10279 = t10285))) rfl rfl rfl (B.neq_bool Try.underlying4 t10279 t10285)) ?_
                          simp only [ls0, ls1]
                          refine wl_end ?_
                          (try simp only [Act.put, List.setIfInBounds_toArray, ls0, ls1])
                          refine hK10278 _ _ ?_
                          (try clear hK10278 K10278)
                          by_cases c10291 : t10279 = t10285
                          · rw [if_pos c10291] at H
                            (try rw [(decide_eq_true c10291)])
                            (try simp only [Bool.not_true, Bool.not_false])
                            refine wp_cond_false rfl ?_
                            refine wp_skip ?_
                            (try simp only [Act.put, List.setIfInBounds_toArray, ls0, ls1])
                            refine hK10249 _ _ ?_
                            (try clear hK10249 K10249)
                            refine wl_region ?_
                            refine st (.int .i64 x10229) rfl rfl (xr_move (.int .i64 x10229) rfl rfl) ?_
                            simp only [ls0, ls1]
                            refine st (.int .i64 (wrap64 (x10229 + 1))) rfl rfl (xr_bin (.int .i64 x10229) (.int .i64 1) (.int .i64 (wrap64 (x10229 + 1))) rfl rfl rfl (B.add_i64 x10229 1)) ?_
                            simp only [ls0, ls1]
                            refine st (.int .i64 (wrap64 (x10229 + 1))) rfl rfl (xr_assign (.int .i64 (wrap64 (x10229 + 1))) rfl rfl) ?_
                            simp only [ls0, ls1]
                            refine wl_end ?_
                            (try simp only [Act.put, List.setIfInBounds_toArray, ls0, ls1])
                            exact ih10236 k10239 (by omega) _ _ ⟨_, wrap64 (x10229 + 1), (fun q_ => List.getD [(g10230 0), (g10230 1), (g10230 2), (g10230 3), (g10230 4), (g10230 5), undef, (g10230 7), (g10230 8), undef, (g10230 10), (g10230 11), (g10230 12), undef, undef, .int .i64 t10257, .bool t10258, .int .i64 t10271, .bool t10272, (g10230 19), (g10230 20), (g10230 21), (g10230 22), (g10230 23), (g10230 24), (g10230 25), (g10230 26), (g10230 27), (g10230 28), (g10230 29), (g10230 30), (g10230 31), (g10230 32), (g10230 33), (g10230 34), (g10230 35), (g10230 36), (g10230 37), (g10230 38), (g10230 39), (g10230 40), (g10230 41), (g10230 42), (g10230 43), (g10230 44), (g10230 45), (g10230 46), (g10230 47), (g10230 48), (g10230 49), (g10230 50), (g10230 51), (g10230 52), (g10230 53), (g10230 54), (g10230 55), (g10230 56), (g10230 57), (g10230 58), (g10230 59), (g10230 60), (g10230 61), (g10230 62), (g10230 63), (g10230 64), (g10230 65), (g10230 66), (g10230 67), (g10230 68), (g10230 69), (g10230 70), (g10230 71), (g10230 72), (g10230 73), (g10230 74), (g10230 75), (g10230 76), (g10230 77), (g10230 78), (g10230 79), (g10230 80), (g10230 81), (g10230 82), (g10230 83), (g10230 84), (g10230 85), (g10230 86), (g10230 87), (g10230 88), (g10230 89), (g10230 90), (g10230 91), (g10230 92), (g10230 93), (g10230 94), (g10230 95), .int .i64 x10229, v10088, .int .i64 t10242, .bool true, .int .i64 x10229, .int .i64 (wrap64 (x10229 + 1)), .tuple #[.int .i64 t10257, .bool t10258], v10091, v10088, .int .i64 x10093, .string t10251, .tuple #[.int .i64 t10257, .bool t10258], .int .i64 t10257, .bool t10258, .tuple #[.int .i64 t10271, .bool t10272], v10091, v10088, .int .i64 x10229, .string t10265, .tuple #[.int .i64 t10271, .bool t10272], .int .i64 t10271, .bool t10272, v10088, .int .i64 x10093, .int .i64 x10229, .bool t10279, v10091, .int .i64 t10271, .int .i64 t10257, .bool t10285, .bool false, (g10230 127), (g10230 128), (g10230 129), (g10230 130), (g10230 131), (g10230 132), (g10230 133), (g10230 134)] q_ undef), rfl, HS10234, (by omega), HJ10227, HJ10228, H⟩
                          · rw [if_neg c10291] at H
                            (try rw [(decide_eq_false c10291)])
                            (try simp only [Bool.not_true, Bool.not_false])
                            refine wp_cond_true rfl ?_
                            refine wp_seq_k fun K10292 hK10292 => ?_
                            refine wl_region ?_
                            refine st (.bool false) rfl rfl (xr_assign (.bool false) rfl rfl) ?_
                            simp only [ls0, ls1]
                            refine wl_end ?_
                            (try simp only [Act.put, List.setIfInBounds_toArray, ls0, ls1])
                            refine hK10292 _ _ ?_
                            (try clear hK10292 K10292)
                            refine wp_ret ?_
                            (try simp only [Exit.inBlock, Exit.then, Exit.noGoto])
                            (try simp only [Act.put, List.setIfInBounds_toArray, ls0, ls1])
                            obtain rfl := Option.some.inj H
                            refine bodyPost_ret (results_tmp rfl _ _ _) rfl ?_
                            exact ⟨_, rfl, HS10234⟩
                        · rw [if_neg c10248] at H
                          (try rw [(decide_eq_false c10248)])
                          (try simp only [Bool.not_true, Bool.not_false])
                          refine wp_cond_false rfl ?_
                          refine wp_exit ?_
                          (try simp only [Act.put, List.setIfInBounds_toArray, ls0, ls1])
                          refine hK10113 _ _ ?_
                          (try clear hK10113 K10113)
                          refine wl_region ?_
                          refine st (.int .i64 x10093) rfl rfl (xr_move (.int .i64 x10093) rfl rfl) ?_
                          simp only [ls0, ls1]
                          refine st (.int .i64 (wrap64 (x10093 + 1))) rfl rfl (xr_bin (.int .i64 x10093) (.int .i64 1) (.int .i64 (wrap64 (x10093 + 1))) rfl rfl rfl (B.add_i64 x10093 1)) ?_
                          simp only [ls0, ls1]
                          refine st (.int .i64 (wrap64 (x10093 + 1))) rfl rfl (xr_assign (.int .i64 (wrap64 (x10093 + 1))) rfl rfl) ?_
                          simp only [ls0, ls1]
                          refine wl_end ?_
                          (try simp only [Act.put, List.setIfInBounds_toArray, ls0, ls1])
                          exact ih10100 k10239 (by omega) _ _ ⟨_, wrap64 (x10093 + 1), v10088, x10087, v10091, x10090, (fun q_ => List.getD [(g10230 0), (g10230 1), (g10230 2), (g10230 3), (g10230 4), (g10230 5), undef, (g10230 7), (g10230 8), undef, (g10230 10), (g10230 11), (g10230 12), undef, .int .i64 x10229, (g10230 15), (g10230 16), (g10230 17), (g10230 18), (g10230 19), (g10230 20), (g10230 21), (g10230 22), (g10230 23), (g10230 24), (g10230 25), (g10230 26), (g10230 27), (g10230 28), (g10230 29), (g10230 30), (g10230 31), (g10230 32), (g10230 33), (g10230 34), (g10230 35), (g10230 36), (g10230 37), (g10230 38), (g10230 39), (g10230 40), (g10230 41), (g10230 42), (g10230 43), (g10230 44), (g10230 45), (g10230 46), (g10230 47), (g10230 48), (g10230 49), (g10230 50), (g10230 51), (g10230 52), (g10230 53), (g10230 54), (g10230 55), (g10230 56), (g10230 57), (g10230 58), (g10230 59), (g10230 60), (g10230 61), (g10230 62), (g10230 63), (g10230 64), (g10230 65), (g10230 66), (g10230 67), (g10230 68), (g10230 69), (g10230 70), (g10230 71), (g10230 72), (g10230 73), (g10230 74), (g10230 75), (g10230 76), (g10230 77), (g10230 78), (g10230 79), (g10230 80), (g10230 81), (g10230 82), (g10230 83), (g10230 84), (g10230 85), (g10230 86), (g10230 87), (g10230 88), (g10230 89), (g10230 90), (g10230 91), (g10230 92), (g10230 93), .int .i64 x10093, .int .i64 (wrap64 (x10093 + 1)), .int .i64 x10229, v10088, .int .i64 t10242, .bool false, (g10230 100), (g10230 101), (g10230 102), (g10230 103), (g10230 104), (g10230 105), (g10230 106), (g10230 107), (g10230 108), (g10230 109), (g10230 110), (g10230 111), (g10230 112), (g10230 113), (g10230 114), (g10230 115), (g10230 116), (g10230 117), (g10230 118), (g10230 119), (g10230 120), (g10230 121), (g10230 122), (g10230 123), (g10230 124), (g10230 125), (g10230 126), (g10230 127), (g10230 128), (g10230 129), (g10230 130), (g10230 131), (g10230 132), (g10230 133), (g10230 134)] q_ undef), rfl, HS10234, (by omega), HJ10227, HJ10228, H⟩
                  · rw [if_neg c10112] at H
                    (try rw [(decide_eq_false c10112)])
                    (try simp only [Bool.not_true, Bool.not_false])
                    refine wp_cond_false rfl ?_
                    refine wp_exit ?_
                    (try simp only [Act.put, List.setIfInBounds_toArray, ls0, ls1])
                    refine hK9040 _ _ ?_
                    (try clear hK9040 K9040)
                    refine wp_seq_k fun K10293 hK10293 => ?_
                    refine wl_region ?_
                    refine st (v10088) rfl rfl (xr_move (v10088) rfl rfl) ?_
                    simp only [ls0, ls1]
                    obtain ⟨t10294, A10295, H⟩ := Option.bind_eq_some_iff.mp H
                    (try dsimp only at H)
                    refine st_call #[v10088] rfl rfl Try.func10 (by kernel_rfl) rfl rfl (by simp only [List.map_toArray, List.map_cons, List.map_nil]; first | done | rfl) ?_
                    refine (order_Order_Len.calls v10088 x10087 t10294  (fun z_ => pal [(0, 0)] (C10110_ z_)) w10109 (fun _ => pal_lt rfl _) (Ft.arg HJ10089 rfl) A10295).mono ?_
                    rintro _ w10297 ⟨C10298, rfl, hs10299⟩
                    refine ⟨_, rfl, ?_⟩
                    replace hs10299 := Step.lift (U := [(0, 0)]) hs10299 [] rfl rfl
                    generalize up C10110_ C10298 w10109.heap.size [(0, 0)] = C10298_ at hs10299
                    replace HJ10092 := HJ10092.thru hs10299 rfl
                    replace HS10098 := HS10098.trans hs10299 hc rfl
                    (try simp only [Act.put, List.setIfInBounds_toArray, ls0, ls1])
                    refine st (v10091) rfl rfl (xr_move (v10091) rfl rfl) ?_
                    simp only [ls0, ls1]
                    obtain ⟨t10300, A10301, H⟩ := Option.bind_eq_some_iff.mp H
                    (try dsimp only at H)
                    refine st_call #[v10091] rfl rfl Try.func10 (by kernel_rfl) rfl rfl (by simp only [List.map_toArray, List.map_cons, List.map_nil]; first | done | rfl) ?_
                    refine (order_Order_Len.calls v10091 x10090 t10300  (fun z_ => pal [(0, 0)] (C10298_ z_)) w10297 (fun _ => pal_lt rfl _) (Ft.arg HJ10092 rfl) A10301).mono ?_
                    rintro _ w10303 ⟨C10304, rfl, hs10305⟩
                    refine ⟨_, rfl, ?_⟩
                    replace hs10305 := Step.lift (U := [(0, 0)]) hs10305 [] rfl rfl
                    generalize up C10298_ C10304 w10297.heap.size [(0, 0)] = C10304_ at hs10305
                    replace HS10098 := HS10098.trans hs10305 hc rfl
                    (try simp only [Act.put, List.setIfInBounds_toArray, ls0, ls1])
                    refine st (.bool (decide (t10294 = t10300))) rfl rfl (xr_bin (.int .i64 t10294) (.int .i64 t10300) (.bool (decide (t10294 = t10300))) rfl rfl rfl (B.eql_i64 t10294 t10300)) ?_
                    simp only [ls0, ls1]
                    refine st (.bool (decide (t10294 = t10300))) rfl rfl (xr_move (.bool (decide (t10294 = t10300))) rfl rfl) ?_
                    simp only [ls0, ls1]
                    by_cases c10306 : t10294 = t10300
                    · rw [if_pos c10306] at H
                      (try rw [(decide_eq_true c10306)])
                      (try simp only [Bool.not_true, Bool.not_false])
                      refine on_guard (guard_on 5 true 132 rfl rfl rfl) ?_
                      obtain ⟨t10307, A10308, H⟩ := Option.bind_eq_some_iff.mp H
                      (try dsimp only at H)
                      refine st_call #[] rfl rfl Try.func9 (by kernel_rfl) rfl rfl (by simp only [List.map_toArray, List.map_cons, List.map_nil]; first | done | rfl) ?_
                      refine (blazonlaw13_awake.calls k10103 t10307  (fun z_ => pal [(0, 0)] (C10304_ z_)) w10303 (fun _ => pal_lt rfl _) A10308).mono ?_
                      rintro _ w10310 ⟨C10311, rfl, hs10312⟩
                      refine ⟨_, rfl, ?_⟩
                      replace hs10312 := Step.lift (U := [(0, 0)]) hs10312 [] rfl rfl
                      generalize up C10304_ C10311 w10303.heap.size [(0, 0)] = C10311_ at hs10312
                      replace HS10098 := HS10098.trans hs10312 hc rfl
                      (try simp only [Act.put, List.setIfInBounds_toArray, ls0, ls1])
                      refine st (.bool t10307) rfl rfl (xr_pick true (.bool t10307) rfl rfl rfl) ?_
                      simp only [ls0, ls1]
                      refine st (.bool t10307) rfl rfl (xr_assign (.bool t10307) rfl rfl) ?_
                      simp only [ls0, ls1]
                      refine wl_end ?_
                      (try simp only [Act.put, List.setIfInBounds_toArray, ls0, ls1])
                      refine hK10293 _ _ ?_
                      (try clear hK10293 K10293)
                      refine wp_ret ?_
                      (try simp only [Exit.inBlock, Exit.then, Exit.noGoto])
                      (try simp only [Act.put, List.setIfInBounds_toArray, ls0, ls1])
                      obtain rfl := Option.some.inj H
                      refine bodyPost_ret (results_tmp rfl _ _ _) rfl ?_
                      exact ⟨_, rfl, HS10098⟩
                    · rw [if_neg c10306] at H
                      (try rw [(decide_eq_false c10306)])
                      (try simp only [Bool.not_true, Bool.not_false])
                      refine sk_guard (guard_off 5 true 132 rfl rfl false (by decide) rfl) rfl ?_
                      simp only [ls0, ls1]
                      refine st (.bool false) rfl rfl (xr_pick false (.bool false) rfl rfl rfl) ?_
                      simp only [ls0, ls1]
                      refine st (.bool false) rfl rfl (xr_assign (.bool false) rfl rfl) ?_
                      simp only [ls0, ls1]
                      refine wl_end ?_
                      (try simp only [Act.put, List.setIfInBounds_toArray, ls0, ls1])
                      refine hK10293 _ _ ?_
                      (try clear hK10293 K10293)
                      refine wp_ret ?_
                      (try simp only [Exit.inBlock, Exit.then, Exit.noGoto])
                      (try simp only [Act.put, List.setIfInBounds_toArray, ls0, ls1])
                      obtain rfl := Option.some.inj H
                      refine bodyPost_ret (results_tmp rfl _ _ _) rfl ?_
                      exact ⟨_, rfl, HS10098⟩
            · rw [if_neg c9039] at H
              (try rw [(decide_eq_false c9039)])
              (try simp only [Bool.not_true, Bool.not_false])
              refine wp_cond_true rfl ?_
              refine wp_seq_k fun K10313 hK10313 => ?_
              refine wl_region ?_
              refine st (.int .i64 t9014) rfl rfl (xr_move (.int .i64 t9014) rfl rfl) ?_
              simp only [ls0, ls1]
              refine st (.bool (!decide (t9014 = 16))) rfl rfl (xr_bin (.int .i64 t9014) (.int .i64 16) (.bool (!decide (t9014 = 16))) rfl rfl rfl (B.neq_i64 t9014 16)) ?_
              simp only [ls0, ls1]
              refine st (.bool (!decide (t9014 = 16))) rfl rfl (xr_move (.bool (!decide (t9014 = 16))) rfl rfl) ?_
              simp only [ls0, ls1]
              by_cases c10314 : t9014 = 16
              · rw [if_pos c10314] at H
                (try rw [(decide_eq_true c10314)])
                (try simp only [Bool.not_true, Bool.not_false])
                refine on_guard (guard_on 2 false 78 rfl rfl rfl) ?_
                refine st (.int .i64 t9026) rfl rfl (xr_move (.int .i64 t9026) rfl rfl) ?_
                simp only [ls0, ls1]
                refine on_guard (guard_on 2 false 78 rfl rfl rfl) ?_
                refine st (.bool (!decide (t9026 = 16))) rfl rfl (xr_bin (.int .i64 t9026) (.int .i64 16) (.bool (!decide (t9026 = 16))) rfl rfl rfl (B.neq_i64 t9026 16)) ?_
                simp only [ls0, ls1]
                refine st (.bool (!decide (t9026 = 16))) rfl rfl (xr_pick false (.bool (!decide (t9026 = 16))) rfl rfl rfl) ?_
                simp only [ls0, ls1]
                refine st (.bool (!decide (t9026 = 16))) rfl rfl (xr_move (.bool (!decide (t9026 = 16))) rfl rfl) ?_
                simp only [ls0, ls1]
                by_cases c10315 : t9026 = 16
                · rw [if_pos c10315] at H
                  (try rw [(decide_eq_true c10315)])
                  (try simp only [Bool.not_true, Bool.not_false])
                  refine on_guard (guard_on 6 false 82 rfl rfl rfl) ?_
                  refine st (.int .i64 t9013) rfl rfl (xr_move (.int .i64 t9013) rfl rfl) ?_
                  simp only [ls0, ls1]
                  refine on_guard (guard_on 6 false 82 rfl rfl rfl) ?_
                  refine st (.int .i64 t9025) rfl rfl (xr_move (.int .i64 t9025) rfl rfl) ?_
                  simp only [ls0, ls1]
                  refine on_guard (guard_on 6 false 82 rfl rfl rfl) ?_
                  refine st (.bool (decide (t9013 = t9025))) rfl rfl (xr_bin (.int .i64 t9013) (.int .i64 t9025) (.bool (decide (t9013 = t9025))) rfl rfl rfl (B.eql_i64 t9013 t9025)) ?_
                  simp only [ls0, ls1]
                  refine st (.bool (decide (t9013 = t9025))) rfl rfl (xr_pick false (.bool (decide (t9013 = t9025))) rfl rfl rfl) ?_
                  simp only [ls0, ls1]
                  refine st (.bool (decide (t9013 = t9025))) rfl rfl (xr_move (.bool (decide (t9013 = t9025))) rfl rfl) ?_
                  simp only [ls0, ls1]
                  by_cases c10316 : t9013 = t9025
                  · rw [if_pos c10316] at H
                    (try rw [(decide_eq_true c10316)])
                    (try simp only [Bool.not_true, Bool.not_false])
                    refine on_guard (guard_on 11 true 87 rfl rfl rfl) ?_
                    obtain ⟨t10317, A10318, H⟩ := Option.bind_eq_some_iff.mp H
                    (try dsimp only at H)
                    refine st_call #[] rfl rfl Try.func9 (by kernel_rfl) rfl rfl (by simp only [List.map_toArray, List.map_cons, List.map_nil]; first | done | rfl) ?_
                    refine (blazonlaw13_awake.calls k8967 t10317  (fun z_ => pal [(0, 0)] (C9030_ z_)) w9029 (fun _ => pal_lt rfl _) A10318).mono ?_
                    rintro _ w10320 ⟨C10321, rfl, hs10322⟩
                    refine ⟨_, rfl, ?_⟩
                    replace hs10322 := Step.lift (U := [(0, 0)]) hs10322 [] rfl rfl
                    generalize up C9030_ C10321 w9029.heap.size [(0, 0)] = C10321_ at hs10322
                    replace HS8962 := HS8962.trans hs10322 hc rfl
                    (try simp only [Act.put, List.setIfInBounds_toArray, ls0, ls1])
                    refine st (.bool t10317) rfl rfl (xr_pick true (.bool t10317) rfl rfl rfl) ?_
                    simp only [ls0, ls1]
                    refine st (.bool t10317) rfl rfl (xr_assign (.bool t10317) rfl rfl) ?_
                    simp only [ls0, ls1]
                    refine wl_end ?_
                    (try simp only [Act.put, List.setIfInBounds_toArray, ls0, ls1])
                    refine hK10313 _ _ ?_
                    (try clear hK10313 K10313)
                    refine wp_ret ?_
                    (try simp only [Exit.inBlock, Exit.then, Exit.noGoto])
                    (try simp only [Act.put, List.setIfInBounds_toArray, ls0, ls1])
                    obtain rfl := Option.some.inj H
                    refine bodyPost_ret (results_tmp rfl _ _ _) rfl ?_
                    exact ⟨_, rfl, HS8962⟩
                  · rw [if_neg c10316] at H
                    (try rw [(decide_eq_false c10316)])
                    (try simp only [Bool.not_true, Bool.not_false])
                    refine sk_guard (guard_off 11 true 87 rfl rfl false (by decide) rfl) rfl ?_
                    simp only [ls0, ls1]
                    refine st (.bool false) rfl rfl (xr_pick false (.bool false) rfl rfl rfl) ?_
                    simp only [ls0, ls1]
                    refine st (.bool false) rfl rfl (xr_assign (.bool false) rfl rfl) ?_
                    simp only [ls0, ls1]
                    refine wl_end ?_
                    (try simp only [Act.put, List.setIfInBounds_toArray, ls0, ls1])
                    refine hK10313 _ _ ?_
                    (try clear hK10313 K10313)
                    refine wp_ret ?_
                    (try simp only [Exit.inBlock, Exit.then, Exit.noGoto])
                    (try simp only [Act.put, List.setIfInBounds_toArray, ls0, ls1])
                    obtain rfl := Option.some.inj H
                    refine bodyPost_ret (results_tmp rfl _ _ _) rfl ?_
                    exact ⟨_, rfl, HS8962⟩
                · rw [if_neg c10315] at H
                  (try rw [(decide_eq_false c10315)])
                  (try simp only [Bool.not_true, Bool.not_false])
                  refine sk_guard (guard_off 6 false 82 rfl rfl true (by decide) rfl) rfl ?_
                  simp only [ls0, ls1]
                  refine sk_guard (guard_off 6 false 82 rfl rfl true (by decide) rfl) rfl ?_
                  simp only [ls0, ls1]
                  refine sk_guard (guard_off 6 false 82 rfl rfl true (by decide) rfl) rfl ?_
                  simp only [ls0, ls1]
                  refine st (.bool true) rfl rfl (xr_pick true (.bool true) rfl rfl rfl) ?_
                  simp only [ls0, ls1]
                  refine st (.bool true) rfl rfl (xr_move (.bool true) rfl rfl) ?_
                  simp only [ls0, ls1]
                  refine on_guard (guard_on 11 true 87 rfl rfl rfl) ?_
                  obtain ⟨t10323, A10324, H⟩ := Option.bind_eq_some_iff.mp H
                  (try dsimp only at H)
                  refine st_call #[] rfl rfl Try.func9 (by kernel_rfl) rfl rfl (by simp only [List.map_toArray, List.map_cons, List.map_nil]; first | done | rfl) ?_
                  refine (blazonlaw13_awake.calls k8967 t10323  (fun z_ => pal [(0, 0)] (C9030_ z_)) w9029 (fun _ => pal_lt rfl _) A10324).mono ?_
                  rintro _ w10326 ⟨C10327, rfl, hs10328⟩
                  refine ⟨_, rfl, ?_⟩
                  replace hs10328 := Step.lift (U := [(0, 0)]) hs10328 [] rfl rfl
                  generalize up C9030_ C10327 w9029.heap.size [(0, 0)] = C10327_ at hs10328
                  replace HS8962 := HS8962.trans hs10328 hc rfl
                  (try simp only [Act.put, List.setIfInBounds_toArray, ls0, ls1])
                  refine st (.bool t10323) rfl rfl (xr_pick true (.bool t10323) rfl rfl rfl) ?_
                  simp only [ls0, ls1]
                  refine st (.bool t10323) rfl rfl (xr_assign (.bool t10323) rfl rfl) ?_
                  simp only [ls0, ls1]
                  refine wl_end ?_
                  (try simp only [Act.put, List.setIfInBounds_toArray, ls0, ls1])
                  refine hK10313 _ _ ?_
                  (try clear hK10313 K10313)
                  refine wp_ret ?_
                  (try simp only [Exit.inBlock, Exit.then, Exit.noGoto])
                  (try simp only [Act.put, List.setIfInBounds_toArray, ls0, ls1])
                  obtain rfl := Option.some.inj H
                  refine bodyPost_ret (results_tmp rfl _ _ _) rfl ?_
                  exact ⟨_, rfl, HS8962⟩
              · rw [if_neg c10314] at H
                (try rw [(decide_eq_false c10314)])
                (try simp only [Bool.not_true, Bool.not_false])
                refine sk_guard (guard_off 2 false 78 rfl rfl true (by decide) rfl) rfl ?_
                simp only [ls0, ls1]
                refine sk_guard (guard_off 2 false 78 rfl rfl true (by decide) rfl) rfl ?_
                simp only [ls0, ls1]
                refine st (.bool true) rfl rfl (xr_pick true (.bool true) rfl rfl rfl) ?_
                simp only [ls0, ls1]
                refine st (.bool true) rfl rfl (xr_move (.bool true) rfl rfl) ?_
                simp only [ls0, ls1]
                refine sk_guard (guard_off 6 false 82 rfl rfl true (by decide) rfl) rfl ?_
                simp only [ls0, ls1]
                refine sk_guard (guard_off 6 false 82 rfl rfl true (by decide) rfl) rfl ?_
                simp only [ls0, ls1]
                refine sk_guard (guard_off 6 false 82 rfl rfl true (by decide) rfl) rfl ?_
                simp only [ls0, ls1]
                refine st (.bool true) rfl rfl (xr_pick true (.bool true) rfl rfl rfl) ?_
                simp only [ls0, ls1]
                refine st (.bool true) rfl rfl (xr_move (.bool true) rfl rfl) ?_
                simp only [ls0, ls1]
                refine on_guard (guard_on 11 true 87 rfl rfl rfl) ?_
                obtain ⟨t10329, A10330, H⟩ := Option.bind_eq_some_iff.mp H
                (try dsimp only at H)
                refine st_call #[] rfl rfl Try.func9 (by kernel_rfl) rfl rfl (by simp only [List.map_toArray, List.map_cons, List.map_nil]; first | done | rfl) ?_
                refine (blazonlaw13_awake.calls k8967 t10329  (fun z_ => pal [(0, 0)] (C9030_ z_)) w9029 (fun _ => pal_lt rfl _) A10330).mono ?_
                rintro _ w10332 ⟨C10333, rfl, hs10334⟩
                refine ⟨_, rfl, ?_⟩
                replace hs10334 := Step.lift (U := [(0, 0)]) hs10334 [] rfl rfl
                generalize up C9030_ C10333 w9029.heap.size [(0, 0)] = C10333_ at hs10334
                replace HS8962 := HS8962.trans hs10334 hc rfl
                (try simp only [Act.put, List.setIfInBounds_toArray, ls0, ls1])
                refine st (.bool t10329) rfl rfl (xr_pick true (.bool t10329) rfl rfl rfl) ?_
                simp only [ls0, ls1]
                refine st (.bool t10329) rfl rfl (xr_assign (.bool t10329) rfl rfl) ?_
                simp only [ls0, ls1]
                refine wl_end ?_
                (try simp only [Act.put, List.setIfInBounds_toArray, ls0, ls1])
                refine hK10313 _ _ ?_
                (try clear hK10313 K10313)
                refine wp_ret ?_
                (try simp only [Exit.inBlock, Exit.then, Exit.noGoto])
                (try simp only [Act.put, List.setIfInBounds_toArray, ls0, ls1])
                obtain rfl := Option.some.inj H
                refine bodyPost_ret (results_tmp rfl _ _ _) rfl ?_
                exact ⟨_, rfl, HS8962⟩
          · rw [if_neg c9036] at H
            (try rw [(decide_eq_false c9036)])
            (try simp only [Bool.not_true, Bool.not_false])
            refine wp_cond_true rfl ?_
            refine wp_seq_k fun K10335 hK10335 => ?_
            refine wp_seq_k fun K10336 hK10336 => ?_
            refine wl_region ?_
            refine st (.int .i64 0) rfl rfl (xr_assign (.int .i64 0) rfl rfl) ?_
            simp only [ls0, ls1]
            refine wl_end ?_
            (try simp only [Act.put, List.setIfInBounds_toArray, ls0, ls1])
            refine hK10336 _ _ ?_
            (try clear hK10336 K10336)
            refine wp_block ?_
            (try simp only [Act.put, List.setIfInBounds_toArray, ls0, ls1])
            refine wp_looped (looped_ind (fun kq10379 a_ w10378 => ∃ (C10377 : Nat → Nat) (x10375 : Int) (g10376 : Nat → Value), a_ = ⟨#[.slice A0 l0.length c0, (g10376 1), (g10376 2), (g10376 3), (g10376 4), (g10376 5), (g10376 6), (g10376 7), (g10376 8), (g10376 9), (g10376 10), (g10376 11), .int .i64 x10375, (g10376 13), (g10376 14), (g10376 15), (g10376 16), (g10376 17), (g10376 18), (g10376 19), (g10376 20), (g10376 21), (g10376 22), (g10376 23), (g10376 24), (g10376 25), (g10376 26), (g10376 27), (g10376 28), (g10376 29), (g10376 30), (g10376 31), (g10376 32), (g10376 33), (g10376 34), (g10376 35), (g10376 36), (g10376 37), (g10376 38), (g10376 39), (g10376 40), (g10376 41), (g10376 42), (g10376 43), (g10376 44), (g10376 45), (g10376 46), (g10376 47), (g10376 48), (g10376 49), (g10376 50), (g10376 51), (g10376 52), (g10376 53), (g10376 54), (g10376 55), (g10376 56), (g10376 57), (g10376 58), (g10376 59), (g10376 60), (g10376 61), (g10376 62), (g10376 63), (g10376 64), (g10376 65), (g10376 66), (g10376 67), (g10376 68), (g10376 69), (g10376 70), (g10376 71), (g10376 72), (g10376 73), (g10376 74), (g10376 75), (g10376 76), (g10376 77), (g10376 78), (g10376 79), (g10376 80), (g10376 81), (g10376 82), (g10376 83), (g10376 84), (g10376 85), (g10376 86), (g10376 87), (g10376 88), (g10376 89), (g10376 90), (g10376 91), (g10376 92), (g10376 93), (g10376 94), (g10376 95), (g10376 96), (g10376 97), (g10376 98), (g10376 99), (g10376 100), (g10376 101), (g10376 102), (g10376 103), (g10376 104), (g10376 105), (g10376 106), (g10376 107), (g10376 108), (g10376 109), (g10376 110), (g10376 111), (g10376 112), (g10376 113), (g10376 114), (g10376 115), (g10376 116), (g10376 117), (g10376 118), (g10376 119), (g10376 120), (g10376 121), (g10376 122), (g10376 123), (g10376 124), (g10376 125), (g10376 126), (g10376 127), (g10376 128), (g10376 129), (g10376 130), (g10376 131), (g10376 132), (g10376 133), (g10376 134)], []⟩ ∧ Step c w C10377 w10378 [] ∧ kq10379 ≤ k8967 ∧ (Ft C10377 [0] w10378 (fun w_ => k25.C w_ A0 l0.length l0)) ∧ blazonlaw13_OrderTurned.l2 kq10379 l0 x10375 = some r) ?step k8967 _ _ ?init)
            case init =>
              exact ⟨_, 0, (fun q_ => List.getD [undef, (g8958 1), (g8958 2), .slice A8952 x8951.length cp8954, .int .i64 x8957, (g8958 5), v9020, .int .i64 t9013, .int .i64 t9014, v9032, .int .i64 t9025, .int .i64 t9026, undef, (g8958 13), (g8958 14), (g8958 15), (g8958 16), (g8958 17), (g8958 18), (g8958 19), (g8958 20), (g8958 21), .int .i64 x8957, .slice A0 l0.length c0, .int .i64 (l0.length : Int), .bool false, (g8958 26), (g8958 27), (g8958 28), (g8958 29), (g8958 30), (g8958 31), (g8958 32), (g8958 33), (g8958 34), (g8958 35), (g8958 36), (g8958 37), (g8958 38), (g8958 39), (g8958 40), (g8958 41), (g8958 42), (g8958 43), .tuple #[v9020, .int .i64 t9013, .int .i64 t9014], .slice A0 l0.length c0, .tuple #[v9020, .int .i64 t9013, .int .i64 t9014], v9020, .int .i64 t9013, .int .i64 t9014, .tuple #[v9032, .int .i64 t9025, .int .i64 t9026], .slice A8952 x8951.length cp8954, .tuple #[v9032, .int .i64 t9025, .int .i64 t9026], v9032, .int .i64 t9025, .int .i64 t9026, .int .i64 t9014, .bool (decide (t9014 = 0)), .int .i64 t9026, .bool (decide (t9026 = 0)), .bool true, (g8958 61), (g8958 62), (g8958 63), (g8958 64), (g8958 65), (g8958 66), (g8958 67), (g8958 68), (g8958 69), (g8958 70), (g8958 71), (g8958 72), (g8958 73), (g8958 74), (g8958 75), (g8958 76), (g8958 77), (g8958 78), (g8958 79), (g8958 80), (g8958 81), (g8958 82), (g8958 83), (g8958 84), (g8958 85), (g8958 86), (g8958 87), (g8958 88), (g8958 89), (g8958 90), (g8958 91), (g8958 92), (g8958 93), (g8958 94), (g8958 95), (g8958 96), (g8958 97), (g8958 98), (g8958 99), (g8958 100), (g8958 101), (g8958 102), (g8958 103), (g8958 104), (g8958 105), (g8958 106), (g8958 107), (g8958 108), (g8958 109), (g8958 110), (g8958 111), (g8958 112), (g8958 113), (g8958 114), (g8958 115), (g8958 116), (g8958 117), (g8958 118), (g8958 119), (g8958 120), (g8958 121), (g8958 122), (g8958 123), (g8958 124), (g8958 125), (g8958 126), (g8958 127), (g8958 128), (g8958 129), (g8958 130), (g8958 131), (g8958 132), (g8958 133), (g8958 134)] q_ undef), rfl, HS8962, Nat.le_refl _, HJ8950, H⟩
            case step =>
              intro kq10379 ih10382 a10383 w10378 hr10384
              obtain ⟨C10377, x10375, g10376, rfl, HS10380, hk10381, HJ10374, H⟩ := hr10384
              refine looped_round ?_
              cases kq10379 with
              | zero => exact absurd H (by simp [blazonlaw13_OrderTurned.l2])
              | succ k10385 =>
                simp only [blazonlaw13_OrderTurned.l2] at H
                refine wp_seq_k fun K10386 hK10386 => ?_
                refine wp_seq_k fun K10387 hK10387 => ?_
                refine wl_region ?_
                refine st (.int .i64 x10375) rfl rfl (xr_move (.int .i64 x10375) rfl rfl) ?_
                simp only [ls0, ls1]
                refine st (.slice A0 l0.length c0) rfl rfl (xr_move (.slice A0 l0.length c0) rfl rfl) ?_
                simp only [ls0, ls1]
                refine st (.int .i64 (l0.length : Int)) rfl rfl (xr_builtin #[.slice A0 l0.length c0] (.int .i64 (l0.length : Int)) rfl (by simp only [List.map_toArray, List.map_cons, List.map_nil]; first | done | rfl) (by first | rfl | (go_simp; done) | (go_simp; rfl) | (go_simp; exact i64_w _) | (go_simp; exact i32_w _))) ?_
                simp only [ls0, ls1]
                refine st (.bool (decide (x10375 < (l0.length : Int)))) rfl rfl (xr_bin (.int .i64 x10375) (.int .i64 (l0.length : Int)) (.bool (decide (x10375 < (l0.length : Int)))) rfl rfl rfl (B.lss_i64 x10375 (l0.length : Int))) ?_
                simp only [ls0, ls1]
                refine wl_end ?_
                (try simp only [Act.put, List.setIfInBounds_toArray, ls0, ls1])
                refine hK10387 _ _ ?_
                (try clear hK10387 K10387)
                by_cases c10388 : x10375 < (l0.length : Int)
                · rw [if_pos c10388] at H
                  (try rw [(decide_eq_true c10388)])
                  (try simp only [Bool.not_true, Bool.not_false])
                  refine wp_cond_true rfl ?_
                  refine wp_skip ?_
                  (try simp only [Act.put, List.setIfInBounds_toArray, ls0, ls1])
                  refine hK10386 _ _ ?_
                  (try clear hK10386 K10386)
                  refine wp_seq_k fun K10389 hK10389 => ?_
                  refine wp_block ?_
                  refine wp_seq_k fun K10390 hK10390 => ?_
                  refine wl_region ?_
                  refine st (.slice A0 l0.length c0) rfl rfl (xr_move (.slice A0 l0.length c0) rfl rfl) ?_
                  simp only [ls0, ls1]
                  refine st (.int .i64 x10375) rfl rfl (xr_move (.int .i64 x10375) rfl rfl) ?_
                  simp only [ls0, ls1]
                  by_cases c10391 : 0 ≤ x10375
                  · rw [if_pos c10391] at H
                    obtain ⟨ad10392, hA10393⟩ := c_addr (Ft.now HJ10374) (pos_of (j := x10375) (by first | assumption | decide) (by first | assumption | omega))
                    refine st (.pointer (some (ad10392.add ((x10375 : Int).toNat * 3)))) rfl rfl (xr_indexAddr (.slice A0 l0.length c0) (.int .i64 x10375) (.pointer (some (ad10392.add ((x10375 : Int).toNat * 3)))) rfl rfl rfl (index_at Try.underlying22 info25 hA10393 (by first | assumption | decide | omega) (by first | assumption | decide | omega))) ?_
                    simp only [ls0, ls1]
                    refine st (.pointer (some ((ad10392.add ((x10375 : Int).toNat * 3)).add 0))) rfl rfl (xr_fieldAddr (.pointer (some (ad10392.add ((x10375 : Int).toNat * 3)))) (.pointer (some ((ad10392.add ((x10375 : Int).toNat * 3)).add 0))) rfl rfl (field_at2 Try.underlying25 rfl rfl (by kernel_rfl))) ?_
                    simp only [ls0, ls1]
                    refine st (.string ((rd_T25 l0 x10375).f0)) rfl rfl (xr_load (.pointer (some ((ad10392.add ((x10375 : Int).toNat * 3)).add 0))) (.string ((rd_T25 l0 x10375).f0)) rfl rfl (by obtain ⟨ad_, cs_, e_, _, hK_, hc_⟩ := Kd.C_get (Ft.now HJ10374) z25 x10375 (by first | assumption | decide | omega) (by first | assumption | decide | omega); rw [hA10393] at e_; injection e_ with e_; subst e_; obtain rfl := k25_open hK_; exact load_cell Try.underlying9 rfl (by first | (rw [add_add]; exact hc_ 0 _ rfl) | (have h_ := hc_ 0 _ rfl; rw [Nat.add_zero] at h_; exact h_)))) ?_
                    simp only [ls0, ls1]
                    refine st (.bool (decide (((rd_T25 l0 x10375).f0) = (⟨#[]⟩ : ByteArray)))) rfl rfl (xr_bin (.string ((rd_T25 l0 x10375).f0)) (.string (⟨#[]⟩ : ByteArray)) (.bool (decide (((rd_T25 l0 x10375).f0) = (⟨#[]⟩ : ByteArray)))) rfl rfl rfl (B.eql_str ((rd_T25 l0 x10375).f0) (⟨#[]⟩ : ByteArray))) ?_
                    simp only [ls0, ls1]
                    refine wl_end ?_
                    (try simp only [Act.put, List.setIfInBounds_toArray, ls0, ls1])
                    refine hK10390 _ _ ?_
                    (try clear hK10390 K10390)
                    by_cases c10395 : ((rd_T25 l0 x10375).f0) = (⟨#[]⟩ : ByteArray)
                    · rw [if_pos c10395] at H
                      (try rw [(decide_eq_true c10395)])
                      (try simp only [Bool.not_true, Bool.not_false])
                      refine wp_cond_true rfl ?_
                      refine wp_seq_k fun K10396 hK10396 => ?_
                      refine wl_region ?_
                      obtain ⟨t10397, A10398, H⟩ := Option.bind_eq_some_iff.mp H
                      (try dsimp only at H)
                      refine st_call #[] rfl rfl Try.func9 (by kernel_rfl) rfl rfl (by simp only [List.map_toArray, List.map_cons, List.map_nil]; first | done | rfl) ?_
                      refine (blazonlaw13_awake.calls k10385 t10397  (fun z_ => pal [(0, 0)] (C10377 z_)) w10378 (fun _ => pal_lt rfl _) A10398).mono ?_
                      rintro _ w10400 ⟨C10401, rfl, hs10402⟩
                      refine ⟨_, rfl, ?_⟩
                      replace hs10402 := Step.lift (U := [(0, 0)]) hs10402 [] rfl rfl
                      generalize up C10377 C10401 w10378.heap.size [(0, 0)] = C10401_ at hs10402
                      replace HS10380 := HS10380.trans hs10402 hc rfl
                      (try simp only [Act.put, List.setIfInBounds_toArray, ls0, ls1])
                      refine st (.bool t10397) rfl rfl (xr_assign (.bool t10397) rfl rfl) ?_
                      simp only [ls0, ls1]
                      refine wl_end ?_
                      (try simp only [Act.put, List.setIfInBounds_toArray, ls0, ls1])
                      refine hK10396 _ _ ?_
                      (try clear hK10396 K10396)
                      refine wp_ret ?_
                      (try simp only [Exit.inBlock, Exit.then, Exit.noGoto])
                      (try simp only [Act.put, List.setIfInBounds_toArray, ls0, ls1])
                      obtain rfl := Option.some.inj H
                      refine bodyPost_ret (results_tmp rfl _ _ _) rfl ?_
                      exact ⟨_, rfl, HS10380⟩
                    · rw [if_neg c10395] at H
                      (try rw [(decide_eq_false c10395)])
                      (try simp only [Bool.not_true, Bool.not_false])
                      refine wp_cond_false rfl ?_
                      refine wp_skip ?_
                      (try simp only [Act.put, List.setIfInBounds_toArray, ls0, ls1])
                      refine hK10389 _ _ ?_
                      (try clear hK10389 K10389)
                      refine wl_region ?_
                      refine st (.int .i64 x10375) rfl rfl (xr_move (.int .i64 x10375) rfl rfl) ?_
                      simp only [ls0, ls1]
                      refine st (.int .i64 (wrap64 (x10375 + 1))) rfl rfl (xr_bin (.int .i64 x10375) (.int .i64 1) (.int .i64 (wrap64 (x10375 + 1))) rfl rfl rfl (B.add_i64 x10375 1)) ?_
                      simp only [ls0, ls1]
                      refine st (.int .i64 (wrap64 (x10375 + 1))) rfl rfl (xr_assign (.int .i64 (wrap64 (x10375 + 1))) rfl rfl) ?_
                      simp only [ls0, ls1]
                      refine wl_end ?_
                      (try simp only [Act.put, List.setIfInBounds_toArray, ls0, ls1])
                      exact ih10382 k10385 (by omega) _ _ ⟨_, wrap64 (x10375 + 1), (fun q_ => List.getD [undef, (g10376 1), (g10376 2), (g10376 3), (g10376 4), (g10376 5), (g10376 6), (g10376 7), (g10376 8), (g10376 9), (g10376 10), (g10376 11), undef, (g10376 13), (g10376 14), (g10376 15), (g10376 16), (g10376 17), (g10376 18), (g10376 19), (g10376 20), (g10376 21), (g10376 22), (g10376 23), (g10376 24), (g10376 25), (g10376 26), (g10376 27), (g10376 28), (g10376 29), (g10376 30), (g10376 31), (g10376 32), (g10376 33), (g10376 34), (g10376 35), (g10376 36), (g10376 37), (g10376 38), (g10376 39), (g10376 40), (g10376 41), (g10376 42), (g10376 43), (g10376 44), (g10376 45), (g10376 46), (g10376 47), (g10376 48), (g10376 49), (g10376 50), (g10376 51), (g10376 52), (g10376 53), (g10376 54), (g10376 55), (g10376 56), (g10376 57), (g10376 58), (g10376 59), (g10376 60), .int .i64 x10375, .slice A0 l0.length c0, .int .i64 (l0.length : Int), .bool true, .int .i64 x10375, .int .i64 (wrap64 (x10375 + 1)), .slice A0 l0.length c0, .int .i64 x10375, .pointer (some (ad10392.add ((x10375 : Int).toNat * 3))), .pointer (some ((ad10392.add ((x10375 : Int).toNat * 3)).add 0)), .string ((rd_T25 l0 x10375).f0), .bool false, (g10376 73), (g10376 74), (g10376 75), (g10376 76), (g10376 77), (g10376 78), (g10376 79), (g10376 80), (g10376 81), (g10376 82), (g10376 83), (g10376 84), (g10376 85), (g10376 86), (g10376 87), (g10376 88), (g10376 89), (g10376 90), (g10376 91), (g10376 92), (g10376 93), (g10376 94), (g10376 95), (g10376 96), (g10376 97), (g10376 98), (g10376 99), (g10376 100), (g10376 101), (g10376 102), (g10376 103), (g10376 104), (g10376 105), (g10376 106), (g10376 107), (g10376 108), (g10376 109), (g10376 110), (g10376 111), (g10376 112), (g10376 113), (g10376 114), (g10376 115), (g10376 116), (g10376 117), (g10376 118), (g10376 119), (g10376 120), (g10376 121), (g10376 122), (g10376 123), (g10376 124), (g10376 125), (g10376 126), (g10376 127), (g10376 128), (g10376 129), (g10376 130), (g10376 131), (g10376 132), (g10376 133), (g10376 134)] q_ undef), rfl, HS10380, (by omega), HJ10374, H⟩
                  · rw [if_neg c10391] at H
                    exact absurd H (by simp)
                · rw [if_neg c10388] at H
                  (try rw [(decide_eq_false c10388)])
                  (try simp only [Bool.not_true, Bool.not_false])
                  refine wp_cond_false rfl ?_
                  refine wp_exit ?_
                  (try simp only [Act.put, List.setIfInBounds_toArray, ls0, ls1])
                  refine hK10335 _ _ ?_
                  (try clear hK10335 K10335)
                  refine wp_seq_k fun K10403 hK10403 => ?_
                  refine wl_region ?_
                  refine st (.bool false) rfl rfl (xr_assign (.bool false) rfl rfl) ?_
                  simp only [ls0, ls1]
                  refine wl_end ?_
                  (try simp only [Act.put, List.setIfInBounds_toArray, ls0, ls1])
                  refine hK10403 _ _ ?_
                  (try clear hK10403 K10403)
                  refine wp_ret ?_
                  (try simp only [Exit.inBlock, Exit.then, Exit.noGoto])
                  (try simp only [Act.put, List.setIfInBounds_toArray, ls0, ls1])
                  obtain rfl := Option.some.inj H
                  refine bodyPost_ret (results_tmp rfl _ _ _) rfl ?_
                  exact ⟨_, rfl, HS10380⟩
/-- THE ONE PURE STATEMENT of blazonlaw13_OrderTurned. -/
def blazonlaw13_OrderTurned.Pure : Prop := ∀ (l0 : List (S25)), l0.length ≤ maxLen → l0.length * 40 ≤ 140737488351232 → (∀ x_ ∈ l0, Ok25 x_) → ∃ k, blazonlaw13_OrderTurned.f k l0 = some true

end Go.Proofs.Ytpfepkkpbampkaa.POrd
