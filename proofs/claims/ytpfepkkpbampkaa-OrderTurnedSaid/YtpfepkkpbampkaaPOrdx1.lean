-- By cprint.py, a program of this work. Lean checks it.
import Derived.Test.YtpfepkkpbampkaaPOrdx0
namespace Go.Proofs.Ytpfepkkpbampkaa.POrd
open Go.RowKit Go.Proofs.YtpfepkkpbampkaaW.PrintWords Go.Proofs.YtpfepkkpbampkaaW.PrintLast Go.Proofs.YtpfepkkpbampkaaW.PrintMore
set_option linter.unusedVariables false
set_option linter.unusedSimpArgs false

/-! ### blazonlaw13_word: function 7 -/
def blazonlaw13_word.f (a0 : Int) : Option (ByteArray) := (some ([(wrap64 (97 + (wrap64 (Int.tdiv a0 26)))) % 256, (wrap64 (97 + (Int.tmod a0 26))) % 256] : List Int)).bind fun y14 => (some (strOfNums y14))
set_option maxHeartbeats 2000000 in
set_option maxRecDepth 100000 in
theorem blazonlaw13_word.calls (a0 : Int) (r : ByteArray) (c : Nat → Nat) (w : World) (hc : ∀ k, c k < 10)  (H : blazonlaw13_word.f a0 = some r) :
    Calls Try.prog 7 #[.int .i64 a0] w fun e w' => ∃ (c' : Nat → Nat) , e = .returned (.string r) ∧ Step c w c' w' [] := by
  unfold blazonlaw13_word.f at H
  have HS := Step.refl c w []
  go_enter Try.func7, Try.ntmps7
  refine wp_seq_k fun K12 hK12 => ?_
  refine wl_region ?_
  refine st (.string (⟨#[]⟩ : ByteArray)) rfl rfl (xr_assign (.string (⟨#[]⟩ : ByteArray)) rfl rfl) ?_
  simp only [ls0, ls1]
  refine wl_end ?_
  (try simp only [Act.put, List.setIfInBounds_toArray, ls0, ls1])
  refine hK12 _ _ ?_
  (try clear hK12 K12)
  refine wp_seq_k fun K13 hK13 => ?_
  refine wl_region ?_
  refine st (.int .i64 a0) rfl rfl (xr_move (.int .i64 a0) rfl rfl) ?_
  simp only [ls0, ls1]
  refine st (.int .i64 (wrap64 (Int.tdiv a0 26))) rfl rfl (xr_bin (.int .i64 a0) (.int .i64 26) (.int .i64 (wrap64 (Int.tdiv a0 26))) rfl rfl rfl (B.quo_i64 a0 26 (by decide))) ?_
  simp only [ls0, ls1]
  refine st (.int .i64 (wrap64 (97 + (wrap64 (Int.tdiv a0 26))))) rfl rfl (xr_bin (.int .i64 97) (.int .i64 (wrap64 (Int.tdiv a0 26))) (.int .i64 (wrap64 (97 + (wrap64 (Int.tdiv a0 26))))) rfl rfl rfl (B.add_i64 97 (wrap64 (Int.tdiv a0 26)))) ?_
  simp only [ls0, ls1]
  refine st (.int .u8 ((wrap64 (97 + (wrap64 (Int.tdiv a0 26)))) % 256)) rfl rfl (xr_conv (.int .i64 (wrap64 (97 + (wrap64 (Int.tdiv a0 26))))) (.int .u8 ((wrap64 (97 + (wrap64 (Int.tdiv a0 26)))) % 256)) rfl rfl (by first | rfl | (go_simp; done) | (go_simp; rfl) | (go_simp; exact i64_w _) | (go_simp; exact i32_w _))) ?_
  simp only [ls0, ls1]
  refine st (.int .i64 a0) rfl rfl (xr_move (.int .i64 a0) rfl rfl) ?_
  simp only [ls0, ls1]
  refine st (.int .i64 (Int.tmod a0 26)) rfl rfl (xr_bin (.int .i64 a0) (.int .i64 26) (.int .i64 (Int.tmod a0 26)) rfl rfl rfl (B.rem_i64 a0 26 (by decide))) ?_
  simp only [ls0, ls1]
  refine st (.int .i64 (wrap64 (97 + (Int.tmod a0 26)))) rfl rfl (xr_bin (.int .i64 97) (.int .i64 (Int.tmod a0 26)) (.int .i64 (wrap64 (97 + (Int.tmod a0 26)))) rfl rfl rfl (B.add_i64 97 (Int.tmod a0 26))) ?_
  simp only [ls0, ls1]
  refine st (.int .u8 ((wrap64 (97 + (Int.tmod a0 26))) % 256)) rfl rfl (xr_conv (.int .i64 (wrap64 (97 + (Int.tmod a0 26)))) (.int .u8 ((wrap64 (97 + (Int.tmod a0 26))) % 256)) rfl rfl (by first | rfl | (go_simp; done) | (go_simp; rfl) | (go_simp; exact i64_w _) | (go_simp; exact i32_w _))) ?_
  simp only [ls0, ls1]
  obtain ⟨y14, A15, H⟩ := Option.bind_eq_some_iff.mp H
  (try dsimp only at H)
  refine Own.lit (Kd.int .u8) (C := c) (i := 11) rfl 5 rfl (xs := [(wrap64 (97 + (wrap64 (Int.tdiv a0 26)))) % 256, (wrap64 (97 + (Int.tmod a0 26))) % 256]) (inner := [.int .u8 ((wrap64 (97 + (wrap64 (Int.tdiv a0 26)))) % 256), .int .u8 ((wrap64 (97 + (Int.tmod a0 26))) % 256)]) (by first | (go_simp; done) | (go_simp; rfl)) (reps_cons (fk_int .u8 _ _ ((wrap64 (97 + (wrap64 (Int.tdiv a0 26)))) % 256)) rfl (reps_cons (fk_int .u8 _ _ ((wrap64 (97 + (Int.tmod a0 26))) % 256)) rfl (Reps.none _ _))) (by simp only [List.length_cons, List.length_nil]; omega) (Option.some.inj A15) ?_
  intro A16 cp17 w18 C19 HO20 HC21 hs22
  replace HS := HS.trans hs22 hc rfl
  (try simp only [Act.put, List.setIfInBounds_toArray, ls0, ls1])
  refine st (.string (strOfNums y14)) rfl rfl (xr_conv (.slice A16 y14.length cp17) (.string (strOfNums y14)) rfl rfl (string_of_reads Try.underlying42 Try.underlying5 Try.underlying9 (Kd.reads_of_C (d := (0 : Int)) (h1 := fun _ => rfl) (Ft.now (HO20.ft))))) ?_
  simp only [ls0, ls1]
  refine st (.string (strOfNums y14)) rfl rfl (xr_assign (.string (strOfNums y14)) rfl rfl) ?_
  simp only [ls0, ls1]
  refine wl_end ?_
  (try simp only [Act.put, List.setIfInBounds_toArray, ls0, ls1])
  refine hK13 _ _ ?_
  (try clear hK13 K13)
  refine wp_ret ?_
  (try simp only [Exit.inBlock, Exit.then, Exit.noGoto])
  (try simp only [Act.put, List.setIfInBounds_toArray, ls0, ls1])
  obtain rfl := Option.some.inj H
  refine bodyPost_ret (results_tmp rfl _ _ _) rfl ?_
  exact ⟨_, rfl, HS⟩

/-! ### order_Order_Len: function 10 -/
def order_Order_Len.f (x0 : Option S47) : Option (Int) := onOpt x0 (some 0) (fun o37 => (some (o37.f0.length : Int)))
set_option maxHeartbeats 2000000 in
set_option maxRecDepth 100000 in
theorem order_Order_Len.calls (v0 : Value) (x0 : Option S47) (r : Int) (c : Nat → Nat) (w : World) (hc : ∀ k, c k < 10) (HP0 : Ft c [0] w (fun w_ => (Kd.ptr 47 k47).K w_ x0 [v0])) (H : order_Order_Len.f x0 = some r) :
    Calls Try.prog 10 #[v0] w fun e w' => ∃ (c' : Nat → Nat) , e = .returned (.int .i64 r) ∧ Step c w c' w' [] := by
  unfold order_Order_Len.f at H
  have HS := Step.refl c w []
  go_enter Try.func10, Try.ntmps10
  refine wp_seq_k fun K34 hK34 => ?_
  refine wl_region ?_
  refine st (.int .i64 0) rfl rfl (xr_assign (.int .i64 0) rfl rfl) ?_
  simp only [ls0, ls1]
  refine wl_end ?_
  (try simp only [Act.put, List.setIfInBounds_toArray, ls0, ls1])
  refine hK34 _ _ ?_
  (try clear hK34 K34)
  refine wp_seq_k fun K35 hK35 => ?_
  refine wp_seq_k fun K36 hK36 => ?_
  refine wl_region ?_
  refine st (v0) rfl rfl (xr_move (v0) rfl rfl) ?_
  simp only [ls0, ls1]
  cases x0 with
  | none =>
    (try simp only [onOpt] at H)
    obtain rfl := ptr_none HP0
    refine st (.bool true) rfl rfl (xr_bin (.pointer none) (.pointer none) (.bool true) rfl rfl rfl (B.eql_nn ⟨_, Try.underlying26⟩ (⟨0, 0, none⟩ : Addr))) ?_
    simp only [ls0, ls1]
    refine wl_end ?_
    (try simp only [Act.put, List.setIfInBounds_toArray, ls0, ls1])
    refine hK36 _ _ ?_
    (try clear hK36 K36)
    refine wp_cond_true rfl ?_
    refine wp_seq_k fun K38 hK38 => ?_
    refine wl_region ?_
    refine st (.int .i64 0) rfl rfl (xr_assign (.int .i64 0) rfl rfl) ?_
    simp only [ls0, ls1]
    refine wl_end ?_
    (try simp only [Act.put, List.setIfInBounds_toArray, ls0, ls1])
    refine hK38 _ _ ?_
    (try clear hK38 K38)
    refine wp_ret ?_
    (try simp only [Exit.inBlock, Exit.then, Exit.noGoto])
    (try simp only [Act.put, List.setIfInBounds_toArray, ls0, ls1])
    obtain rfl := Option.some.inj H
    refine bodyPost_ret (results_tmp rfl _ _ _) rfl ?_
    exact ⟨_, rfl, HS⟩
  | some o37 =>
    (try simp only [onOpt] at H)
    obtain ⟨g39, cs40, rfl, HX41, HK42⟩ := ptr_some HP0
    obtain ⟨Aq43_0, cpq43_0, vq43_1, rfl, HCq43_0, HRq43_0, HRq43_1, HLq43_2, HLq43_3⟩ := k47_openF HK42
    replace HRq43_0 : Ft c [0] w (fun w_ => Kd.string.C w_ Aq43_0 o37.f0.length o37.f0) := HRq43_0
    replace HRq43_1 : Ft c [0] w (fun w_ => (Kd.mp Value.string (Value.int .i64)).K w_ o37.f1 [vq43_1]) := HRq43_1
    refine st (.bool false) rfl rfl (xr_bin (.pointer (some ⟨g39, 0, none⟩)) (.pointer none) (.bool false) rfl rfl rfl (B.eql_pn ⟨_, Try.underlying26⟩ ⟨g39, 0, none⟩)) ?_
    simp only [ls0, ls1]
    refine wl_end ?_
    (try simp only [Act.put, List.setIfInBounds_toArray, ls0, ls1])
    refine hK36 _ _ ?_
    (try clear hK36 K36)
    refine wp_cond_false rfl ?_
    refine wp_skip ?_
    (try simp only [Act.put, List.setIfInBounds_toArray, ls0, ls1])
    refine hK35 _ _ ?_
    (try clear hK35 K35)
    refine wp_seq_k fun K44 hK44 => ?_
    refine wl_region ?_
    refine st (.pointer (some ⟨g39, 0, none⟩)) rfl rfl (xr_move (.pointer (some ⟨g39, 0, none⟩)) rfl rfl) ?_
    simp only [ls0, ls1]
    refine st (.pointer (some ⟨g39, 0, none⟩)) rfl rfl (xr_nilCheck ⟨g39, 0, none⟩ rfl rfl) ?_
    simp only [ls0, ls1]
    refine st (.pointer (some ⟨g39, 0, none⟩)) rfl rfl (xr_fieldAddr (.pointer (some ⟨g39, 0, none⟩)) (.pointer (some ⟨g39, 0, none⟩)) rfl rfl (bx_field2 Try.underlying47 rfl rfl (by kernel_rfl))) ?_
    simp only [ls0, ls1]
    refine st (.slice Aq43_0 o37.f0.length cpq43_0) rfl rfl (xr_load (.pointer (some ⟨g39, 0, none⟩)) (.slice Aq43_0 o37.f0.length cpq43_0) rfl rfl (load_cell Try.underlying44 rfl (bx_cell (l := ([.slice Aq43_0 o37.f0.length cpq43_0, vq43_1] ++ (List.map (Value.int .u64) o37.f2 ++ (List.map (Value.int .u64) o37.f3)))) (Ft.now HX41) 0 rfl))) ?_
    simp only [ls0, ls1]
    refine st (.int .i64 (o37.f0.length : Int)) rfl rfl (xr_builtin #[.slice Aq43_0 o37.f0.length cpq43_0] (.int .i64 (o37.f0.length : Int)) rfl (by simp only [List.map_toArray, List.map_cons, List.map_nil]; first | done | rfl) (by first | rfl | (go_simp; done) | (go_simp; rfl) | (go_simp; exact i64_w _) | (go_simp; exact i32_w _))) ?_
    simp only [ls0, ls1]
    refine st (.int .i64 (o37.f0.length : Int)) rfl rfl (xr_assign (.int .i64 (o37.f0.length : Int)) rfl rfl) ?_
    simp only [ls0, ls1]
    refine wl_end ?_
    (try simp only [Act.put, List.setIfInBounds_toArray, ls0, ls1])
    refine hK44 _ _ ?_
    (try clear hK44 K44)
    refine wp_ret ?_
    (try simp only [Exit.inBlock, Exit.then, Exit.noGoto])
    (try simp only [Act.put, List.setIfInBounds_toArray, ls0, ls1])
    obtain rfl := Option.some.inj H
    refine bodyPost_ret (results_tmp rfl _ _ _) rfl ?_
    exact ⟨_, rfl, HS⟩

/-! ### order_Order_in: function 20 -/
def order_Order_in.f (x0 : Option S47) (a1 : Int) : Option (Bool) := if a1 ≥ 0 then ((order_Order_Len.f x0).bind fun t57 => (some (decide (a1 < t57)))) else (some false)
set_option maxHeartbeats 2000000 in
set_option maxRecDepth 100000 in
theorem order_Order_in.calls (v0 : Value) (x0 : Option S47) (a1 : Int) (r : Bool) (c : Nat → Nat) (w : World) (hc : ∀ k, c k < 10) (HP0 : Ft c [0] w (fun w_ => (Kd.ptr 47 k47).K w_ x0 [v0])) (H : order_Order_in.f x0 a1 = some r) :
    Calls Try.prog 20 #[v0, .int .i64 a1] w fun e w' => ∃ (c' : Nat → Nat) , e = .returned (.bool r) ∧ Step c w c' w' [] := by
  unfold order_Order_in.f at H
  have HS := Step.refl c w []
  go_enter Try.func20, Try.ntmps20
  refine wp_seq_k fun K54 hK54 => ?_
  refine wl_region ?_
  refine st (.bool false) rfl rfl (xr_assign (.bool false) rfl rfl) ?_
  simp only [ls0, ls1]
  refine wl_end ?_
  (try simp only [Act.put, List.setIfInBounds_toArray, ls0, ls1])
  refine hK54 _ _ ?_
  (try clear hK54 K54)
  refine wp_seq_k fun K55 hK55 => ?_
  refine wl_region ?_
  refine st (.int .i64 a1) rfl rfl (xr_move (.int .i64 a1) rfl rfl) ?_
  simp only [ls0, ls1]
  refine st (.bool (decide (a1 ≥ 0))) rfl rfl (xr_bin (.int .i64 a1) (.int .i64 0) (.bool (decide (a1 ≥ 0))) rfl rfl rfl (B.geq_i64 a1 0)) ?_
  simp only [ls0, ls1]
  refine st (.bool (decide (a1 ≥ 0))) rfl rfl (xr_move (.bool (decide (a1 ≥ 0))) rfl rfl) ?_
  simp only [ls0, ls1]
  by_cases c56 : a1 ≥ 0
  · rw [if_pos c56] at H
    (try rw [(decide_eq_true c56)])
    (try simp only [Bool.not_true, Bool.not_false])
    refine on_guard (guard_on 2 true 7 rfl rfl rfl) ?_
    refine st (.int .i64 a1) rfl rfl (xr_move (.int .i64 a1) rfl rfl) ?_
    simp only [ls0, ls1]
    refine on_guard (guard_on 2 true 7 rfl rfl rfl) ?_
    refine st (v0) rfl rfl (xr_move (v0) rfl rfl) ?_
    simp only [ls0, ls1]
    refine on_guard (guard_on 2 true 7 rfl rfl rfl) ?_
    obtain ⟨t57, A58, H⟩ := Option.bind_eq_some_iff.mp H
    (try dsimp only at H)
    refine st_call #[v0] rfl rfl Try.func10 (by kernel_rfl) rfl rfl (by simp only [List.map_toArray, List.map_cons, List.map_nil]; first | done | rfl) ?_
    refine (order_Order_Len.calls v0 x0 t57  (fun z_ => pal [(0, 0)] (c z_)) w (fun _ => pal_lt rfl _) (Ft.arg HP0 rfl) A58).mono ?_
    rintro _ w60 ⟨C61, rfl, hs62⟩
    refine ⟨_, rfl, ?_⟩
    replace hs62 := Step.lift (U := [(0, 0)]) hs62 [] rfl rfl
    generalize up c C61 w.heap.size [(0, 0)] = C61_ at hs62
    replace HS := HS.trans hs62 hc rfl
    (try simp only [Act.put, List.setIfInBounds_toArray, ls0, ls1])
    refine on_guard (guard_on 2 true 7 rfl rfl rfl) ?_
    refine st (.bool (decide (a1 < t57))) rfl rfl (xr_bin (.int .i64 a1) (.int .i64 t57) (.bool (decide (a1 < t57))) rfl rfl rfl (B.lss_i64 a1 t57)) ?_
    simp only [ls0, ls1]
    refine st (.bool (decide (a1 < t57))) rfl rfl (xr_pick true (.bool (decide (a1 < t57))) rfl rfl rfl) ?_
    simp only [ls0, ls1]
    refine st (.bool (decide (a1 < t57))) rfl rfl (xr_assign (.bool (decide (a1 < t57))) rfl rfl) ?_
    simp only [ls0, ls1]
    refine wl_end ?_
    (try simp only [Act.put, List.setIfInBounds_toArray, ls0, ls1])
    refine hK55 _ _ ?_
    (try clear hK55 K55)
    refine wp_ret ?_
    (try simp only [Exit.inBlock, Exit.then, Exit.noGoto])
    (try simp only [Act.put, List.setIfInBounds_toArray, ls0, ls1])
    obtain rfl := Option.some.inj H
    refine bodyPost_ret (results_tmp rfl _ _ _) rfl ?_
    exact ⟨_, rfl, HS⟩
  · rw [if_neg c56] at H
    (try rw [(decide_eq_false c56)])
    (try simp only [Bool.not_true, Bool.not_false])
    refine sk_guard (guard_off 2 true 7 rfl rfl false (by decide) rfl) rfl ?_
    simp only [ls0, ls1]
    refine sk_guard (guard_off 2 true 7 rfl rfl false (by decide) rfl) rfl ?_
    simp only [ls0, ls1]
    refine sk_guard (guard_off 2 true 7 rfl rfl false (by decide) rfl) rfl ?_
    simp only [ls0, ls1]
    refine sk_guard (guard_off 2 true 7 rfl rfl false (by decide) rfl) rfl ?_
    simp only [ls0, ls1]
    refine st (.bool false) rfl rfl (xr_pick false (.bool false) rfl rfl rfl) ?_
    simp only [ls0, ls1]
    refine st (.bool false) rfl rfl (xr_assign (.bool false) rfl rfl) ?_
    simp only [ls0, ls1]
    refine wl_end ?_
    (try simp only [Act.put, List.setIfInBounds_toArray, ls0, ls1])
    refine hK55 _ _ ?_
    (try clear hK55 K55)
    refine wp_ret ?_
    (try simp only [Exit.inBlock, Exit.then, Exit.noGoto])
    (try simp only [Act.put, List.setIfInBounds_toArray, ls0, ls1])
    obtain rfl := Option.some.inj H
    refine bodyPost_ret (results_tmp rfl _ _ _) rfl ?_
    exact ⟨_, rfl, HS⟩

/-! ### order_Order_Most: function 11 -/
def order_Order_Most.f (x0 : Option S47) (a1 : Int) (a2 : Int) : Option (Bool) := (order_Order_in.f x0 a1).bind fun t90 => (if t90 = true then ((order_Order_in.f x0 a2).bind fun t97 => (if t97 = true then (onOpt x0 (none) (fun o104 => (if 0 ≤ a1 then (if a1 < 64 then (if 0 ≤ (IntKind.u64.wrap (a2)) then (some (decide ((Go.bits .and .u64 (shr .u64 (List.getD o104.f2 ((a1 : Int).toNat) 0) (IntKind.u64.wrap (a2))) 1) = 1))) else (none)) else (none)) else (none)))) else (some false))) else (some false))
set_option maxHeartbeats 2000000 in
set_option maxRecDepth 100000 in
theorem order_Order_Most.calls (v0 : Value) (x0 : Option S47) (a1 : Int) (a2 : Int) (r : Bool) (c : Nat → Nat) (w : World) (hc : ∀ k, c k < 10) (HP0 : Ft c [0] w (fun w_ => (Kd.ptr 47 k47).K w_ x0 [v0])) (H : order_Order_Most.f x0 a1 a2 = some r) :
    Calls Try.prog 11 #[v0, .int .i64 a1, .int .i64 a2] w fun e w' => ∃ (c' : Nat → Nat) , e = .returned (.bool r) ∧ Step c w c' w' [] := by
  unfold order_Order_Most.f at H
  have HS := Step.refl c w []
  go_enter Try.func11, Try.ntmps11
  refine wp_seq_k fun K88 hK88 => ?_
  refine wl_region ?_
  refine st (.bool false) rfl rfl (xr_assign (.bool false) rfl rfl) ?_
  simp only [ls0, ls1]
  refine wl_end ?_
  (try simp only [Act.put, List.setIfInBounds_toArray, ls0, ls1])
  refine hK88 _ _ ?_
  (try clear hK88 K88)
  refine wp_seq_k fun K89 hK89 => ?_
  refine wl_region ?_
  refine st (v0) rfl rfl (xr_move (v0) rfl rfl) ?_
  simp only [ls0, ls1]
  refine st (.int .i64 a1) rfl rfl (xr_move (.int .i64 a1) rfl rfl) ?_
  simp only [ls0, ls1]
  obtain ⟨t90, A91, H⟩ := Option.bind_eq_some_iff.mp H
  (try dsimp only at H)
  refine st_call #[v0, .int .i64 a1] rfl rfl Try.func20 (by kernel_rfl) rfl rfl (by simp only [List.map_toArray, List.map_cons, List.map_nil]; first | done | rfl) ?_
  refine (order_Order_in.calls v0 x0 a1 t90  (fun z_ => pal [(0, 0)] (c z_)) w (fun _ => pal_lt rfl _) (Ft.arg HP0 rfl) A91).mono ?_
  rintro _ w93 ⟨C94, rfl, hs95⟩
  refine ⟨_, rfl, ?_⟩
  replace hs95 := Step.lift (U := [(0, 0)]) hs95 [] rfl rfl
  generalize up c C94 w.heap.size [(0, 0)] = C94_ at hs95
  replace HP0 := HP0.thru hs95 rfl
  replace HS := HS.trans hs95 hc rfl
  (try simp only [Act.put, List.setIfInBounds_toArray, ls0, ls1])
  refine st (.bool t90) rfl rfl (xr_move (.bool t90) rfl rfl) ?_
  simp only [ls0, ls1]
  by_cases c96 : t90 = true
  · rw [if_pos c96] at H
    (try rw [c96])
    (try simp only [Bool.not_true, Bool.not_false])
    refine on_guard (guard_on 3 true 10 rfl rfl rfl) ?_
    refine st (v0) rfl rfl (xr_move (v0) rfl rfl) ?_
    simp only [ls0, ls1]
    refine on_guard (guard_on 3 true 10 rfl rfl rfl) ?_
    refine st (.int .i64 a2) rfl rfl (xr_move (.int .i64 a2) rfl rfl) ?_
    simp only [ls0, ls1]
    refine on_guard (guard_on 3 true 10 rfl rfl rfl) ?_
    obtain ⟨t97, A98, H⟩ := Option.bind_eq_some_iff.mp H
    (try dsimp only at H)
    refine st_call #[v0, .int .i64 a2] rfl rfl Try.func20 (by kernel_rfl) rfl rfl (by simp only [List.map_toArray, List.map_cons, List.map_nil]; first | done | rfl) ?_
    refine (order_Order_in.calls v0 x0 a2 t97  (fun z_ => pal [(0, 0)] (C94_ z_)) w93 (fun _ => pal_lt rfl _) (Ft.arg HP0 rfl) A98).mono ?_
    rintro _ w100 ⟨C101, rfl, hs102⟩
    refine ⟨_, rfl, ?_⟩
    replace hs102 := Step.lift (U := [(0, 0)]) hs102 [] rfl rfl
    generalize up C94_ C101 w93.heap.size [(0, 0)] = C101_ at hs102
    replace HP0 := HP0.thru hs102 rfl
    replace HS := HS.trans hs102 hc rfl
    (try simp only [Act.put, List.setIfInBounds_toArray, ls0, ls1])
    refine st (.bool t97) rfl rfl (xr_pick true (.bool t97) rfl rfl rfl) ?_
    simp only [ls0, ls1]
    refine st (.bool t97) rfl rfl (xr_move (.bool t97) rfl rfl) ?_
    simp only [ls0, ls1]
    by_cases c103 : t97 = true
    · rw [if_pos c103] at H
      (try rw [c103])
      (try simp only [Bool.not_true, Bool.not_false])
      refine on_guard (guard_on 8 true 15 rfl rfl rfl) ?_
      refine st (v0) rfl rfl (xr_move (v0) rfl rfl) ?_
      simp only [ls0, ls1]
      refine on_guard (guard_on 8 true 15 rfl rfl rfl) ?_
      refine st (.int .i64 a1) rfl rfl (xr_move (.int .i64 a1) rfl rfl) ?_
      simp only [ls0, ls1]
      refine on_guard (guard_on 8 true 15 rfl rfl rfl) ?_
      cases x0 with
      | none =>
        (try simp only [onOpt] at H)
        obtain rfl := ptr_none HP0
        exact absurd H (by simp)
      | some o104 =>
        (try simp only [onOpt] at H)
        obtain ⟨g105, cs106, rfl, HX107, HK108⟩ := ptr_some HP0
        obtain ⟨Aq109_0, cpq109_0, vq109_1, rfl, HCq109_0, HRq109_0, HRq109_1, HLq109_2, HLq109_3⟩ := k47_openF HK108
        replace HRq109_0 : Ft C101_ [0] w100 (fun w_ => Kd.string.C w_ Aq109_0 o104.f0.length o104.f0) := HRq109_0
        replace HRq109_1 : Ft C101_ [0] w100 (fun w_ => (Kd.mp Value.string (Value.int .i64)).K w_ o104.f1 [vq109_1]) := HRq109_1
        refine st (.pointer (some ⟨g105, 0, none⟩)) rfl rfl (xr_nilCheck ⟨g105, 0, none⟩ rfl rfl) ?_
        simp only [ls0, ls1]
        refine on_guard (guard_on 8 true 15 rfl rfl rfl) ?_
        refine st (.pointer (some ⟨g105, 2, none⟩)) rfl rfl (xr_fieldAddr (.pointer (some ⟨g105, 0, none⟩)) (.pointer (some ⟨g105, 2, none⟩)) rfl rfl (bx_field2 Try.underlying47 rfl rfl (by kernel_rfl))) ?_
        simp only [ls0, ls1]
        refine on_guard (guard_on 8 true 15 rfl rfl rfl) ?_
        by_cases c110 : 0 ≤ a1
        · rw [if_pos c110] at H
          by_cases c111 : a1 < 64
          · rw [if_pos c111] at H
            refine st (.pointer (some ⟨g105, 2 + ((a1 : Int).toNat), none⟩)) rfl rfl (xr_indexAddr (.pointer (some ⟨g105, 2, none⟩)) (.int .i64 a1) (.pointer (some ⟨g105, 2 + ((a1 : Int).toNat), none⟩)) rfl rfl rfl (arr_index (sz := 1) Try.underlying45 (by kernel_rfl) (by first | assumption | decide | omega) (by first | assumption | decide | omega) (by omega))) ?_
            simp only [ls0, ls1]
            refine on_guard (guard_on 8 true 15 rfl rfl rfl) ?_
            refine st (.int .u64 (List.getD o104.f2 ((a1 : Int).toNat) 0)) rfl rfl (xr_load (.pointer (some ⟨g105, 2 + ((a1 : Int).toNat), none⟩)) (.int .u64 (List.getD o104.f2 ((a1 : Int).toNat) 0)) rfl rfl (arr_load (o := 2) (N := 64) (pre := [.slice Aq109_0 o104.f0.length cpq109_0, vq109_1]) (post := List.map (Value.int .u64) o104.f3) (enc := (Value.int .u64)) (l := o104.f2) (i := (a1 : Int).toNat) 0 Try.underlying40 rfl (Ft.now HX107) (by first | (simp only [List.append_assoc, List.cons_append, List.nil_append, List.append_nil]; done) | rfl) (by simp []) HLq109_2 (by omega) (by omega))) ?_
            simp only [ls0, ls1]
            refine on_guard (guard_on 8 true 15 rfl rfl rfl) ?_
            refine st (.int .i64 a2) rfl rfl (xr_move (.int .i64 a2) rfl rfl) ?_
            simp only [ls0, ls1]
            refine on_guard (guard_on 8 true 15 rfl rfl rfl) ?_
            refine st (.int .u64 (IntKind.u64.wrap (a2))) rfl rfl (xr_conv (.int .i64 a2) (.int .u64 (IntKind.u64.wrap (a2))) rfl rfl (by first | rfl | (go_simp; done) | (go_simp; rfl) | (go_simp; exact i64_w _) | (go_simp; exact i32_w _))) ?_
            simp only [ls0, ls1]
            refine on_guard (guard_on 8 true 15 rfl rfl rfl) ?_
            by_cases c112 : 0 ≤ (IntKind.u64.wrap (a2))
            · rw [if_pos c112] at H
              refine st (.int .u64 (shr .u64 (List.getD o104.f2 ((a1 : Int).toNat) 0) (IntKind.u64.wrap (a2)))) rfl rfl (xr_bin (.int .u64 (List.getD o104.f2 ((a1 : Int).toNat) 0)) (.int .u64 (IntKind.u64.wrap (a2))) (.int .u64 (shr .u64 (List.getD o104.f2 ((a1 : Int).toNat) 0) (IntKind.u64.wrap (a2)))) rfl rfl rfl (B.shr_u64_u64 (List.getD o104.f2 ((a1 : Int).toNat) 0) (IntKind.u64.wrap (a2)) (by assumption))) ?_
              simp only [ls0, ls1]
              refine on_guard (guard_on 8 true 15 rfl rfl rfl) ?_
              refine st (.int .u64 (Go.bits .and .u64 (shr .u64 (List.getD o104.f2 ((a1 : Int).toNat) 0) (IntKind.u64.wrap (a2))) 1)) rfl rfl (xr_bin (.int .u64 (shr .u64 (List.getD o104.f2 ((a1 : Int).toNat) 0) (IntKind.u64.wrap (a2)))) (.int .u64 1) (.int .u64 (Go.bits .and .u64 (shr .u64 (List.getD o104.f2 ((a1 : Int).toNat) 0) (IntKind.u64.wrap (a2))) 1)) rfl rfl rfl (B.and_u64 (shr .u64 (List.getD o104.f2 ((a1 : Int).toNat) 0) (IntKind.u64.wrap (a2))) 1)) ?_
              simp only [ls0, ls1]
              refine on_guard (guard_on 8 true 15 rfl rfl rfl) ?_
              refine st (.bool (decide ((Go.bits .and .u64 (shr .u64 (List.getD o104.f2 ((a1 : Int).toNat) 0) (IntKind.u64.wrap (a2))) 1) = 1))) rfl rfl (xr_bin (.int .u64 (Go.bits .and .u64 (shr .u64 (List.getD o104.f2 ((a1 : Int).toNat) 0) (IntKind.u64.wrap (a2))) 1)) (.int .u64 1) (.bool (decide ((Go.bits .and .u64 (shr .u64 (List.getD o104.f2 ((a1 : Int).toNat) 0) (IntKind.u64.wrap (a2))) 1) = 1))) rfl rfl rfl (B.eql_u64 (Go.bits .and .u64 (shr .u64 (List.getD o104.f2 ((a1 : Int).toNat) 0) (IntKind.u64.wrap (a2))) 1) 1)) ?_
              simp only [ls0, ls1]
              refine st (.bool (decide ((Go.bits .and .u64 (shr .u64 (List.getD o104.f2 ((a1 : Int).toNat) 0) (IntKind.u64.wrap (a2))) 1) = 1))) rfl rfl (xr_pick true (.bool (decide ((Go.bits .and .u64 (shr .u64 (List.getD o104.f2 ((a1 : Int).toNat) 0) (IntKind.u64.wrap (a2))) 1) = 1))) rfl rfl rfl) ?_
              simp only [ls0, ls1]
              refine st (.bool (decide ((Go.bits .and .u64 (shr .u64 (List.getD o104.f2 ((a1 : Int).toNat) 0) (IntKind.u64.wrap (a2))) 1) = 1))) rfl rfl (xr_assign (.bool (decide ((Go.bits .and .u64 (shr .u64 (List.getD o104.f2 ((a1 : Int).toNat) 0) (IntKind.u64.wrap (a2))) 1) = 1))) rfl rfl) ?_
              simp only [ls0, ls1]
              refine wl_end ?_
              (try simp only [Act.put, List.setIfInBounds_toArray, ls0, ls1])
              refine hK89 _ _ ?_
              (try clear hK89 K89)
              refine wp_ret ?_
              (try simp only [Exit.inBlock, Exit.then, Exit.noGoto])
              (try simp only [Act.put, List.setIfInBounds_toArray, ls0, ls1])
              obtain rfl := Option.some.inj H
              refine bodyPost_ret (results_tmp rfl _ _ _) rfl ?_
              exact ⟨_, rfl, HS⟩
            · rw [if_neg c112] at H
              exact absurd H (by simp)
          · rw [if_neg c111] at H
            exact absurd H (by simp)
        · rw [if_neg c110] at H
          exact absurd H (by simp)
    · rw [if_neg c103] at H
      (try rw [(Bool.eq_false_iff.mpr c103)])
      (try simp only [Bool.not_true, Bool.not_false])
      refine sk_guard (guard_off 8 true 15 rfl rfl false (by decide) rfl) rfl ?_
      simp only [ls0, ls1]
      refine sk_guard (guard_off 8 true 15 rfl rfl false (by decide) rfl) rfl ?_
      simp only [ls0, ls1]
      refine sk_guard (guard_off 8 true 15 rfl rfl false (by decide) rfl) rfl ?_
      simp only [ls0, ls1]
      refine sk_guard (guard_off 8 true 15 rfl rfl false (by decide) rfl) rfl ?_
      simp only [ls0, ls1]
      refine sk_guard (guard_off 8 true 15 rfl rfl false (by decide) rfl) rfl ?_
      simp only [ls0, ls1]
      refine sk_guard (guard_off 8 true 15 rfl rfl false (by decide) rfl) rfl ?_
      simp only [ls0, ls1]
      refine sk_guard (guard_off 8 true 15 rfl rfl false (by decide) rfl) rfl ?_
      simp only [ls0, ls1]
      refine sk_guard (guard_off 8 true 15 rfl rfl false (by decide) rfl) rfl ?_
      simp only [ls0, ls1]
      refine sk_guard (guard_off 8 true 15 rfl rfl false (by decide) rfl) rfl ?_
      simp only [ls0, ls1]
      refine sk_guard (guard_off 8 true 15 rfl rfl false (by decide) rfl) rfl ?_
      simp only [ls0, ls1]
      refine sk_guard (guard_off 8 true 15 rfl rfl false (by decide) rfl) rfl ?_
      simp only [ls0, ls1]
      refine st (.bool false) rfl rfl (xr_pick false (.bool false) rfl rfl rfl) ?_
      simp only [ls0, ls1]
      refine st (.bool false) rfl rfl (xr_assign (.bool false) rfl rfl) ?_
      simp only [ls0, ls1]
      refine wl_end ?_
      (try simp only [Act.put, List.setIfInBounds_toArray, ls0, ls1])
      refine hK89 _ _ ?_
      (try clear hK89 K89)
      refine wp_ret ?_
      (try simp only [Exit.inBlock, Exit.then, Exit.noGoto])
      (try simp only [Act.put, List.setIfInBounds_toArray, ls0, ls1])
      obtain rfl := Option.some.inj H
      refine bodyPost_ret (results_tmp rfl _ _ _) rfl ?_
      exact ⟨_, rfl, HS⟩
  · rw [if_neg c96] at H
    (try rw [(Bool.eq_false_iff.mpr c96)])
    (try simp only [Bool.not_true, Bool.not_false])
    refine sk_guard (guard_off 3 true 10 rfl rfl false (by decide) rfl) rfl ?_
    simp only [ls0, ls1]
    refine sk_guard (guard_off 3 true 10 rfl rfl false (by decide) rfl) rfl ?_
    simp only [ls0, ls1]
    refine sk_guard (guard_off 3 true 10 rfl rfl false (by decide) rfl) rfl ?_
    simp only [ls0, ls1]
    refine st (.bool false) rfl rfl (xr_pick false (.bool false) rfl rfl rfl) ?_
    simp only [ls0, ls1]
    refine st (.bool false) rfl rfl (xr_move (.bool false) rfl rfl) ?_
    simp only [ls0, ls1]
    refine sk_guard (guard_off 8 true 15 rfl rfl false (by decide) rfl) rfl ?_
    simp only [ls0, ls1]
    refine sk_guard (guard_off 8 true 15 rfl rfl false (by decide) rfl) rfl ?_
    simp only [ls0, ls1]
    refine sk_guard (guard_off 8 true 15 rfl rfl false (by decide) rfl) rfl ?_
    simp only [ls0, ls1]
    refine sk_guard (guard_off 8 true 15 rfl rfl false (by decide) rfl) rfl ?_
    simp only [ls0, ls1]
    refine sk_guard (guard_off 8 true 15 rfl rfl false (by decide) rfl) rfl ?_
    simp only [ls0, ls1]
    refine sk_guard (guard_off 8 true 15 rfl rfl false (by decide) rfl) rfl ?_
    simp only [ls0, ls1]
    refine sk_guard (guard_off 8 true 15 rfl rfl false (by decide) rfl) rfl ?_
    simp only [ls0, ls1]
    refine sk_guard (guard_off 8 true 15 rfl rfl false (by decide) rfl) rfl ?_
    simp only [ls0, ls1]
    refine sk_guard (guard_off 8 true 15 rfl rfl false (by decide) rfl) rfl ?_
    simp only [ls0, ls1]
    refine sk_guard (guard_off 8 true 15 rfl rfl false (by decide) rfl) rfl ?_
    simp only [ls0, ls1]
    refine sk_guard (guard_off 8 true 15 rfl rfl false (by decide) rfl) rfl ?_
    simp only [ls0, ls1]
    refine st (.bool false) rfl rfl (xr_pick false (.bool false) rfl rfl rfl) ?_
    simp only [ls0, ls1]
    refine st (.bool false) rfl rfl (xr_assign (.bool false) rfl rfl) ?_
    simp only [ls0, ls1]
    refine wl_end ?_
    (try simp only [Act.put, List.setIfInBounds_toArray, ls0, ls1])
    refine hK89 _ _ ?_
    (try clear hK89 K89)
    refine wp_ret ?_
    (try simp only [Exit.inBlock, Exit.then, Exit.noGoto])
    (try simp only [Act.put, List.setIfInBounds_toArray, ls0, ls1])
    obtain rfl := Option.some.inj H
    refine bodyPost_ret (results_tmp rfl _ _ _) rfl ?_
    exact ⟨_, rfl, HS⟩

/-! ### lex_Keyword: function 24 -/
def lex_Keyword.j0 (x226 : Bool) : Option (Bool) := if x226 = true then (some true) else (some false)
def lex_Keyword.f (a0 : ByteArray) : Option (Bool) := if a0 = (⟨#[105, 109, 112, 111, 114, 116]⟩ : ByteArray) then (lex_Keyword.j0 true) else (if a0 = (⟨#[108, 97, 116, 116, 105, 99, 101]⟩ : ByteArray) then (lex_Keyword.j0 true) else (if a0 = (⟨#[101, 102, 102, 101, 99, 116, 115]⟩ : ByteArray) then (lex_Keyword.j0 true) else (if a0 = (⟨#[118, 97, 114]⟩ : ByteArray) then (lex_Keyword.j0 true) else (if a0 = (⟨#[102, 110]⟩ : ByteArray) then (lex_Keyword.j0 true) else (if a0 = (⟨#[108, 101, 116]⟩ : ByteArray) then (lex_Keyword.j0 true) else (if a0 = (⟨#[105, 102]⟩ : ByteArray) then (lex_Keyword.j0 true) else (if a0 = (⟨#[101, 108, 115, 101]⟩ : ByteArray) then (lex_Keyword.j0 true) else (if a0 = (⟨#[119, 104, 105, 108, 101]⟩ : ByteArray) then (lex_Keyword.j0 true) else (if a0 = (⟨#[114, 101, 116, 117, 114, 110]⟩ : ByteArray) then (lex_Keyword.j0 true) else (if a0 = (⟨#[100, 111]⟩ : ByteArray) then (lex_Keyword.j0 true) else (if a0 = (⟨#[116, 114, 117, 101]⟩ : ByteArray) then (lex_Keyword.j0 true) else (if a0 = (⟨#[102, 97, 108, 115, 101]⟩ : ByteArray) then (lex_Keyword.j0 true) else (if a0 = (⟨#[105, 110, 116]⟩ : ByteArray) then (lex_Keyword.j0 true) else (if a0 = (⟨#[98, 111, 111, 108]⟩ : ByteArray) then (lex_Keyword.j0 true) else (lex_Keyword.j0 (decide (a0 = (⟨#[100, 101, 99, 108, 97, 115, 115, 105, 102, 121]⟩ : ByteArray))))))))))))))))))
set_option maxHeartbeats 2000000 in
set_option maxRecDepth 100000 in
theorem lex_Keyword.calls (a0 : ByteArray) (r : Bool) (c : Nat → Nat) (w : World) (hc : ∀ k, c k < 10)  (H : lex_Keyword.f a0 = some r) :
    Calls Try.prog 24 #[.string a0] w fun e w' => ∃ (c' : Nat → Nat) , e = .returned (.bool r) ∧ Step c w c' w' [] := by
  unfold lex_Keyword.f at H
  have HS := Step.refl c w []
  go_enter Try.func24, Try.ntmps24
  refine wp_seq_k fun K188 hK188 => ?_
  refine wl_region ?_
  refine st (.bool false) rfl rfl (xr_assign (.bool false) rfl rfl) ?_
  simp only [ls0, ls1]
  refine wl_end ?_
  (try simp only [Act.put, List.setIfInBounds_toArray, ls0, ls1])
  refine hK188 _ _ ?_
  (try clear hK188 K188)
  refine wp_seq_k fun K189 hK189 => ?_
  refine wp_seq_k fun K190 hK190 => ?_
  refine wl_region ?_
  refine st (.string a0) rfl rfl (xr_move (.string a0) rfl rfl) ?_
  simp only [ls0, ls1]
  refine wl_end ?_
  (try simp only [Act.put, List.setIfInBounds_toArray, ls0, ls1])
  refine hK190 _ _ ?_
  (try clear hK190 K190)
  refine wp_block ?_
  refine wp_seq_k fun K191 hK191 => ?_
  have hj222 : ∀ (C223 : Nat → Nat) (w224 : World) (x226 : Bool) (g227 : Nat → Value), Step c w C223 w224 [] → lex_Keyword.j0 x226 = some r → K191 ⟨#[(g227 0), (g227 1), (g227 2), (g227 3), .bool x226, (g227 5), (g227 6), (g227 7), (g227 8), (g227 9), (g227 10), (g227 11), (g227 12), (g227 13), (g227 14), (g227 15), (g227 16), (g227 17), (g227 18), (g227 19), (g227 20)], []⟩ w224 := by
    intro C223 w224 x226 g227 HS225  H
    unfold lex_Keyword.j0 at H
    refine hK191 _ _ ?_
    (try clear hK191)
    by_cases c230 : x226 = true
    · rw [if_pos c230] at H
      (try rw [c230])
      (try simp only [Bool.not_true, Bool.not_false])
      refine wp_cond_true rfl ?_
      refine wp_seq_k fun K231 hK231 => ?_
      refine wl_region ?_
      refine st (.bool true) rfl rfl (xr_assign (.bool true) rfl rfl) ?_
      simp only [ls0, ls1]
      refine wl_end ?_
      (try simp only [Act.put, List.setIfInBounds_toArray, ls0, ls1])
      refine hK231 _ _ ?_
      (try clear hK231 K231)
      refine wp_ret ?_
      (try simp only [Exit.inBlock, Exit.then, Exit.noGoto])
      (try simp only [Act.put, List.setIfInBounds_toArray, ls0, ls1])
      obtain rfl := Option.some.inj H
      refine bodyPost_ret (results_tmp rfl _ _ _) rfl ?_
      exact ⟨_, rfl, HS225⟩
    · rw [if_neg c230] at H
      (try rw [(Bool.eq_false_iff.mpr c230)])
      (try simp only [Bool.not_true, Bool.not_false])
      refine wp_cond_false rfl ?_
      refine wp_skip ?_
      (try simp only [Act.put, List.setIfInBounds_toArray, ls0, ls1])
      refine hK189 _ _ ?_
      (try clear hK189 K189)
      refine wp_seq_k fun K232 hK232 => ?_
      refine wl_region ?_
      refine st (.bool false) rfl rfl (xr_assign (.bool false) rfl rfl) ?_
      simp only [ls0, ls1]
      refine wl_end ?_
      (try simp only [Act.put, List.setIfInBounds_toArray, ls0, ls1])
      refine hK232 _ _ ?_
      (try clear hK232 K232)
      refine wp_ret ?_
      (try simp only [Exit.inBlock, Exit.then, Exit.noGoto])
      (try simp only [Act.put, List.setIfInBounds_toArray, ls0, ls1])
      obtain rfl := Option.some.inj H
      refine bodyPost_ret (results_tmp rfl _ _ _) rfl ?_
      exact ⟨_, rfl, HS225⟩
  refine wp_seq_k fun K233 hK233 => ?_
  refine wl_region ?_
  refine st (.bool (decide (a0 = (⟨#[105, 109, 112, 111, 114, 116]⟩ : ByteArray)))) rfl rfl (xr_bin (.string a0) (.string (⟨#[105, 109, 112, 111, 114, 116]⟩ : ByteArray)) (.bool (decide (a0 = (⟨#[105, 109, 112, 111, 114, 116]⟩ : ByteArray)))) rfl rfl rfl (B.eql_str a0 (⟨#[105, 109, 112, 111, 114, 116]⟩ : ByteArray))) ?_
  simp only [ls0, ls1]
  refine st (.bool (decide (a0 = (⟨#[105, 109, 112, 111, 114, 116]⟩ : ByteArray)))) rfl rfl (xr_assign (.bool (decide (a0 = (⟨#[105, 109, 112, 111, 114, 116]⟩ : ByteArray)))) rfl rfl) ?_
  simp only [ls0, ls1]
  refine wl_end ?_
  (try simp only [Act.put, List.setIfInBounds_toArray, ls0, ls1])
  refine hK233 _ _ ?_
  (try clear hK233 K233)
  by_cases c234 : a0 = (⟨#[105, 109, 112, 111, 114, 116]⟩ : ByteArray)
  · rw [if_pos c234] at H
    (try rw [(decide_eq_true c234)])
    (try simp only [Bool.not_true, Bool.not_false])
    refine wp_cond_true rfl ?_
    refine wp_skip ?_
    (try simp only [Act.put, List.setIfInBounds_toArray, ls0, ls1])
    exact hj222 _ _ (true) (fun q_ => List.getD [.string a0, undef, .bool false, .string a0, undef, .bool true, undef, undef, undef, undef, undef, undef, undef, undef, undef, undef, undef, undef, undef, undef, undef] q_ undef)  HS H
  · rw [if_neg c234] at H
    (try rw [(decide_eq_false c234)])
    (try simp only [Bool.not_true, Bool.not_false])
    refine wp_cond_false rfl ?_
    refine wp_seq_k fun K235 hK235 => ?_
    refine wl_region ?_
    refine st (.bool (decide (a0 = (⟨#[108, 97, 116, 116, 105, 99, 101]⟩ : ByteArray)))) rfl rfl (xr_bin (.string a0) (.string (⟨#[108, 97, 116, 116, 105, 99, 101]⟩ : ByteArray)) (.bool (decide (a0 = (⟨#[108, 97, 116, 116, 105, 99, 101]⟩ : ByteArray)))) rfl rfl rfl (B.eql_str a0 (⟨#[108, 97, 116, 116, 105, 99, 101]⟩ : ByteArray))) ?_
    simp only [ls0, ls1]
    refine st (.bool (decide (a0 = (⟨#[108, 97, 116, 116, 105, 99, 101]⟩ : ByteArray)))) rfl rfl (xr_assign (.bool (decide (a0 = (⟨#[108, 97, 116, 116, 105, 99, 101]⟩ : ByteArray)))) rfl rfl) ?_
    simp only [ls0, ls1]
    refine wl_end ?_
    (try simp only [Act.put, List.setIfInBounds_toArray, ls0, ls1])
    refine hK235 _ _ ?_
    (try clear hK235 K235)
    by_cases c236 : a0 = (⟨#[108, 97, 116, 116, 105, 99, 101]⟩ : ByteArray)
    · rw [if_pos c236] at H
      (try rw [(decide_eq_true c236)])
      (try simp only [Bool.not_true, Bool.not_false])
      refine wp_cond_true rfl ?_
      refine wp_skip ?_
      (try simp only [Act.put, List.setIfInBounds_toArray, ls0, ls1])
      exact hj222 _ _ (true) (fun q_ => List.getD [.string a0, undef, .bool false, .string a0, undef, .bool false, .bool true, undef, undef, undef, undef, undef, undef, undef, undef, undef, undef, undef, undef, undef, undef] q_ undef)  HS H
    · rw [if_neg c236] at H
      (try rw [(decide_eq_false c236)])
      (try simp only [Bool.not_true, Bool.not_false])
      refine wp_cond_false rfl ?_
      refine wp_seq_k fun K237 hK237 => ?_
      refine wl_region ?_
      refine st (.bool (decide (a0 = (⟨#[101, 102, 102, 101, 99, 116, 115]⟩ : ByteArray)))) rfl rfl (xr_bin (.string a0) (.string (⟨#[101, 102, 102, 101, 99, 116, 115]⟩ : ByteArray)) (.bool (decide (a0 = (⟨#[101, 102, 102, 101, 99, 116, 115]⟩ : ByteArray)))) rfl rfl rfl (B.eql_str a0 (⟨#[101, 102, 102, 101, 99, 116, 115]⟩ : ByteArray))) ?_
      simp only [ls0, ls1]
      refine st (.bool (decide (a0 = (⟨#[101, 102, 102, 101, 99, 116, 115]⟩ : ByteArray)))) rfl rfl (xr_assign (.bool (decide (a0 = (⟨#[101, 102, 102, 101, 99, 116, 115]⟩ : ByteArray)))) rfl rfl) ?_
      simp only [ls0, ls1]
      refine wl_end ?_
      (try simp only [Act.put, List.setIfInBounds_toArray, ls0, ls1])
      refine hK237 _ _ ?_
      (try clear hK237 K237)
      by_cases c238 : a0 = (⟨#[101, 102, 102, 101, 99, 116, 115]⟩ : ByteArray)
      · rw [if_pos c238] at H
        (try rw [(decide_eq_true c238)])
        (try simp only [Bool.not_true, Bool.not_false])
        refine wp_cond_true rfl ?_
        refine wp_skip ?_
        (try simp only [Act.put, List.setIfInBounds_toArray, ls0, ls1])
        exact hj222 _ _ (true) (fun q_ => List.getD [.string a0, undef, .bool false, .string a0, undef, .bool false, .bool false, .bool true, undef, undef, undef, undef, undef, undef, undef, undef, undef, undef, undef, undef, undef] q_ undef)  HS H
      · rw [if_neg c238] at H
        (try rw [(decide_eq_false c238)])
        (try simp only [Bool.not_true, Bool.not_false])
        refine wp_cond_false rfl ?_
        refine wp_seq_k fun K239 hK239 => ?_
        refine wl_region ?_
        refine st (.bool (decide (a0 = (⟨#[118, 97, 114]⟩ : ByteArray)))) rfl rfl (xr_bin (.string a0) (.string (⟨#[118, 97, 114]⟩ : ByteArray)) (.bool (decide (a0 = (⟨#[118, 97, 114]⟩ : ByteArray)))) rfl rfl rfl (B.eql_str a0 (⟨#[118, 97, 114]⟩ : ByteArray))) ?_
        simp only [ls0, ls1]
        refine st (.bool (decide (a0 = (⟨#[118, 97, 114]⟩ : ByteArray)))) rfl rfl (xr_assign (.bool (decide (a0 = (⟨#[118, 97, 114]⟩ : ByteArray)))) rfl rfl) ?_
        simp only [ls0, ls1]
        refine wl_end ?_
        (try simp only [Act.put, List.setIfInBounds_toArray, ls0, ls1])
        refine hK239 _ _ ?_
        (try clear hK239 K239)
        by_cases c240 : a0 = (⟨#[118, 97, 114]⟩ : ByteArray)
        · rw [if_pos c240] at H
          (try rw [(decide_eq_true c240)])
          (try simp only [Bool.not_true, Bool.not_false])
          refine wp_cond_true rfl ?_
          refine wp_skip ?_
          (try simp only [Act.put, List.setIfInBounds_toArray, ls0, ls1])
          exact hj222 _ _ (true) (fun q_ => List.getD [.string a0, undef, .bool false, .string a0, undef, .bool false, .bool false, .bool false, .bool true, undef, undef, undef, undef, undef, undef, undef, undef, undef, undef, undef, undef] q_ undef)  HS H
        · rw [if_neg c240] at H
          (try rw [(decide_eq_false c240)])
          (try simp only [Bool.not_true, Bool.not_false])
          refine wp_cond_false rfl ?_
          refine wp_seq_k fun K241 hK241 => ?_
          refine wl_region ?_
          refine st (.bool (decide (a0 = (⟨#[102, 110]⟩ : ByteArray)))) rfl rfl (xr_bin (.string a0) (.string (⟨#[102, 110]⟩ : ByteArray)) (.bool (decide (a0 = (⟨#[102, 110]⟩ : ByteArray)))) rfl rfl rfl (B.eql_str a0 (⟨#[102, 110]⟩ : ByteArray))) ?_
          simp only [ls0, ls1]
          refine st (.bool (decide (a0 = (⟨#[102, 110]⟩ : ByteArray)))) rfl rfl (xr_assign (.bool (decide (a0 = (⟨#[102, 110]⟩ : ByteArray)))) rfl rfl) ?_
          simp only [ls0, ls1]
          refine wl_end ?_
          (try simp only [Act.put, List.setIfInBounds_toArray, ls0, ls1])
          refine hK241 _ _ ?_
          (try clear hK241 K241)
          by_cases c242 : a0 = (⟨#[102, 110]⟩ : ByteArray)
          · rw [if_pos c242] at H
            (try rw [(decide_eq_true c242)])
            (try simp only [Bool.not_true, Bool.not_false])
            refine wp_cond_true rfl ?_
            refine wp_skip ?_
            (try simp only [Act.put, List.setIfInBounds_toArray, ls0, ls1])
            exact hj222 _ _ (true) (fun q_ => List.getD [.string a0, undef, .bool false, .string a0, undef, .bool false, .bool false, .bool false, .bool false, .bool true, undef, undef, undef, undef, undef, undef, undef, undef, undef, undef, undef] q_ undef)  HS H
          · rw [if_neg c242] at H
            (try rw [(decide_eq_false c242)])
            (try simp only [Bool.not_true, Bool.not_false])
            refine wp_cond_false rfl ?_
            refine wp_seq_k fun K243 hK243 => ?_
            refine wl_region ?_
            refine st (.bool (decide (a0 = (⟨#[108, 101, 116]⟩ : ByteArray)))) rfl rfl (xr_bin (.string a0) (.string (⟨#[108, 101, 116]⟩ : ByteArray)) (.bool (decide (a0 = (⟨#[108, 101, 116]⟩ : ByteArray)))) rfl rfl rfl (B.eql_str a0 (⟨#[108, 101, 116]⟩ : ByteArray))) ?_
            simp only [ls0, ls1]
            refine st (.bool (decide (a0 = (⟨#[108, 101, 116]⟩ : ByteArray)))) rfl rfl (xr_assign (.bool (decide (a0 = (⟨#[108, 101, 116]⟩ : ByteArray)))) rfl rfl) ?_
            simp only [ls0, ls1]
            refine wl_end ?_
            (try simp only [Act.put, List.setIfInBounds_toArray, ls0, ls1])
            refine hK243 _ _ ?_
            (try clear hK243 K243)
            by_cases c244 : a0 = (⟨#[108, 101, 116]⟩ : ByteArray)
            · rw [if_pos c244] at H
              (try rw [(decide_eq_true c244)])
              (try simp only [Bool.not_true, Bool.not_false])
              refine wp_cond_true rfl ?_
              refine wp_skip ?_
              (try simp only [Act.put, List.setIfInBounds_toArray, ls0, ls1])
              exact hj222 _ _ (true) (fun q_ => List.getD [.string a0, undef, .bool false, .string a0, undef, .bool false, .bool false, .bool false, .bool false, .bool false, .bool true, undef, undef, undef, undef, undef, undef, undef, undef, undef, undef] q_ undef)  HS H
            · rw [if_neg c244] at H
              (try rw [(decide_eq_false c244)])
              (try simp only [Bool.not_true, Bool.not_false])
              refine wp_cond_false rfl ?_
              refine wp_seq_k fun K245 hK245 => ?_
              refine wl_region ?_
              refine st (.bool (decide (a0 = (⟨#[105, 102]⟩ : ByteArray)))) rfl rfl (xr_bin (.string a0) (.string (⟨#[105, 102]⟩ : ByteArray)) (.bool (decide (a0 = (⟨#[105, 102]⟩ : ByteArray)))) rfl rfl rfl (B.eql_str a0 (⟨#[105, 102]⟩ : ByteArray))) ?_
              simp only [ls0, ls1]
              refine st (.bool (decide (a0 = (⟨#[105, 102]⟩ : ByteArray)))) rfl rfl (xr_assign (.bool (decide (a0 = (⟨#[105, 102]⟩ : ByteArray)))) rfl rfl) ?_
              simp only [ls0, ls1]
              refine wl_end ?_
              (try simp only [Act.put, List.setIfInBounds_toArray, ls0, ls1])
              refine hK245 _ _ ?_
              (try clear hK245 K245)
              by_cases c246 : a0 = (⟨#[105, 102]⟩ : ByteArray)
              · rw [if_pos c246] at H
                (try rw [(decide_eq_true c246)])
                (try simp only [Bool.not_true, Bool.not_false])
                refine wp_cond_true rfl ?_
                refine wp_skip ?_
                (try simp only [Act.put, List.setIfInBounds_toArray, ls0, ls1])
                exact hj222 _ _ (true) (fun q_ => List.getD [.string a0, undef, .bool false, .string a0, undef, .bool false, .bool false, .bool false, .bool false, .bool false, .bool false, .bool true, undef, undef, undef, undef, undef, undef, undef, undef, undef] q_ undef)  HS H
              · rw [if_neg c246] at H
                (try rw [(decide_eq_false c246)])
                (try simp only [Bool.not_true, Bool.not_false])
                refine wp_cond_false rfl ?_
                refine wp_seq_k fun K247 hK247 => ?_
                refine wl_region ?_
                refine st (.bool (decide (a0 = (⟨#[101, 108, 115, 101]⟩ : ByteArray)))) rfl rfl (xr_bin (.string a0) (.string (⟨#[101, 108, 115, 101]⟩ : ByteArray)) (.bool (decide (a0 = (⟨#[101, 108, 115, 101]⟩ : ByteArray)))) rfl rfl rfl (B.eql_str a0 (⟨#[101, 108, 115, 101]⟩ : ByteArray))) ?_
                simp only [ls0, ls1]
                refine st (.bool (decide (a0 = (⟨#[101, 108, 115, 101]⟩ : ByteArray)))) rfl rfl (xr_assign (.bool (decide (a0 = (⟨#[101, 108, 115, 101]⟩ : ByteArray)))) rfl rfl) ?_
                simp only [ls0, ls1]
                refine wl_end ?_
                (try simp only [Act.put, List.setIfInBounds_toArray, ls0, ls1])
                refine hK247 _ _ ?_
                (try clear hK247 K247)
                by_cases c248 : a0 = (⟨#[101, 108, 115, 101]⟩ : ByteArray)
                · rw [if_pos c248] at H
                  (try rw [(decide_eq_true c248)])
                  (try simp only [Bool.not_true, Bool.not_false])
                  refine wp_cond_true rfl ?_
                  refine wp_skip ?_
                  (try simp only [Act.put, List.setIfInBounds_toArray, ls0, ls1])
                  exact hj222 _ _ (true) (fun q_ => List.getD [.string a0, undef, .bool false, .string a0, undef, .bool false, .bool false, .bool false, .bool false, .bool false, .bool false, .bool false, .bool true, undef, undef, undef, undef, undef, undef, undef, undef] q_ undef)  HS H
                · rw [if_neg c248] at H
                  (try rw [(decide_eq_false c248)])
                  (try simp only [Bool.not_true, Bool.not_false])
                  refine wp_cond_false rfl ?_
                  refine wp_seq_k fun K249 hK249 => ?_
                  refine wl_region ?_
                  refine st (.bool (decide (a0 = (⟨#[119, 104, 105, 108, 101]⟩ : ByteArray)))) rfl rfl (xr_bin (.string a0) (.string (⟨#[119, 104, 105, 108, 101]⟩ : ByteArray)) (.bool (decide (a0 = (⟨#[119, 104, 105, 108, 101]⟩ : ByteArray)))) rfl rfl rfl (B.eql_str a0 (⟨#[119, 104, 105, 108, 101]⟩ : ByteArray))) ?_
                  simp only [ls0, ls1]
                  refine st (.bool (decide (a0 = (⟨#[119, 104, 105, 108, 101]⟩ : ByteArray)))) rfl rfl (xr_assign (.bool (decide (a0 = (⟨#[119, 104, 105, 108, 101]⟩ : ByteArray)))) rfl rfl) ?_
                  simp only [ls0, ls1]
                  refine wl_end ?_
                  (try simp only [Act.put, List.setIfInBounds_toArray, ls0, ls1])
                  refine hK249 _ _ ?_
                  (try clear hK249 K249)
                  by_cases c250 : a0 = (⟨#[119, 104, 105, 108, 101]⟩ : ByteArray)
                  · rw [if_pos c250] at H
                    (try rw [(decide_eq_true c250)])
                    (try simp only [Bool.not_true, Bool.not_false])
                    refine wp_cond_true rfl ?_
                    refine wp_skip ?_
                    (try simp only [Act.put, List.setIfInBounds_toArray, ls0, ls1])
                    exact hj222 _ _ (true) (fun q_ => List.getD [.string a0, undef, .bool false, .string a0, undef, .bool false, .bool false, .bool false, .bool false, .bool false, .bool false, .bool false, .bool false, .bool true, undef, undef, undef, undef, undef, undef, undef] q_ undef)  HS H
                  · rw [if_neg c250] at H
                    (try rw [(decide_eq_false c250)])
                    (try simp only [Bool.not_true, Bool.not_false])
                    refine wp_cond_false rfl ?_
                    refine wp_seq_k fun K251 hK251 => ?_
                    refine wl_region ?_
                    refine st (.bool (decide (a0 = (⟨#[114, 101, 116, 117, 114, 110]⟩ : ByteArray)))) rfl rfl (xr_bin (.string a0) (.string (⟨#[114, 101, 116, 117, 114, 110]⟩ : ByteArray)) (.bool (decide (a0 = (⟨#[114, 101, 116, 117, 114, 110]⟩ : ByteArray)))) rfl rfl rfl (B.eql_str a0 (⟨#[114, 101, 116, 117, 114, 110]⟩ : ByteArray))) ?_
                    simp only [ls0, ls1]
                    refine st (.bool (decide (a0 = (⟨#[114, 101, 116, 117, 114, 110]⟩ : ByteArray)))) rfl rfl (xr_assign (.bool (decide (a0 = (⟨#[114, 101, 116, 117, 114, 110]⟩ : ByteArray)))) rfl rfl) ?_
                    simp only [ls0, ls1]
                    refine wl_end ?_
                    (try simp only [Act.put, List.setIfInBounds_toArray, ls0, ls1])
                    refine hK251 _ _ ?_
                    (try clear hK251 K251)
                    by_cases c252 : a0 = (⟨#[114, 101, 116, 117, 114, 110]⟩ : ByteArray)
                    · rw [if_pos c252] at H
                      (try rw [(decide_eq_true c252)])
                      (try simp only [Bool.not_true, Bool.not_false])
                      refine wp_cond_true rfl ?_
                      refine wp_skip ?_
                      (try simp only [Act.put, List.setIfInBounds_toArray, ls0, ls1])
                      exact hj222 _ _ (true) (fun q_ => List.getD [.string a0, undef, .bool false, .string a0, undef, .bool false, .bool false, .bool false, .bool false, .bool false, .bool false, .bool false, .bool false, .bool false, .bool true, undef, undef, undef, undef, undef, undef] q_ undef)  HS H
                    · rw [if_neg c252] at H
                      (try rw [(decide_eq_false c252)])
                      (try simp only [Bool.not_true, Bool.not_false])
                      refine wp_cond_false rfl ?_
                      refine wp_seq_k fun K253 hK253 => ?_
                      refine wl_region ?_
                      refine st (.bool (decide (a0 = (⟨#[100, 111]⟩ : ByteArray)))) rfl rfl (xr_bin (.string a0) (.string (⟨#[100, 111]⟩ : ByteArray)) (.bool (decide (a0 = (⟨#[100, 111]⟩ : ByteArray)))) rfl rfl rfl (B.eql_str a0 (⟨#[100, 111]⟩ : ByteArray))) ?_
                      simp only [ls0, ls1]
                      refine st (.bool (decide (a0 = (⟨#[100, 111]⟩ : ByteArray)))) rfl rfl (xr_assign (.bool (decide (a0 = (⟨#[100, 111]⟩ : ByteArray)))) rfl rfl) ?_
                      simp only [ls0, ls1]
                      refine wl_end ?_
                      (try simp only [Act.put, List.setIfInBounds_toArray, ls0, ls1])
                      refine hK253 _ _ ?_
                      (try clear hK253 K253)
                      by_cases c254 : a0 = (⟨#[100, 111]⟩ : ByteArray)
                      · rw [if_pos c254] at H
                        (try rw [(decide_eq_true c254)])
                        (try simp only [Bool.not_true, Bool.not_false])
                        refine wp_cond_true rfl ?_
                        refine wp_skip ?_
                        (try simp only [Act.put, List.setIfInBounds_toArray, ls0, ls1])
                        exact hj222 _ _ (true) (fun q_ => List.getD [.string a0, undef, .bool false, .string a0, undef, .bool false, .bool false, .bool false, .bool false, .bool false, .bool false, .bool false, .bool false, .bool false, .bool false, .bool true, undef, undef, undef, undef, undef] q_ undef)  HS H
                      · rw [if_neg c254] at H
                        (try rw [(decide_eq_false c254)])
                        (try simp only [Bool.not_true, Bool.not_false])
                        refine wp_cond_false rfl ?_
                        refine wp_seq_k fun K255 hK255 => ?_
                        refine wl_region ?_
                        refine st (.bool (decide (a0 = (⟨#[116, 114, 117, 101]⟩ : ByteArray)))) rfl rfl (xr_bin (.string a0) (.string (⟨#[116, 114, 117, 101]⟩ : ByteArray)) (.bool (decide (a0 = (⟨#[116, 114, 117, 101]⟩ : ByteArray)))) rfl rfl rfl (B.eql_str a0 (⟨#[116, 114, 117, 101]⟩ : ByteArray))) ?_
                        simp only [ls0, ls1]
                        refine st (.bool (decide (a0 = (⟨#[116, 114, 117, 101]⟩ : ByteArray)))) rfl rfl (xr_assign (.bool (decide (a0 = (⟨#[116, 114, 117, 101]⟩ : ByteArray)))) rfl rfl) ?_
                        simp only [ls0, ls1]
                        refine wl_end ?_
                        (try simp only [Act.put, List.setIfInBounds_toArray, ls0, ls1])
                        refine hK255 _ _ ?_
                        (try clear hK255 K255)
                        by_cases c256 : a0 = (⟨#[116, 114, 117, 101]⟩ : ByteArray)
                        · rw [if_pos c256] at H
                          (try rw [(decide_eq_true c256)])
                          (try simp only [Bool.not_true, Bool.not_false])
                          refine wp_cond_true rfl ?_
                          refine wp_skip ?_
                          (try simp only [Act.put, List.setIfInBounds_toArray, ls0, ls1])
                          exact hj222 _ _ (true) (fun q_ => List.getD [.string a0, undef, .bool false, .string a0, undef, .bool false, .bool false, .bool false, .bool false, .bool false, .bool false, .bool false, .bool false, .bool false, .bool false, .bool false, .bool true, undef, undef, undef, undef] q_ undef)  HS H
                        · rw [if_neg c256] at H
                          (try rw [(decide_eq_false c256)])
                          (try simp only [Bool.not_true, Bool.not_false])
                          refine wp_cond_false rfl ?_
                          refine wp_seq_k fun K257 hK257 => ?_
                          refine wl_region ?_
                          refine st (.bool (decide (a0 = (⟨#[102, 97, 108, 115, 101]⟩ : ByteArray)))) rfl rfl (xr_bin (.string a0) (.string (⟨#[102, 97, 108, 115, 101]⟩ : ByteArray)) (.bool (decide (a0 = (⟨#[102, 97, 108, 115, 101]⟩ : ByteArray)))) rfl rfl rfl (B.eql_str a0 (⟨#[102, 97, 108, 115, 101]⟩ : ByteArray))) ?_
                          simp only [ls0, ls1]
                          refine st (.bool (decide (a0 = (⟨#[102, 97, 108, 115, 101]⟩ : ByteArray)))) rfl rfl (xr_assign (.bool (decide (a0 = (⟨#[102, 97, 108, 115, 101]⟩ : ByteArray)))) rfl rfl) ?_
                          simp only [ls0, ls1]
                          refine wl_end ?_
                          (try simp only [Act.put, List.setIfInBounds_toArray, ls0, ls1])
                          refine hK257 _ _ ?_
                          (try clear hK257 K257)
                          by_cases c258 : a0 = (⟨#[102, 97, 108, 115, 101]⟩ : ByteArray)
                          · rw [if_pos c258] at H
                            (try rw [(decide_eq_true c258)])
                            (try simp only [Bool.not_true, Bool.not_false])
                            refine wp_cond_true rfl ?_
                            refine wp_skip ?_
                            (try simp only [Act.put, List.setIfInBounds_toArray, ls0, ls1])
                            exact hj222 _ _ (true) (fun q_ => List.getD [.string a0, undef, .bool false, .string a0, undef, .bool false, .bool false, .bool false, .bool false, .bool false, .bool false, .bool false, .bool false, .bool false, .bool false, .bool false, .bool false, .bool true, undef, undef, undef] q_ undef)  HS H
                          · rw [if_neg c258] at H
                            (try rw [(decide_eq_false c258)])
                            (try simp only [Bool.not_true, Bool.not_false])
                            refine wp_cond_false rfl ?_
                            refine wp_seq_k fun K259 hK259 => ?_
                            refine wl_region ?_
                            refine st (.bool (decide (a0 = (⟨#[105, 110, 116]⟩ : ByteArray)))) rfl rfl (xr_bin (.string a0) (.string (⟨#[105, 110, 116]⟩ : ByteArray)) (.bool (decide (a0 = (⟨#[105, 110, 116]⟩ : ByteArray)))) rfl rfl rfl (B.eql_str a0 (⟨#[105, 110, 116]⟩ : ByteArray))) ?_
                            simp only [ls0, ls1]
                            refine st (.bool (decide (a0 = (⟨#[105, 110, 116]⟩ : ByteArray)))) rfl rfl (xr_assign (.bool (decide (a0 = (⟨#[105, 110, 116]⟩ : ByteArray)))) rfl rfl) ?_
                            simp only [ls0, ls1]
                            refine wl_end ?_
                            (try simp only [Act.put, List.setIfInBounds_toArray, ls0, ls1])
                            refine hK259 _ _ ?_
                            (try clear hK259 K259)
                            by_cases c260 : a0 = (⟨#[105, 110, 116]⟩ : ByteArray)
                            · rw [if_pos c260] at H
                              (try rw [(decide_eq_true c260)])
                              (try simp only [Bool.not_true, Bool.not_false])
                              refine wp_cond_true rfl ?_
                              refine wp_skip ?_
                              (try simp only [Act.put, List.setIfInBounds_toArray, ls0, ls1])
                              exact hj222 _ _ (true) (fun q_ => List.getD [.string a0, undef, .bool false, .string a0, undef, .bool false, .bool false, .bool false, .bool false, .bool false, .bool false, .bool false, .bool false, .bool false, .bool false, .bool false, .bool false, .bool false, .bool true, undef, undef] q_ undef)  HS H
                            · rw [if_neg c260] at H
                              (try rw [(decide_eq_false c260)])
                              (try simp only [Bool.not_true, Bool.not_false])
                              refine wp_cond_false rfl ?_
                              refine wp_seq_k fun K261 hK261 => ?_
                              refine wl_region ?_
                              refine st (.bool (decide (a0 = (⟨#[98, 111, 111, 108]⟩ : ByteArray)))) rfl rfl (xr_bin (.string a0) (.string (⟨#[98, 111, 111, 108]⟩ : ByteArray)) (.bool (decide (a0 = (⟨#[98, 111, 111, 108]⟩ : ByteArray)))) rfl rfl rfl (B.eql_str a0 (⟨#[98, 111, 111, 108]⟩ : ByteArray))) ?_
                              simp only [ls0, ls1]
                              refine st (.bool (decide (a0 = (⟨#[98, 111, 111, 108]⟩ : ByteArray)))) rfl rfl (xr_assign (.bool (decide (a0 = (⟨#[98, 111, 111, 108]⟩ : ByteArray)))) rfl rfl) ?_
                              simp only [ls0, ls1]
                              refine wl_end ?_
                              (try simp only [Act.put, List.setIfInBounds_toArray, ls0, ls1])
                              refine hK261 _ _ ?_
                              (try clear hK261 K261)
                              by_cases c262 : a0 = (⟨#[98, 111, 111, 108]⟩ : ByteArray)
                              · rw [if_pos c262] at H
                                (try rw [(decide_eq_true c262)])
                                (try simp only [Bool.not_true, Bool.not_false])
                                refine wp_cond_true rfl ?_
                                refine wp_skip ?_
                                (try simp only [Act.put, List.setIfInBounds_toArray, ls0, ls1])
                                exact hj222 _ _ (true) (fun q_ => List.getD [.string a0, undef, .bool false, .string a0, undef, .bool false, .bool false, .bool false, .bool false, .bool false, .bool false, .bool false, .bool false, .bool false, .bool false, .bool false, .bool false, .bool false, .bool false, .bool true, undef] q_ undef)  HS H
                              · rw [if_neg c262] at H
                                (try rw [(decide_eq_false c262)])
                                (try simp only [Bool.not_true, Bool.not_false])
                                refine wp_cond_false rfl ?_
                                refine wl_region ?_
                                refine st (.bool (decide (a0 = (⟨#[100, 101, 99, 108, 97, 115, 115, 105, 102, 121]⟩ : ByteArray)))) rfl rfl (xr_bin (.string a0) (.string (⟨#[100, 101, 99, 108, 97, 115, 115, 105, 102, 121]⟩ : ByteArray)) (.bool (decide (a0 = (⟨#[100, 101, 99, 108, 97, 115, 115, 105, 102, 121]⟩ : ByteArray)))) rfl rfl rfl (B.eql_str a0 (⟨#[100, 101, 99, 108, 97, 115, 115, 105, 102, 121]⟩ : ByteArray))) ?_
                                simp only [ls0, ls1]
                                refine st (.bool (decide (a0 = (⟨#[100, 101, 99, 108, 97, 115, 115, 105, 102, 121]⟩ : ByteArray)))) rfl rfl (xr_assign (.bool (decide (a0 = (⟨#[100, 101, 99, 108, 97, 115, 115, 105, 102, 121]⟩ : ByteArray)))) rfl rfl) ?_
                                simp only [ls0, ls1]
                                refine wl_end ?_
                                (try simp only [Act.put, List.setIfInBounds_toArray, ls0, ls1])
                                exact hj222 _ _ (decide (a0 = (⟨#[100, 101, 99, 108, 97, 115, 115, 105, 102, 121]⟩ : ByteArray))) (fun q_ => List.getD [.string a0, undef, .bool false, .string a0, undef, .bool false, .bool false, .bool false, .bool false, .bool false, .bool false, .bool false, .bool false, .bool false, .bool false, .bool false, .bool false, .bool false, .bool false, .bool false, .bool (decide (a0 = (⟨#[100, 101, 99, 108, 97, 115, 115, 105, 102, 121]⟩ : ByteArray)))] q_ undef)  HS H

/-! ### lex_letter: function 25 -/
def lex_letter.f (a0 : Int) : Option (Bool) := if (Go.bits .or .u8 a0 32) ≥ 97 then (if (Go.bits .or .u8 a0 32) ≤ 122 then (some true) else (some (decide (a0 = 95)))) else (some (decide (a0 = 95)))
set_option maxHeartbeats 2000000 in
set_option maxRecDepth 100000 in
theorem lex_letter.calls (a0 : Int) (r : Bool) (c : Nat → Nat) (w : World) (hc : ∀ k, c k < 10)  (H : lex_letter.f a0 = some r) :
    Calls Try.prog 25 #[.int .u8 a0] w fun e w' => ∃ (c' : Nat → Nat) , e = .returned (.bool r) ∧ Step c w c' w' [] := by
  unfold lex_letter.f at H
  have HS := Step.refl c w []
  go_enter Try.func25, Try.ntmps25
  refine wp_seq_k fun K267 hK267 => ?_
  refine wl_region ?_
  refine st (.bool false) rfl rfl (xr_assign (.bool false) rfl rfl) ?_
  simp only [ls0, ls1]
  refine wl_end ?_
  (try simp only [Act.put, List.setIfInBounds_toArray, ls0, ls1])
  refine hK267 _ _ ?_
  (try clear hK267 K267)
  refine wp_seq_k fun K268 hK268 => ?_
  refine wl_region ?_
  refine st (.int .u8 a0) rfl rfl (xr_move (.int .u8 a0) rfl rfl) ?_
  simp only [ls0, ls1]
  refine st (.int .u8 (Go.bits .or .u8 a0 32)) rfl rfl (xr_bin (.int .u8 a0) (.int .u8 32) (.int .u8 (Go.bits .or .u8 a0 32)) rfl rfl rfl (B.or_u8 a0 32)) ?_
  simp only [ls0, ls1]
  refine st (.bool (decide ((Go.bits .or .u8 a0 32) ≥ 97))) rfl rfl (xr_bin (.int .u8 (Go.bits .or .u8 a0 32)) (.int .u8 97) (.bool (decide ((Go.bits .or .u8 a0 32) ≥ 97))) rfl rfl rfl (B.geq_u8 (Go.bits .or .u8 a0 32) 97)) ?_
  simp only [ls0, ls1]
  refine st (.bool (decide ((Go.bits .or .u8 a0 32) ≥ 97))) rfl rfl (xr_move (.bool (decide ((Go.bits .or .u8 a0 32) ≥ 97))) rfl rfl) ?_
  simp only [ls0, ls1]
  by_cases c269 : (Go.bits .or .u8 a0 32) ≥ 97
  · rw [if_pos c269] at H
    (try rw [(decide_eq_true c269)])
    (try simp only [Bool.not_true, Bool.not_false])
    refine on_guard (guard_on 3 true 6 rfl rfl rfl) ?_
    refine st (.int .u8 a0) rfl rfl (xr_move (.int .u8 a0) rfl rfl) ?_
    simp only [ls0, ls1]
    refine on_guard (guard_on 3 true 6 rfl rfl rfl) ?_
    refine st (.int .u8 (Go.bits .or .u8 a0 32)) rfl rfl (xr_bin (.int .u8 a0) (.int .u8 32) (.int .u8 (Go.bits .or .u8 a0 32)) rfl rfl rfl (B.or_u8 a0 32)) ?_
    simp only [ls0, ls1]
    refine on_guard (guard_on 3 true 6 rfl rfl rfl) ?_
    refine st (.bool (decide ((Go.bits .or .u8 a0 32) ≤ 122))) rfl rfl (xr_bin (.int .u8 (Go.bits .or .u8 a0 32)) (.int .u8 122) (.bool (decide ((Go.bits .or .u8 a0 32) ≤ 122))) rfl rfl rfl (B.leq_u8 (Go.bits .or .u8 a0 32) 122)) ?_
    simp only [ls0, ls1]
    refine st (.bool (decide ((Go.bits .or .u8 a0 32) ≤ 122))) rfl rfl (xr_pick true (.bool (decide ((Go.bits .or .u8 a0 32) ≤ 122))) rfl rfl rfl) ?_
    simp only [ls0, ls1]
    refine st (.bool (decide ((Go.bits .or .u8 a0 32) ≤ 122))) rfl rfl (xr_move (.bool (decide ((Go.bits .or .u8 a0 32) ≤ 122))) rfl rfl) ?_
    simp only [ls0, ls1]
    by_cases c270 : (Go.bits .or .u8 a0 32) ≤ 122
    · rw [if_pos c270] at H
      (try rw [(decide_eq_true c270)])
      (try simp only [Bool.not_true, Bool.not_false])
      refine sk_guard (guard_off 8 false 11 rfl rfl true (by decide) rfl) rfl ?_
      simp only [ls0, ls1]
      refine sk_guard (guard_off 8 false 11 rfl rfl true (by decide) rfl) rfl ?_
      simp only [ls0, ls1]
      refine st (.bool true) rfl rfl (xr_pick true (.bool true) rfl rfl rfl) ?_
      simp only [ls0, ls1]
      refine st (.bool true) rfl rfl (xr_assign (.bool true) rfl rfl) ?_
      simp only [ls0, ls1]
      refine wl_end ?_
      (try simp only [Act.put, List.setIfInBounds_toArray, ls0, ls1])
      refine hK268 _ _ ?_
      (try clear hK268 K268)
      refine wp_ret ?_
      (try simp only [Exit.inBlock, Exit.then, Exit.noGoto])
      (try simp only [Act.put, List.setIfInBounds_toArray, ls0, ls1])
      obtain rfl := Option.some.inj H
      refine bodyPost_ret (results_tmp rfl _ _ _) rfl ?_
      exact ⟨_, rfl, HS⟩
    · rw [if_neg c270] at H
      (try rw [(decide_eq_false c270)])
      (try simp only [Bool.not_true, Bool.not_false])
      refine on_guard (guard_on 8 false 11 rfl rfl rfl) ?_
      refine st (.int .u8 a0) rfl rfl (xr_move (.int .u8 a0) rfl rfl) ?_
      simp only [ls0, ls1]
      refine on_guard (guard_on 8 false 11 rfl rfl rfl) ?_
      refine st (.bool (decide (a0 = 95))) rfl rfl (xr_bin (.int .u8 a0) (.int .u8 95) (.bool (decide (a0 = 95))) rfl rfl rfl (B.eql_u8 a0 95)) ?_
      simp only [ls0, ls1]
      refine st (.bool (decide (a0 = 95))) rfl rfl (xr_pick false (.bool (decide (a0 = 95))) rfl rfl rfl) ?_
      simp only [ls0, ls1]
      refine st (.bool (decide (a0 = 95))) rfl rfl (xr_assign (.bool (decide (a0 = 95))) rfl rfl) ?_
      simp only [ls0, ls1]
      refine wl_end ?_
      (try simp only [Act.put, List.setIfInBounds_toArray, ls0, ls1])
      refine hK268 _ _ ?_
      (try clear hK268 K268)
      refine wp_ret ?_
      (try simp only [Exit.inBlock, Exit.then, Exit.noGoto])
      (try simp only [Act.put, List.setIfInBounds_toArray, ls0, ls1])
      obtain rfl := Option.some.inj H
      refine bodyPost_ret (results_tmp rfl _ _ _) rfl ?_
      exact ⟨_, rfl, HS⟩
  · rw [if_neg c269] at H
    (try rw [(decide_eq_false c269)])
    (try simp only [Bool.not_true, Bool.not_false])
    refine sk_guard (guard_off 3 true 6 rfl rfl false (by decide) rfl) rfl ?_
    simp only [ls0, ls1]
    refine sk_guard (guard_off 3 true 6 rfl rfl false (by decide) rfl) rfl ?_
    simp only [ls0, ls1]
    refine sk_guard (guard_off 3 true 6 rfl rfl false (by decide) rfl) rfl ?_
    simp only [ls0, ls1]
    refine st (.bool false) rfl rfl (xr_pick false (.bool false) rfl rfl rfl) ?_
    simp only [ls0, ls1]
    refine st (.bool false) rfl rfl (xr_move (.bool false) rfl rfl) ?_
    simp only [ls0, ls1]
    refine on_guard (guard_on 8 false 11 rfl rfl rfl) ?_
    refine st (.int .u8 a0) rfl rfl (xr_move (.int .u8 a0) rfl rfl) ?_
    simp only [ls0, ls1]
    refine on_guard (guard_on 8 false 11 rfl rfl rfl) ?_
    refine st (.bool (decide (a0 = 95))) rfl rfl (xr_bin (.int .u8 a0) (.int .u8 95) (.bool (decide (a0 = 95))) rfl rfl rfl (B.eql_u8 a0 95)) ?_
    simp only [ls0, ls1]
    refine st (.bool (decide (a0 = 95))) rfl rfl (xr_pick false (.bool (decide (a0 = 95))) rfl rfl rfl) ?_
    simp only [ls0, ls1]
    refine st (.bool (decide (a0 = 95))) rfl rfl (xr_assign (.bool (decide (a0 = 95))) rfl rfl) ?_
    simp only [ls0, ls1]
    refine wl_end ?_
    (try simp only [Act.put, List.setIfInBounds_toArray, ls0, ls1])
    refine hK268 _ _ ?_
    (try clear hK268 K268)
    refine wp_ret ?_
    (try simp only [Exit.inBlock, Exit.then, Exit.noGoto])
    (try simp only [Act.put, List.setIfInBounds_toArray, ls0, ls1])
    obtain rfl := Option.some.inj H
    refine bodyPost_ret (results_tmp rfl _ _ _) rfl ?_
    exact ⟨_, rfl, HS⟩

/-! ### lex_digit: function 28 -/
def lex_digit.f (a0 : Int) : Option (Bool) := if a0 ≥ 48 then (some (decide (a0 ≤ 57))) else (some false)
set_option maxHeartbeats 2000000 in
set_option maxRecDepth 100000 in
theorem lex_digit.calls (a0 : Int) (r : Bool) (c : Nat → Nat) (w : World) (hc : ∀ k, c k < 10)  (H : lex_digit.f a0 = some r) :
    Calls Try.prog 28 #[.int .u8 a0] w fun e w' => ∃ (c' : Nat → Nat) , e = .returned (.bool r) ∧ Step c w c' w' [] := by
  unfold lex_digit.f at H
  have HS := Step.refl c w []
  go_enter Try.func28, Try.ntmps28
  refine wp_seq_k fun K333 hK333 => ?_
  refine wl_region ?_
  refine st (.bool false) rfl rfl (xr_assign (.bool false) rfl rfl) ?_
  simp only [ls0, ls1]
  refine wl_end ?_
  (try simp only [Act.put, List.setIfInBounds_toArray, ls0, ls1])
  refine hK333 _ _ ?_
  (try clear hK333 K333)
  refine wp_seq_k fun K334 hK334 => ?_
  refine wl_region ?_
  refine st (.int .u8 a0) rfl rfl (xr_move (.int .u8 a0) rfl rfl) ?_
  simp only [ls0, ls1]
  refine st (.bool (decide (a0 ≥ 48))) rfl rfl (xr_bin (.int .u8 a0) (.int .u8 48) (.bool (decide (a0 ≥ 48))) rfl rfl rfl (B.geq_u8 a0 48)) ?_
  simp only [ls0, ls1]
  refine st (.bool (decide (a0 ≥ 48))) rfl rfl (xr_move (.bool (decide (a0 ≥ 48))) rfl rfl) ?_
  simp only [ls0, ls1]
  by_cases c335 : a0 ≥ 48
  · rw [if_pos c335] at H
    (try rw [(decide_eq_true c335)])
    (try simp only [Bool.not_true, Bool.not_false])
    refine on_guard (guard_on 2 true 5 rfl rfl rfl) ?_
    refine st (.int .u8 a0) rfl rfl (xr_move (.int .u8 a0) rfl rfl) ?_
    simp only [ls0, ls1]
    refine on_guard (guard_on 2 true 5 rfl rfl rfl) ?_
    refine st (.bool (decide (a0 ≤ 57))) rfl rfl (xr_bin (.int .u8 a0) (.int .u8 57) (.bool (decide (a0 ≤ 57))) rfl rfl rfl (B.leq_u8 a0 57)) ?_
    simp only [ls0, ls1]
    refine st (.bool (decide (a0 ≤ 57))) rfl rfl (xr_pick true (.bool (decide (a0 ≤ 57))) rfl rfl rfl) ?_
    simp only [ls0, ls1]
    refine st (.bool (decide (a0 ≤ 57))) rfl rfl (xr_assign (.bool (decide (a0 ≤ 57))) rfl rfl) ?_
    simp only [ls0, ls1]
    refine wl_end ?_
    (try simp only [Act.put, List.setIfInBounds_toArray, ls0, ls1])
    refine hK334 _ _ ?_
    (try clear hK334 K334)
    refine wp_ret ?_
    (try simp only [Exit.inBlock, Exit.then, Exit.noGoto])
    (try simp only [Act.put, List.setIfInBounds_toArray, ls0, ls1])
    obtain rfl := Option.some.inj H
    refine bodyPost_ret (results_tmp rfl _ _ _) rfl ?_
    exact ⟨_, rfl, HS⟩
  · rw [if_neg c335] at H
    (try rw [(decide_eq_false c335)])
    (try simp only [Bool.not_true, Bool.not_false])
    refine sk_guard (guard_off 2 true 5 rfl rfl false (by decide) rfl) rfl ?_
    simp only [ls0, ls1]
    refine sk_guard (guard_off 2 true 5 rfl rfl false (by decide) rfl) rfl ?_
    simp only [ls0, ls1]
    refine st (.bool false) rfl rfl (xr_pick false (.bool false) rfl rfl rfl) ?_
    simp only [ls0, ls1]
    refine st (.bool false) rfl rfl (xr_assign (.bool false) rfl rfl) ?_
    simp only [ls0, ls1]
    refine wl_end ?_
    (try simp only [Act.put, List.setIfInBounds_toArray, ls0, ls1])
    refine hK334 _ _ ?_
    (try clear hK334 K334)
    refine wp_ret ?_
    (try simp only [Exit.inBlock, Exit.then, Exit.noGoto])
    (try simp only [Act.put, List.setIfInBounds_toArray, ls0, ls1])
    obtain rfl := Option.some.inj H
    refine bodyPost_ret (results_tmp rfl _ _ _) rfl ?_
    exact ⟨_, rfl, HS⟩

/-! ### lex_Ident_1: function 27 -/
def lex_Ident_1.f (a0 : Int) : Option (Bool) := (lex_letter.f a0).bind fun t344 => (if t344 = true then (some true) else ((lex_digit.f a0).bind fun t351 => (some t351)))
set_option maxHeartbeats 2000000 in
set_option maxRecDepth 100000 in
theorem lex_Ident_1.calls (a0 : Int) (r : Bool) (c : Nat → Nat) (w : World) (hc : ∀ k, c k < 10)  (H : lex_Ident_1.f a0 = some r) :
    Calls Try.prog 27 #[.int .u8 a0] w fun e w' => ∃ (c' : Nat → Nat) , e = .returned (.bool r) ∧ Step c w c' w' [] := by
  unfold lex_Ident_1.f at H
  have HS := Step.refl c w []
  go_enter Try.func27, Try.ntmps27
  refine wp_seq_k fun K342 hK342 => ?_
  refine wl_region ?_
  refine st (.bool false) rfl rfl (xr_assign (.bool false) rfl rfl) ?_
  simp only [ls0, ls1]
  refine wl_end ?_
  (try simp only [Act.put, List.setIfInBounds_toArray, ls0, ls1])
  refine hK342 _ _ ?_
  (try clear hK342 K342)
  refine wp_seq_k fun K343 hK343 => ?_
  refine wl_region ?_
  refine st (.int .u8 a0) rfl rfl (xr_move (.int .u8 a0) rfl rfl) ?_
  simp only [ls0, ls1]
  obtain ⟨t344, A345, H⟩ := Option.bind_eq_some_iff.mp H
  (try dsimp only at H)
  refine st_call #[.int .u8 a0] rfl rfl Try.func25 (by kernel_rfl) rfl rfl (by simp only [List.map_toArray, List.map_cons, List.map_nil]; first | done | rfl) ?_
  refine (lex_letter.calls a0 t344  (fun z_ => pal [(0, 0)] (c z_)) w (fun _ => pal_lt rfl _) A345).mono ?_
  rintro _ w347 ⟨C348, rfl, hs349⟩
  refine ⟨_, rfl, ?_⟩
  replace hs349 := Step.lift (U := [(0, 0)]) hs349 [] rfl rfl
  generalize up c C348 w.heap.size [(0, 0)] = C348_ at hs349
  replace HS := HS.trans hs349 hc rfl
  (try simp only [Act.put, List.setIfInBounds_toArray, ls0, ls1])
  refine st (.bool t344) rfl rfl (xr_move (.bool t344) rfl rfl) ?_
  simp only [ls0, ls1]
  by_cases c350 : t344 = true
  · rw [if_pos c350] at H
    (try rw [c350])
    (try simp only [Bool.not_true, Bool.not_false])
    refine sk_guard (guard_off 2 false 5 rfl rfl true (by decide) rfl) rfl ?_
    simp only [ls0, ls1]
    refine sk_guard (guard_off 2 false 5 rfl rfl true (by decide) rfl) rfl ?_
    simp only [ls0, ls1]
    refine st (.bool true) rfl rfl (xr_pick true (.bool true) rfl rfl rfl) ?_
    simp only [ls0, ls1]
    refine st (.bool true) rfl rfl (xr_assign (.bool true) rfl rfl) ?_
    simp only [ls0, ls1]
    refine wl_end ?_
    (try simp only [Act.put, List.setIfInBounds_toArray, ls0, ls1])
    refine hK343 _ _ ?_
    (try clear hK343 K343)
    refine wp_ret ?_
    (try simp only [Exit.inBlock, Exit.then, Exit.noGoto])
    (try simp only [Act.put, List.setIfInBounds_toArray, ls0, ls1])
    obtain rfl := Option.some.inj H
    refine bodyPost_ret (results_tmp rfl _ _ _) rfl ?_
    exact ⟨_, rfl, HS⟩
  · rw [if_neg c350] at H
    (try rw [(Bool.eq_false_iff.mpr c350)])
    (try simp only [Bool.not_true, Bool.not_false])
    refine on_guard (guard_on 2 false 5 rfl rfl rfl) ?_
    refine st (.int .u8 a0) rfl rfl (xr_move (.int .u8 a0) rfl rfl) ?_
    simp only [ls0, ls1]
    refine on_guard (guard_on 2 false 5 rfl rfl rfl) ?_
    obtain ⟨t351, A352, H⟩ := Option.bind_eq_some_iff.mp H
    (try dsimp only at H)
    refine st_call #[.int .u8 a0] rfl rfl Try.func28 (by kernel_rfl) rfl rfl (by simp only [List.map_toArray, List.map_cons, List.map_nil]; first | done | rfl) ?_
    refine (lex_digit.calls a0 t351  (fun z_ => pal [(0, 0)] (C348_ z_)) w347 (fun _ => pal_lt rfl _) A352).mono ?_
    rintro _ w354 ⟨C355, rfl, hs356⟩
    refine ⟨_, rfl, ?_⟩
    replace hs356 := Step.lift (U := [(0, 0)]) hs356 [] rfl rfl
    generalize up C348_ C355 w347.heap.size [(0, 0)] = C355_ at hs356
    replace HS := HS.trans hs356 hc rfl
    (try simp only [Act.put, List.setIfInBounds_toArray, ls0, ls1])
    refine st (.bool t351) rfl rfl (xr_pick false (.bool t351) rfl rfl rfl) ?_
    simp only [ls0, ls1]
    refine st (.bool t351) rfl rfl (xr_assign (.bool t351) rfl rfl) ?_
    simp only [ls0, ls1]
    refine wl_end ?_
    (try simp only [Act.put, List.setIfInBounds_toArray, ls0, ls1])
    refine hK343 _ _ ?_
    (try clear hK343 K343)
    refine wp_ret ?_
    (try simp only [Exit.inBlock, Exit.then, Exit.noGoto])
    (try simp only [Act.put, List.setIfInBounds_toArray, ls0, ls1])
    obtain rfl := Option.some.inj H
    refine bodyPost_ret (results_tmp rfl _ _ _) rfl ?_
    exact ⟨_, rfl, HS⟩

/-! ### lex_run_lex_Ident_1: function 26 -/
mutual
def lex_run_lex_Ident_1.j0 : Nat → (List Int) → Int → Bool → Option (Int)
  | 0, _, _, _ => none
  | k + 1, l0, x538, x566 => if x566 = true then (lex_run_lex_Ident_1.l0 k l0 (wrap64 (x538 + 1))) else (some x538)
def lex_run_lex_Ident_1.l0 : Nat → (List Int) → Int → Option (Int)
  | 0, _, _ => none
  | k + 1, l0, x538 => if x538 < (l0.length : Int) then (if 0 ≤ x538 then ((lex_Ident_1.f (rd l0 x538)).bind fun t577 => (lex_run_lex_Ident_1.j0 k l0 x538 t577)) else (none)) else (lex_run_lex_Ident_1.j0 k l0 x538 false)
end
def lex_run_lex_Ident_1.f (k : Nat) (l0 : List Int) : Option (Int) := lex_run_lex_Ident_1.l0 k l0 0

set_option maxHeartbeats 2000000 in
set_option maxRecDepth 100000 in
theorem lex_run_lex_Ident_1.calls (k : Nat) (A0 : Option Addr) (c0 : Nat) (l0 : List Int) (r : Int) (c : Nat → Nat) (w : World) (hc : ∀ k, c k < 10) (HP0 : Ft c [0] w (fun w_ => (Kd.int .u8).C w_ A0 l0.length l0)) (HCP0 : l0.length ≤ c0) (H : lex_run_lex_Ident_1.f k l0 = some r) :
    Calls Try.prog 26 #[.slice A0 l0.length c0, .func (.func 27) #[] #[]] w fun e w' => ∃ (c' : Nat → Nat) , e = .returned (.int .i64 r) ∧ Step c w c' w' [] := by
  unfold lex_run_lex_Ident_1.f at H
  have HS := Step.refl c w []
  go_enter Try.func26, Try.ntmps26
  refine wp_seq_k fun K465 hK465 => ?_
  refine wl_region ?_
  refine st (.int .i64 0) rfl rfl (xr_assign (.int .i64 0) rfl rfl) ?_
  simp only [ls0, ls1]
  refine wl_end ?_
  (try simp only [Act.put, List.setIfInBounds_toArray, ls0, ls1])
  refine hK465 _ _ ?_
  (try clear hK465 K465)
  refine wp_seq_k fun K466 hK466 => ?_
  refine wl_region ?_
  refine st (.int .i64 0) rfl rfl (xr_assign (.int .i64 0) rfl rfl) ?_
  simp only [ls0, ls1]
  refine wl_end ?_
  (try simp only [Act.put, List.setIfInBounds_toArray, ls0, ls1])
  refine hK466 _ _ ?_
  (try clear hK466 K466)
  refine wp_seq_k fun K467 hK467 => ?_
  refine wp_block ?_
  (try simp only [Act.put, List.setIfInBounds_toArray, ls0, ls1])
  refine wp_looped (looped_ind (fun kq542 a_ w541 => ∃ (C540 : Nat → Nat) (x538 : Int) (g539 : Nat → Value), a_ = ⟨#[.slice A0 l0.length c0, .func (.func 27) #[] #[], (g539 2), (g539 3), (g539 4), .int .i64 x538, (g539 6), (g539 7), (g539 8), (g539 9), (g539 10), (g539 11), (g539 12), (g539 13), (g539 14), (g539 15), (g539 16), (g539 17), (g539 18), (g539 19), (g539 20)], []⟩ ∧ Step c w C540 w541 [] ∧ kq542 ≤ k ∧ (Ft C540 [0] w541 (fun w_ => (Kd.int .u8).C w_ A0 l0.length l0)) ∧ lex_run_lex_Ident_1.l0 kq542 l0 x538 = some r) ?step k _ _ ?init)
  case init =>
    exact ⟨_, 0, (fun q_ => List.getD [undef, undef, undef, undef, .int .i64 0, undef, undef, undef, undef, undef, undef, undef, undef, undef, undef, undef, undef, undef, undef, undef, undef] q_ undef), rfl, HS, Nat.le_refl _, HP0, H⟩
  case step =>
    intro kq542 ih545 a546 w541 hr547
    obtain ⟨C540, x538, g539, rfl, HS543, hk544, HJ537, H⟩ := hr547
    refine looped_round ?_
    cases kq542 with
    | zero => exact absurd H (by simp [lex_run_lex_Ident_1.l0])
    | succ k548 =>
      simp only [lex_run_lex_Ident_1.l0] at H
      refine wp_seq_k fun K549 hK549 => ?_
      refine wp_seq_k fun K550 hK550 => ?_
      have hj561 : ∀ (kq568 : Nat) (C562 : Nat → Nat) (w563 : World) (x566 : Bool) (g567 : Nat → Value), Step c w C562 w563 [] → kq568 ≤ k548 → (Ft C562 [0] w563 (fun w_ => (Kd.int .u8).C w_ A0 l0.length l0)) → lex_run_lex_Ident_1.j0 kq568 l0 x538 x566 = some r → K550 ⟨#[.slice A0 l0.length c0, .func (.func 27) #[] #[], (g567 2), (g567 3), (g567 4), .int .i64 x538, (g567 6), (g567 7), (g567 8), (g567 9), (g567 10), (g567 11), (g567 12), (g567 13), (g567 14), (g567 15), (g567 16), .bool x566, (g567 18), (g567 19), (g567 20)], []⟩ w563 := by
        intro kq568 C562 w563 x566 g567 HS564 hk569 HJ565 H
        cases kq568 with
        | zero => exact absurd H (by simp [lex_run_lex_Ident_1.j0])
        | succ k570 =>
          simp only [lex_run_lex_Ident_1.j0] at H
          refine hK550 _ _ ?_
          (try clear hK550)
          by_cases c571 : x566 = true
          · rw [if_pos c571] at H
            (try rw [c571])
            (try simp only [Bool.not_true, Bool.not_false])
            refine wp_cond_true rfl ?_
            refine wp_skip ?_
            (try simp only [Act.put, List.setIfInBounds_toArray, ls0, ls1])
            refine hK549 _ _ ?_
            (try clear hK549 K549)
            refine wp_block ?_
            refine wl_region ?_
            refine st (.int .i64 x538) rfl rfl (xr_move (.int .i64 x538) rfl rfl) ?_
            simp only [ls0, ls1]
            refine st (.int .i64 (wrap64 (x538 + 1))) rfl rfl (xr_bin (.int .i64 x538) (.int .i64 1) (.int .i64 (wrap64 (x538 + 1))) rfl rfl rfl (B.add_i64 x538 1)) ?_
            simp only [ls0, ls1]
            refine st (.int .i64 (wrap64 (x538 + 1))) rfl rfl (xr_assign (.int .i64 (wrap64 (x538 + 1))) rfl rfl) ?_
            simp only [ls0, ls1]
            refine wl_end ?_
            (try simp only [Act.put, List.setIfInBounds_toArray, ls0, ls1])
            exact ih545 k570 (by omega) _ _ ⟨_, wrap64 (x538 + 1), (fun q_ => List.getD [undef, undef, (g567 2), (g567 3), (g567 4), undef, (g567 6), (g567 7), (g567 8), (g567 9), (g567 10), (g567 11), (g567 12), (g567 13), (g567 14), (g567 15), (g567 16), .bool true, .int .i64 x538, .int .i64 (wrap64 (x538 + 1)), (g567 20)] q_ undef), rfl, HS564, (by omega), HJ565, H⟩
          · rw [if_neg c571] at H
            (try rw [(Bool.eq_false_iff.mpr c571)])
            (try simp only [Bool.not_true, Bool.not_false])
            refine wp_cond_false rfl ?_
            refine wp_exit ?_
            (try simp only [Act.put, List.setIfInBounds_toArray, ls0, ls1])
            refine hK467 _ _ ?_
            (try clear hK467 K467)
            refine wp_seq_k fun K572 hK572 => ?_
            refine wl_region ?_
            refine st (.int .i64 x538) rfl rfl (xr_move (.int .i64 x538) rfl rfl) ?_
            simp only [ls0, ls1]
            refine st (.int .i64 x538) rfl rfl (xr_assign (.int .i64 x538) rfl rfl) ?_
            simp only [ls0, ls1]
            refine wl_end ?_
            (try simp only [Act.put, List.setIfInBounds_toArray, ls0, ls1])
            refine hK572 _ _ ?_
            (try clear hK572 K572)
            refine wp_ret ?_
            (try simp only [Exit.inBlock, Exit.then, Exit.noGoto])
            (try simp only [Act.put, List.setIfInBounds_toArray, ls0, ls1])
            obtain rfl := Option.some.inj H
            refine bodyPost_ret (results_tmp rfl _ _ _) rfl ?_
            exact ⟨_, rfl, HS564⟩
      refine wl_region ?_
      refine st (.int .i64 x538) rfl rfl (xr_move (.int .i64 x538) rfl rfl) ?_
      simp only [ls0, ls1]
      refine st (.slice A0 l0.length c0) rfl rfl (xr_move (.slice A0 l0.length c0) rfl rfl) ?_
      simp only [ls0, ls1]
      refine st (.int .i64 (l0.length : Int)) rfl rfl (xr_builtin #[.slice A0 l0.length c0] (.int .i64 (l0.length : Int)) rfl (by simp only [List.map_toArray, List.map_cons, List.map_nil]; first | done | rfl) (by first | rfl | (go_simp; done) | (go_simp; rfl) | (go_simp; exact i64_w _) | (go_simp; exact i32_w _))) ?_
      simp only [ls0, ls1]
      refine st (.bool (decide (x538 < (l0.length : Int)))) rfl rfl (xr_bin (.int .i64 x538) (.int .i64 (l0.length : Int)) (.bool (decide (x538 < (l0.length : Int)))) rfl rfl rfl (B.lss_i64 x538 (l0.length : Int))) ?_
      simp only [ls0, ls1]
      refine st (.bool (decide (x538 < (l0.length : Int)))) rfl rfl (xr_move (.bool (decide (x538 < (l0.length : Int)))) rfl rfl) ?_
      simp only [ls0, ls1]
      by_cases c573 : x538 < (l0.length : Int)
      · rw [if_pos c573] at H
        (try rw [(decide_eq_true c573)])
        (try simp only [Bool.not_true, Bool.not_false])
        refine on_guard (guard_on 4 true 10 rfl rfl rfl) ?_
        refine st (.func (.func 27) #[] #[]) rfl rfl (xr_move (.func (.func 27) #[] #[]) rfl rfl) ?_
        simp only [ls0, ls1]
        refine on_guard (guard_on 4 true 10 rfl rfl rfl) ?_
        refine st (.slice A0 l0.length c0) rfl rfl (xr_move (.slice A0 l0.length c0) rfl rfl) ?_
        simp only [ls0, ls1]
        refine on_guard (guard_on 4 true 10 rfl rfl rfl) ?_
        refine st (.int .i64 x538) rfl rfl (xr_move (.int .i64 x538) rfl rfl) ?_
        simp only [ls0, ls1]
        refine on_guard (guard_on 4 true 10 rfl rfl rfl) ?_
        by_cases c574 : 0 ≤ x538
        · rw [if_pos c574] at H
          obtain ⟨ad575, hA576⟩ := c_addr (Ft.now HJ537) (pos_of (j := x538) (by first | assumption | decide) (by first | assumption | omega))
          refine st (.pointer (some (ad575.add ((x538 : Int).toNat * 1)))) rfl rfl (xr_indexAddr (.slice A0 l0.length c0) (.int .i64 x538) (.pointer (some (ad575.add ((x538 : Int).toNat * 1)))) rfl rfl rfl (index_at Try.underlying42 info5 hA576 (by first | assumption | decide | omega) (by first | assumption | decide | omega))) ?_
          simp only [ls0, ls1]
          refine on_guard (guard_on 4 true 10 rfl rfl rfl) ?_
          refine st (.int .u8 (rd l0 x538)) rfl rfl (xr_load (.pointer (some (ad575.add ((x538 : Int).toNat * 1)))) (.int .u8 (rd l0 x538)) rfl rfl (load_int Try.underlying5 rfl hA576 (Ft.now HJ537) (by first | assumption | decide | omega) (by first | assumption | decide | omega))) ?_
          simp only [ls0, ls1]
          refine on_guard (guard_on 4 true 10 rfl rfl rfl) ?_
          obtain ⟨t577, A578, H⟩ := Option.bind_eq_some_iff.mp H
          (try dsimp only at H)
          refine st_callV #[.int .u8 (rd l0 x538)] #[] #[.int .u8 (rd l0 x538)] rfl rfl Try.func27 (by kernel_rfl) rfl rfl rfl (by simp only [List.map_toArray, List.map_cons, List.map_nil]; first | done | rfl) (by rfl) ?_
          refine (lex_Ident_1.calls (rd l0 x538) t577  (fun z_ => pal [(0, 0)] (C540 z_)) w541 (fun _ => pal_lt rfl _) A578).mono ?_
          rintro _ w580 ⟨C581, rfl, hs582⟩
          refine ⟨_, rfl, ?_⟩
          replace hs582 := Step.lift (U := [(0, 0)]) hs582 [] rfl rfl
          generalize up C540 C581 w541.heap.size [(0, 0)] = C581_ at hs582
          replace HJ537 := HJ537.thru hs582 rfl
          replace HS543 := HS543.trans hs582 hc rfl
          (try simp only [Act.put, List.setIfInBounds_toArray, ls0, ls1])
          refine st (.bool t577) rfl rfl (xr_pick true (.bool t577) rfl rfl rfl) ?_
          simp only [ls0, ls1]
          refine wl_end ?_
          (try simp only [Act.put, List.setIfInBounds_toArray, ls0, ls1])
          exact hj561 _ _ _ (t577) (fun q_ => List.getD [undef, undef, (g539 2), (g539 3), (g539 4), undef, .int .i64 x538, .slice A0 l0.length c0, .int .i64 (l0.length : Int), .bool true, .bool true, .func (.func 27) #[] #[], .slice A0 l0.length c0, .int .i64 x538, .pointer (some (ad575.add ((x538 : Int).toNat * 1))), .int .u8 (rd l0 x538), .bool t577, undef, (g539 18), (g539 19), (g539 20)] q_ undef)  HS543 (by omega) HJ537 H
        · rw [if_neg c574] at H
          exact absurd H (by simp)
      · rw [if_neg c573] at H
        (try rw [(decide_eq_false c573)])
        (try simp only [Bool.not_true, Bool.not_false])
        refine sk_guard (guard_off 4 true 10 rfl rfl false (by decide) rfl) rfl ?_
        simp only [ls0, ls1]
        refine sk_guard (guard_off 4 true 10 rfl rfl false (by decide) rfl) rfl ?_
        simp only [ls0, ls1]
        refine sk_guard (guard_off 4 true 10 rfl rfl false (by decide) rfl) rfl ?_
        simp only [ls0, ls1]
        refine sk_guard (guard_off 4 true 10 rfl rfl false (by decide) rfl) rfl ?_
        simp only [ls0, ls1]
        refine sk_guard (guard_off 4 true 10 rfl rfl false (by decide) rfl) rfl ?_
        simp only [ls0, ls1]
        refine sk_guard (guard_off 4 true 10 rfl rfl false (by decide) rfl) rfl ?_
        simp only [ls0, ls1]
        refine st (.bool false) rfl rfl (xr_pick false (.bool false) rfl rfl rfl) ?_
        simp only [ls0, ls1]
        refine wl_end ?_
        (try simp only [Act.put, List.setIfInBounds_toArray, ls0, ls1])
        exact hj561 _ _ _ (false) (fun q_ => List.getD [undef, undef, (g539 2), (g539 3), (g539 4), undef, .int .i64 x538, .slice A0 l0.length c0, .int .i64 (l0.length : Int), .bool false, .bool false, undef, undef, undef, undef, undef, undef, undef, (g539 18), (g539 19), (g539 20)] q_ undef)  HS543 (by omega) HJ537 H

/-! ### lex_Ident: function 22 -/
def lex_Ident.j0 : Nat → ByteArray → Bool → Option (Bool)
  | 0, _, _ => none
  | k + 1, a0, x669 => if x669 = true then (some false) else (if a0.size ≤ 9223372036854775807 then ((some (bytesOf a0 : List Int)).bind fun y678 => ((lex_run_lex_Ident_1.f k y678).bind fun t687 => (some (decide (t687 = (a0.size : Int)))))) else (none))
def lex_Ident.f (k : Nat) (a0 : ByteArray) : Option (Bool) := if a0 = (⟨#[]⟩ : ByteArray) then (lex_Ident.j0 k a0 true) else (if (a0.size : Int) > 24 then (lex_Ident.j0 k a0 true) else ((lex_Keyword.f a0).bind fun t695 => (if t695 = true then (lex_Ident.j0 k a0 true) else (if 0 < (a0.size : Int) then ((lex_letter.f (bt a0 0)).bind fun t703 => (lex_Ident.j0 k a0 (!t703))) else (none)))))

set_option maxHeartbeats 2000000 in
set_option maxRecDepth 100000 in
theorem lex_Ident.calls (k : Nat) (a0 : ByteArray) (r : Bool) (c : Nat → Nat) (w : World) (hc : ∀ k, c k < 10)  (H : lex_Ident.f k a0 = some r) :
    Calls Try.prog 22 #[.string a0] w fun e w' => ∃ (c' : Nat → Nat) , e = .returned (.bool r) ∧ Step c w c' w' [] := by
  unfold lex_Ident.f at H
  have HS := Step.refl c w []
  go_enter Try.func22, Try.ntmps22
  refine wp_seq_k fun K646 hK646 => ?_
  refine wl_region ?_
  refine st (.bool false) rfl rfl (xr_assign (.bool false) rfl rfl) ?_
  simp only [ls0, ls1]
  refine wl_end ?_
  (try simp only [Act.put, List.setIfInBounds_toArray, ls0, ls1])
  refine hK646 _ _ ?_
  (try clear hK646 K646)
  refine wp_seq_k fun K647 hK647 => ?_
  refine wp_seq_k fun K648 hK648 => ?_
  have hj665 : ∀ (kq671 : Nat) (C666 : Nat → Nat) (w667 : World) (x669 : Bool) (g670 : Nat → Value), Step c w C666 w667 [] → kq671 ≤ k → lex_Ident.j0 kq671 a0 x669 = some r → K648 ⟨#[.string a0, (g670 1), (g670 2), (g670 3), (g670 4), (g670 5), (g670 6), (g670 7), (g670 8), (g670 9), (g670 10), (g670 11), (g670 12), (g670 13), (g670 14), (g670 15), (g670 16), (g670 17), (g670 18), .bool x669, (g670 20), (g670 21), (g670 22), (g670 23), (g670 24), (g670 25)], []⟩ w667 := by
    intro kq671 C666 w667 x669 g670 HS668 hk672  H
    cases kq671 with
    | zero => exact absurd H (by simp [lex_Ident.j0])
    | succ k673 =>
      simp only [lex_Ident.j0] at H
      refine hK648 _ _ ?_
      (try clear hK648)
      by_cases c674 : x669 = true
      · rw [if_pos c674] at H
        (try rw [c674])
        (try simp only [Bool.not_true, Bool.not_false])
        refine wp_cond_true rfl ?_
        refine wp_seq_k fun K675 hK675 => ?_
        refine wl_region ?_
        refine st (.bool false) rfl rfl (xr_assign (.bool false) rfl rfl) ?_
        simp only [ls0, ls1]
        refine wl_end ?_
        (try simp only [Act.put, List.setIfInBounds_toArray, ls0, ls1])
        refine hK675 _ _ ?_
        (try clear hK675 K675)
        refine wp_ret ?_
        (try simp only [Exit.inBlock, Exit.then, Exit.noGoto])
        (try simp only [Act.put, List.setIfInBounds_toArray, ls0, ls1])
        obtain rfl := Option.some.inj H
        refine bodyPost_ret (results_tmp rfl _ _ _) rfl ?_
        exact ⟨_, rfl, HS668⟩
      · rw [if_neg c674] at H
        (try rw [(Bool.eq_false_iff.mpr c674)])
        (try simp only [Bool.not_true, Bool.not_false])
        refine wp_cond_false rfl ?_
        refine wp_skip ?_
        (try simp only [Act.put, List.setIfInBounds_toArray, ls0, ls1])
        refine hK647 _ _ ?_
        (try clear hK647 K647)
        refine wp_seq_k fun K676 hK676 => ?_
        refine wl_region ?_
        refine st (.string a0) rfl rfl (xr_move (.string a0) rfl rfl) ?_
        simp only [ls0, ls1]
        by_cases c677 : a0.size ≤ 9223372036854775807
        · rw [if_pos c677] at H
          obtain ⟨y678, A679, H⟩ := Option.bind_eq_some_iff.mp H
          (try dsimp only at H)
          refine own_conv (C := C666) (i := 0) 5 rfl rfl 9 42 _ rfl a0 rfl Try.underlying9 Try.underlying42 Try.underlying5 (by assumption) 11 (Option.some.inj A679) ?_
          intro A680 cp681 w682 C683 HR684 HC685 hs686
          replace HS668 := HS668.trans hs686 hc rfl
          (try simp only [Act.put, List.setIfInBounds_toArray, ls0, ls1])
          obtain ⟨t687, A688, H⟩ := Option.bind_eq_some_iff.mp H
          (try dsimp only at H)
          refine st_call #[.slice A680 y678.length cp681, .func (.func 27) #[] #[]] rfl rfl Try.func26 (by kernel_rfl) rfl rfl (by simp only [List.map_toArray, List.map_cons, List.map_nil]; first | done | rfl) ?_
          refine (lex_run_lex_Ident_1.calls k673 A680 cp681 y678 t687  (fun z_ => pal [(0, 0), (11, 0)] (C683 z_)) w682 (fun _ => pal_lt rfl _) (Ft.arg HR684 rfl) HC685 A688).mono ?_
          rintro _ w690 ⟨C691, rfl, hs692⟩
          refine ⟨_, rfl, ?_⟩
          replace hs692 := Step.lift (U := [(0, 0)]) hs692 [] rfl rfl
          generalize up C683 C691 w682.heap.size [(0, 0)] = C691_ at hs692
          replace HS668 := HS668.trans hs692 hc rfl
          (try simp only [Act.put, List.setIfInBounds_toArray, ls0, ls1])
          refine st (.string a0) rfl rfl (xr_move (.string a0) rfl rfl) ?_
          simp only [ls0, ls1]
          refine st (.int .i64 (a0.size : Int)) rfl rfl (xr_builtin #[.string a0] (.int .i64 (a0.size : Int)) rfl (by simp only [List.map_toArray, List.map_cons, List.map_nil]; first | done | rfl) (by first | rfl | (go_simp; done) | (go_simp; rfl) | (go_simp; exact i64_w _) | (go_simp; exact i32_w _))) ?_
          simp only [ls0, ls1]
          refine st (.bool (decide (t687 = (a0.size : Int)))) rfl rfl (xr_bin (.int .i64 t687) (.int .i64 (a0.size : Int)) (.bool (decide (t687 = (a0.size : Int)))) rfl rfl rfl (B.eql_i64 t687 (a0.size : Int))) ?_
          simp only [ls0, ls1]
          refine st (.bool (decide (t687 = (a0.size : Int)))) rfl rfl (xr_assign (.bool (decide (t687 = (a0.size : Int)))) rfl rfl) ?_
          simp only [ls0, ls1]
          refine wl_end ?_
          (try simp only [Act.put, List.setIfInBounds_toArray, ls0, ls1])
          refine hK676 _ _ ?_
          (try clear hK676 K676)
          refine wp_ret ?_
          (try simp only [Exit.inBlock, Exit.then, Exit.noGoto])
          (try simp only [Act.put, List.setIfInBounds_toArray, ls0, ls1])
          obtain rfl := Option.some.inj H
          refine bodyPost_ret (results_tmp rfl _ _ _) rfl ?_
          exact ⟨_, rfl, HS668⟩
        · rw [if_neg c677] at H
          exact absurd H (by simp)
  refine wl_region ?_
  refine st (.string a0) rfl rfl (xr_move (.string a0) rfl rfl) ?_
  simp only [ls0, ls1]
  refine st (.bool (decide (a0 = (⟨#[]⟩ : ByteArray)))) rfl rfl (xr_bin (.string a0) (.string (⟨#[]⟩ : ByteArray)) (.bool (decide (a0 = (⟨#[]⟩ : ByteArray)))) rfl rfl rfl (B.eql_str a0 (⟨#[]⟩ : ByteArray))) ?_
  simp only [ls0, ls1]
  refine st (.bool (decide (a0 = (⟨#[]⟩ : ByteArray)))) rfl rfl (xr_move (.bool (decide (a0 = (⟨#[]⟩ : ByteArray)))) rfl rfl) ?_
  simp only [ls0, ls1]
  by_cases c693 : a0 = (⟨#[]⟩ : ByteArray)
  · rw [if_pos c693] at H
    (try rw [(decide_eq_true c693)])
    (try simp only [Bool.not_true, Bool.not_false])
    refine sk_guard (guard_off 2 false 5 rfl rfl true (by decide) rfl) rfl ?_
    simp only [ls0, ls1]
    refine sk_guard (guard_off 2 false 5 rfl rfl true (by decide) rfl) rfl ?_
    simp only [ls0, ls1]
    refine sk_guard (guard_off 2 false 5 rfl rfl true (by decide) rfl) rfl ?_
    simp only [ls0, ls1]
    refine st (.bool true) rfl rfl (xr_pick true (.bool true) rfl rfl rfl) ?_
    simp only [ls0, ls1]
    refine st (.bool true) rfl rfl (xr_move (.bool true) rfl rfl) ?_
    simp only [ls0, ls1]
    refine sk_guard (guard_off 7 false 10 rfl rfl true (by decide) rfl) rfl ?_
    simp only [ls0, ls1]
    refine sk_guard (guard_off 7 false 10 rfl rfl true (by decide) rfl) rfl ?_
    simp only [ls0, ls1]
    refine st (.bool true) rfl rfl (xr_pick true (.bool true) rfl rfl rfl) ?_
    simp only [ls0, ls1]
    refine st (.bool true) rfl rfl (xr_move (.bool true) rfl rfl) ?_
    simp only [ls0, ls1]
    refine sk_guard (guard_off 11 false 14 rfl rfl true (by decide) rfl) rfl ?_
    simp only [ls0, ls1]
    refine sk_guard (guard_off 11 false 14 rfl rfl true (by decide) rfl) rfl ?_
    simp only [ls0, ls1]
    refine sk_guard (guard_off 11 false 14 rfl rfl true (by decide) rfl) rfl ?_
    simp only [ls0, ls1]
    refine sk_guard (guard_off 11 false 14 rfl rfl true (by decide) rfl) rfl ?_
    simp only [ls0, ls1]
    refine st (.bool true) rfl rfl (xr_pick true (.bool true) rfl rfl rfl) ?_
    simp only [ls0, ls1]
    refine wl_end ?_
    (try simp only [Act.put, List.setIfInBounds_toArray, ls0, ls1])
    exact hj665 _ _ _ (true) (fun q_ => List.getD [undef, undef, .bool false, .string a0, .bool true, .bool true, undef, undef, undef, .bool true, .bool true, undef, undef, .bool true, .bool true, undef, undef, undef, undef, undef, undef, undef, undef, undef, undef, undef] q_ undef)  HS (by omega) H
  · rw [if_neg c693] at H
    (try rw [(decide_eq_false c693)])
    (try simp only [Bool.not_true, Bool.not_false])
    refine on_guard (guard_on 2 false 5 rfl rfl rfl) ?_
    refine st (.string a0) rfl rfl (xr_move (.string a0) rfl rfl) ?_
    simp only [ls0, ls1]
    refine on_guard (guard_on 2 false 5 rfl rfl rfl) ?_
    refine st (.int .i64 (a0.size : Int)) rfl rfl (xr_builtin #[.string a0] (.int .i64 (a0.size : Int)) rfl (by simp only [List.map_toArray, List.map_cons, List.map_nil]; first | done | rfl) (by first | rfl | (go_simp; done) | (go_simp; rfl) | (go_simp; exact i64_w _) | (go_simp; exact i32_w _))) ?_
    simp only [ls0, ls1]
    refine on_guard (guard_on 2 false 5 rfl rfl rfl) ?_
    refine st (.bool (decide ((a0.size : Int) > 24))) rfl rfl (xr_bin (.int .i64 (a0.size : Int)) (.int .i64 24) (.bool (decide ((a0.size : Int) > 24))) rfl rfl rfl (B.gtr_i64 (a0.size : Int) 24)) ?_
    simp only [ls0, ls1]
    refine st (.bool (decide ((a0.size : Int) > 24))) rfl rfl (xr_pick false (.bool (decide ((a0.size : Int) > 24))) rfl rfl rfl) ?_
    simp only [ls0, ls1]
    refine st (.bool (decide ((a0.size : Int) > 24))) rfl rfl (xr_move (.bool (decide ((a0.size : Int) > 24))) rfl rfl) ?_
    simp only [ls0, ls1]
    by_cases c694 : (a0.size : Int) > 24
    · rw [if_pos c694] at H
      (try rw [(decide_eq_true c694)])
      (try simp only [Bool.not_true, Bool.not_false])
      refine sk_guard (guard_off 7 false 10 rfl rfl true (by decide) rfl) rfl ?_
      simp only [ls0, ls1]
      refine sk_guard (guard_off 7 false 10 rfl rfl true (by decide) rfl) rfl ?_
      simp only [ls0, ls1]
      refine st (.bool true) rfl rfl (xr_pick true (.bool true) rfl rfl rfl) ?_
      simp only [ls0, ls1]
      refine st (.bool true) rfl rfl (xr_move (.bool true) rfl rfl) ?_
      simp only [ls0, ls1]
      refine sk_guard (guard_off 11 false 14 rfl rfl true (by decide) rfl) rfl ?_
      simp only [ls0, ls1]
      refine sk_guard (guard_off 11 false 14 rfl rfl true (by decide) rfl) rfl ?_
      simp only [ls0, ls1]
      refine sk_guard (guard_off 11 false 14 rfl rfl true (by decide) rfl) rfl ?_
      simp only [ls0, ls1]
      refine sk_guard (guard_off 11 false 14 rfl rfl true (by decide) rfl) rfl ?_
      simp only [ls0, ls1]
      refine st (.bool true) rfl rfl (xr_pick true (.bool true) rfl rfl rfl) ?_
      simp only [ls0, ls1]
      refine wl_end ?_
      (try simp only [Act.put, List.setIfInBounds_toArray, ls0, ls1])
      exact hj665 _ _ _ (true) (fun q_ => List.getD [undef, undef, .bool false, .string a0, .bool false, .bool false, .string a0, .int .i64 (a0.size : Int), .bool true, .bool true, .bool true, undef, undef, .bool true, .bool true, undef, undef, undef, undef, undef, undef, undef, undef, undef, undef, undef] q_ undef)  HS (by omega) H
    · rw [if_neg c694] at H
      (try rw [(decide_eq_false c694)])
      (try simp only [Bool.not_true, Bool.not_false])
      refine on_guard (guard_on 7 false 10 rfl rfl rfl) ?_
      refine st (.string a0) rfl rfl (xr_move (.string a0) rfl rfl) ?_
      simp only [ls0, ls1]
      refine on_guard (guard_on 7 false 10 rfl rfl rfl) ?_
      obtain ⟨t695, A696, H⟩ := Option.bind_eq_some_iff.mp H
      (try dsimp only at H)
      refine st_call #[.string a0] rfl rfl Try.func24 (by kernel_rfl) rfl rfl (by simp only [List.map_toArray, List.map_cons, List.map_nil]; first | done | rfl) ?_
      refine (lex_Keyword.calls a0 t695  (fun z_ => pal [(0, 0)] (c z_)) w (fun _ => pal_lt rfl _) A696).mono ?_
      rintro _ w698 ⟨C699, rfl, hs700⟩
      refine ⟨_, rfl, ?_⟩
      replace hs700 := Step.lift (U := [(0, 0)]) hs700 [] rfl rfl
      generalize up c C699 w.heap.size [(0, 0)] = C699_ at hs700
      replace HS := HS.trans hs700 hc rfl
      (try simp only [Act.put, List.setIfInBounds_toArray, ls0, ls1])
      refine st (.bool t695) rfl rfl (xr_pick false (.bool t695) rfl rfl rfl) ?_
      simp only [ls0, ls1]
      refine st (.bool t695) rfl rfl (xr_move (.bool t695) rfl rfl) ?_
      simp only [ls0, ls1]
      by_cases c701 : t695 = true
      · rw [if_pos c701] at H
        (try rw [c701])
        (try simp only [Bool.not_true, Bool.not_false])
        refine sk_guard (guard_off 11 false 14 rfl rfl true (by decide) rfl) rfl ?_
        simp only [ls0, ls1]
        refine sk_guard (guard_off 11 false 14 rfl rfl true (by decide) rfl) rfl ?_
        simp only [ls0, ls1]
        refine sk_guard (guard_off 11 false 14 rfl rfl true (by decide) rfl) rfl ?_
        simp only [ls0, ls1]
        refine sk_guard (guard_off 11 false 14 rfl rfl true (by decide) rfl) rfl ?_
        simp only [ls0, ls1]
        refine st (.bool true) rfl rfl (xr_pick true (.bool true) rfl rfl rfl) ?_
        simp only [ls0, ls1]
        refine wl_end ?_
        (try simp only [Act.put, List.setIfInBounds_toArray, ls0, ls1])
        exact hj665 _ _ _ (true) (fun q_ => List.getD [undef, undef, .bool false, .string a0, .bool false, .bool false, .string a0, .int .i64 (a0.size : Int), .bool false, .bool false, .bool false, .string a0, .bool true, .bool true, .bool true, undef, undef, undef, undef, undef, undef, undef, undef, undef, undef, undef] q_ undef)  HS (by omega) H
      · rw [if_neg c701] at H
        (try rw [(Bool.eq_false_iff.mpr c701)])
        (try simp only [Bool.not_true, Bool.not_false])
        refine on_guard (guard_on 11 false 14 rfl rfl rfl) ?_
        refine st (.string a0) rfl rfl (xr_move (.string a0) rfl rfl) ?_
        simp only [ls0, ls1]
        refine on_guard (guard_on 11 false 14 rfl rfl rfl) ?_
        by_cases c702 : 0 < (a0.size : Int)
        · rw [if_pos c702] at H
          refine st (.int .u8 (bt a0 0)) rfl rfl (xr_index (.string a0) (.int .i64 0) (.int .u8 (bt a0 0)) rfl rfl rfl (index_str Try.underlying9 (by first | assumption | decide | omega) (by first | assumption | decide | omega))) ?_
          simp only [ls0, ls1]
          refine on_guard (guard_on 11 false 14 rfl rfl rfl) ?_
          obtain ⟨t703, A704, H⟩ := Option.bind_eq_some_iff.mp H
          (try dsimp only at H)
          refine st_call #[.int .u8 (bt a0 0)] rfl rfl Try.func25 (by kernel_rfl) rfl rfl (by simp only [List.map_toArray, List.map_cons, List.map_nil]; first | done | rfl) ?_
          refine (lex_letter.calls (bt a0 0) t703  (fun z_ => pal [(0, 0)] (C699_ z_)) w698 (fun _ => pal_lt rfl _) A704).mono ?_
          rintro _ w706 ⟨C707, rfl, hs708⟩
          refine ⟨_, rfl, ?_⟩
          replace hs708 := Step.lift (U := [(0, 0)]) hs708 [] rfl rfl
          generalize up C699_ C707 w698.heap.size [(0, 0)] = C707_ at hs708
          replace HS := HS.trans hs708 hc rfl
          (try simp only [Act.put, List.setIfInBounds_toArray, ls0, ls1])
          refine on_guard (guard_on 11 false 14 rfl rfl rfl) ?_
          refine st (.bool (!t703)) rfl rfl (xr_un (.bool t703) (.bool (!t703)) rfl rfl (by first | rfl | (go_simp; done) | (go_simp; rfl) | (go_simp; exact i64_w _) | (go_simp; exact i32_w _))) ?_
          simp only [ls0, ls1]
          refine st (.bool (!t703)) rfl rfl (xr_pick false (.bool (!t703)) rfl rfl rfl) ?_
          simp only [ls0, ls1]
          refine wl_end ?_
          (try simp only [Act.put, List.setIfInBounds_toArray, ls0, ls1])
          exact hj665 _ _ _ (!t703) (fun q_ => List.getD [undef, undef, .bool false, .string a0, .bool false, .bool false, .string a0, .int .i64 (a0.size : Int), .bool false, .bool false, .bool false, .string a0, .bool false, .bool false, .bool false, .string a0, .int .u8 (bt a0 0), .bool t703, .bool (!t703), undef, undef, undef, undef, undef, undef, undef] q_ undef)  HS (by omega) H
        · rw [if_neg c702] at H
          exact absurd H (by simp)

end Go.Proofs.Ytpfepkkpbampkaa.POrd
