-- By cprint.py, a program of this work. Lean checks it.
import Derived.Test.YtpfepkkpbampkaaDoorPLanx0
import Derived.Test.YtpfepkkpbampkaaDoorPLanx1
import Derived.Test.YtpfepkkpbampkaaDoorPLanx5
namespace Go.Proofs.YtpfepkkpbampkaaDoor.PLan
open Go.RowKit Go.Proofs.YtpfepkkpbampkaaDoorW.PrintWords Go.Proofs.YtpfepkkpbampkaaDoorW.PrintLast Go.Proofs.YtpfepkkpbampkaaDoorW.PrintMore
set_option linter.unusedVariables false
set_option linter.unusedSimpArgs false

/-! ### lattice_Lattice_Top: function 25 -/
def lattice_Lattice_Top.l0 : Nat → S107 → Int → Int → Int → Option (Int)
  | 0, _, _, _, _ => none
  | k + 1, o11342, t11352, x11379, x11380 => if x11380 < t11352 then (if 0 ≤ x11379 then (if x11379 < 64 then (if 0 ≤ x11380 then (if x11380 < 64 then (lattice_Lattice_Top.l0 k o11342 t11352 (wrap64 (List.getD o11342.f2 ((x11379 : Int).toNat * 64 + (x11380 : Int).toNat) 0)) (wrap64 (x11380 + 1))) else (none)) else (none)) else (none)) else (none)) else (some x11379)
def lattice_Lattice_Top.f (k : Nat) (x0 : Option S107) : Option (Int) := onOpt x0 (some (-1)) (fun o11342 => ((order_Order_Len.f o11342.f0).bind fun t11352 => (lattice_Lattice_Top.l0 k o11342 t11352 0 0)))

set_option maxHeartbeats 2000000 in
set_option maxRecDepth 100000 in
theorem lattice_Lattice_Top.calls (k : Nat) (v0 : Value) (x0 : Option S107) (r : Int) (c : Nat → Nat) (w : World) (hc : ∀ k, c k < 10) (HP0 : Ft c [0] w (fun w_ => (Kd.ptr 107 k107).K w_ x0 [v0])) (H : lattice_Lattice_Top.f k x0 = some r) :
    Calls Tryd.prog 25 #[v0] w fun e w' => ∃ (c' : Nat → Nat) , e = .returned (.int .i64 r) ∧ Step c w c' w' [] := by
 unfold lattice_Lattice_Top.f at H
 have HS := Step.refl c w []
 go_enter Tryd.func25, Tryd.ntmps25
 refine wp_seq_k fun K11339 hK11339 => ?_
 refine wl_region ?_
 refine st (.int .i64 0) rfl rfl (xr_assign _ rfl rfl) ?_
 refine wl_end ?_
 (try simp only [Act.put, List.setIfInBounds_toArray, ls0, ls1])
 refine hK11339 _ _ ?_
 (try clear hK11339 K11339)
 refine wp_seq_k fun K11340 hK11340 => ?_
 refine wp_seq_k fun K11341 hK11341 => ?_
 refine wl_region ?_
 refine st (v0) rfl rfl (xr_move _ rfl rfl) ?_
 cases x0 with
 | none =>
  (try simp only [onOpt] at H)
  obtain rfl := ptr_none HP0
  refine st (.bool true) rfl rfl (xr_bin (.pointer none) (.pointer none) (.bool true) rfl rfl rfl (B.eql_nn ⟨_, Tryd.underlying36⟩ (⟨0, 0, none⟩ : Addr))) ?_
  refine wl_end ?_
  (try simp only [Act.put, List.setIfInBounds_toArray, ls0, ls1])
  refine hK11341 _ _ ?_
  (try clear hK11341 K11341)
  refine wp_cond_true rfl ?_
  refine wp_seq_k fun K11343 hK11343 => ?_
  refine wl_region ?_
  refine st (.int .i64 (-1)) rfl rfl (xr_assign _ rfl rfl) ?_
  refine wl_end ?_
  (try simp only [Act.put, List.setIfInBounds_toArray, ls0, ls1])
  refine hK11343 _ _ ?_
  (try clear hK11343 K11343)
  refine wp_ret ?_
  (try simp only [Exit.inBlock, Exit.then, Exit.noGoto])
  (try simp only [Act.put, List.setIfInBounds_toArray, ls0, ls1])
  obtain rfl := Option.some.inj H
  refine bodyPost_ret (results_tmp rfl _ _ _) rfl ?_
  exact ⟨_, rfl, HS⟩
 | some o11342 =>
  (try simp only [onOpt] at H)
  obtain ⟨g11344, cs11345, rfl, HX11346, HK11347⟩ := ptr_some HP0
  obtain ⟨vq11348_0, rfl, HRq11348_0, HLq11348_4, HLq11348_5⟩ := k107_openF HK11347
  replace HRq11348_0 : Ft c [0] w (fun w_ => (Kd.ptr 81 k81).K w_ o11342.f0 [vq11348_0]) := HRq11348_0
  refine st (.bool false) rfl rfl (xr_bin (.pointer (some ⟨g11344, 0, none⟩)) (.pointer none) (.bool false) rfl rfl rfl (B.eql_pn ⟨_, Tryd.underlying36⟩ ⟨g11344, 0, none⟩)) ?_
  refine wl_end ?_
  (try simp only [Act.put, List.setIfInBounds_toArray, ls0, ls1])
  refine hK11341 _ _ ?_
  (try clear hK11341 K11341)
  refine wp_cond_false rfl ?_
  refine wp_skip ?_
  (try simp only [Act.put, List.setIfInBounds_toArray, ls0, ls1])
  refine hK11340 _ _ ?_
  (try clear hK11340 K11340)
  refine wp_seq_k fun K11349 hK11349 => ?_
  refine wl_region ?_
  refine st (.int .i64 0) rfl rfl (xr_assign _ rfl rfl) ?_
  refine wl_end ?_
  (try simp only [Act.put, List.setIfInBounds_toArray, ls0, ls1])
  refine hK11349 _ _ ?_
  (try clear hK11349 K11349)
  refine wp_seq_k fun K11350 hK11350 => ?_
  refine wp_seq_k fun K11351 hK11351 => ?_
  refine wl_region ?_
  refine st (.pointer (some ⟨g11344, 0, none⟩)) rfl rfl (xr_move _ rfl rfl) ?_
  refine st (.pointer (some ⟨g11344, 0, none⟩)) rfl rfl (xr_nilCheck _ rfl rfl) ?_
  refine st (.pointer (some ⟨g11344, 0, none⟩)) rfl rfl (xr_fieldAddr _ _ rfl rfl (bx_field2 Tryd.underlying107 rfl rfl (by kernel_rfl))) ?_
  refine st (vq11348_0) rfl rfl (xr_load _ _ rfl rfl (load_cell Tryd.underlying26 rfl (bx_cell (Ft.now HX11346) 0 rfl))) ?_
  simp only [ls0, ls1]
  obtain ⟨t11352, A11353, H⟩ := Option.bind_eq_some_iff.mp H
  (try dsimp only at H)
  refine st_call #[vq11348_0] rfl rfl Tryd.func21 (by kernel_rfl) rfl rfl (mp_ rfl) ?_
  refine (order_Order_Len.calls vq11348_0 o11342.f0 t11352  (fun z_ => pal [(0, 0)] (c z_)) w (fun _ => pal_lt rfl _) (Ft.arg HRq11348_0 rfl) A11353).mono ?_
  rintro _ w11355 ⟨C11356, rfl, hs11357⟩
  refine ⟨_, rfl, ?_⟩
  replace hs11357 := Step.lift (U := [(0, 0)]) hs11357 [] rfl rfl
  generalize up c C11356 w.heap.size [(0, 0)] = C11356_ at hs11357
  replace HX11346 := HX11346.thru hs11357 rfl
  replace HRq11348_0 := HRq11348_0.thru hs11357 rfl
  replace HS := HS.trans hs11357 hc rfl
  (try simp only [Act.put, List.setIfInBounds_toArray, ls0, ls1])
  refine st (.int .i64 0) rfl rfl (xr_move _ rfl rfl) ?_
  refine wl_end ?_
  (try simp only [Act.put, List.setIfInBounds_toArray, ls0, ls1])
  refine hK11351 _ _ ?_
  (try clear hK11351 K11351)
  refine wp_block ?_
  (try simp only [Act.put, List.setIfInBounds_toArray, ls0, ls1])
  refine wp_looped (looped_ind (fun kq11386 a_ w11385 => ∃ (C11384 : Nat → Nat) (x11379 : Int) (x11380 : Int) (g11383 : Nat → Value), a_ = ⟨#[.pointer (some ⟨g11344, 0, none⟩), (g11383 1), (g11383 2), .int .i64 x11379, (g11383 4), (g11383 5), (g11383 6), (g11383 7), (g11383 8), (g11383 9), (g11383 10), .int .i64 t11352, .int .i64 x11380, (g11383 13), (g11383 14), (g11383 15), (g11383 16), (g11383 17), (g11383 18), (g11383 19), (g11383 20), (g11383 21), (g11383 22), (g11383 23), (g11383 24), (g11383 25)], []⟩ ∧ Step c w C11384 w11385 [] ∧ kq11386 ≤ k ∧ (Ft C11384 [0] w11385 (fun w_ => (Kd.ptr 81 k81).K w_ o11342.f0 [vq11348_0])) ∧ (Ft C11384 [0] w11385 (fun w_ => w_.heap[g11344]? = some (.cells (List.toArray ([vq11348_0, .int .u32 o11342.f1.f0.f0, .int .i32 o11342.f1.f1.f0.f0, .int .u32 o11342.f1.f1.f0.f1] ++ (List.map (Value.int .i8) o11342.f2 ++ (List.map (Value.int .i8) o11342.f3 ++ ([.int .i64 o11342.f4.f0]))))) 107 (0, 0)))) ∧ lattice_Lattice_Top.l0 kq11386 o11342 t11352 x11379 x11380 = some r) ?step k _ _ ?init)
  case init =>
   exact ⟨_, 0, 0, (fun q_ => List.getD [undef, undef, .int .i64 0, undef, undef, .pointer (some ⟨g11344, 0, none⟩), .bool false, .pointer (some ⟨g11344, 0, none⟩), .pointer (some ⟨g11344, 0, none⟩), .pointer (some ⟨g11344, 0, none⟩), vq11348_0, undef, undef, undef, undef, undef, undef, undef, undef, undef, undef, undef, undef, undef, undef, undef] q_ undef), rfl, HS, Nat.le_refl _, HRq11348_0, HX11346, H⟩
  case step =>
   intro kq11386 ih11389 a11390 w11385 hr11391
   obtain ⟨C11384, x11379, x11380, g11383, rfl, HS11387, hk11388, HJ11381, HJ11382, H⟩ := hr11391
   refine looped_round ?_
   cases kq11386 with
   | zero => exact absurd H (by simp [lattice_Lattice_Top.l0])
   | succ k11392 =>
    simp only [lattice_Lattice_Top.l0] at H
    refine wp_seq_k fun K11393 hK11393 => ?_
    refine wl_region ?_
    refine st (.bool (decide (x11380 < t11352))) rfl rfl (xr_bin _ _ _ rfl rfl rfl (B.lss_i64 _ _)) ?_
    refine wl_end ?_
    (try simp only [Act.put, List.setIfInBounds_toArray, ls0, ls1])
    refine hK11393 _ _ ?_
    (try clear hK11393 K11393)
    refine wp_seq_k fun K11394 hK11394 => ?_
    by_cases c11395 : x11380 < t11352
    ·rw [if_pos c11395] at H
     (try rw [(decide_eq_true c11395)])
     (try simp only [Bool.not_true, Bool.not_false])
     refine wp_cond_true rfl ?_
     refine wp_skip ?_
     (try simp only [Act.put, List.setIfInBounds_toArray, ls0, ls1])
     refine hK11394 _ _ ?_
     (try clear hK11394 K11394)
     refine wp_seq_k fun K11396 hK11396 => ?_
     refine wp_block ?_
     refine wp_seq_k fun K11397 hK11397 => ?_
     refine wl_region ?_
     refine st (.int .i64 x11380) rfl rfl (xr_move _ rfl rfl) ?_
     refine st (.int .i64 x11380) rfl rfl (xr_assign _ rfl rfl) ?_
     refine wl_end ?_
     (try simp only [Act.put, List.setIfInBounds_toArray, ls0, ls1])
     refine hK11397 _ _ ?_
     (try clear hK11397 K11397)
     refine wl_region ?_
     refine st (.pointer (some ⟨g11344, 0, none⟩)) rfl rfl (xr_move _ rfl rfl) ?_
     refine st (.int .i64 x11379) rfl rfl (xr_move _ rfl rfl) ?_
     refine st (.int .i64 x11380) rfl rfl (xr_move _ rfl rfl) ?_
     refine st (.pointer (some ⟨g11344, 0, none⟩)) rfl rfl (xr_nilCheck _ rfl rfl) ?_
     simp only [ls0, ls1]
     refine st (.pointer (some ⟨g11344, 4, none⟩)) rfl rfl (xr_fieldAddr _ _ rfl rfl (bx_field2 Tryd.underlying107 rfl rfl (by kernel_rfl))) ?_
     by_cases c11398 : 0 ≤ x11379
     ·rw [if_pos c11398] at H
      by_cases c11399 : x11379 < 64
      ·rw [if_pos c11399] at H
       refine st (.pointer (some ⟨g11344, 4 + ((x11379 : Int).toNat * 64), none⟩)) rfl rfl (xr_indexAddr _ _ _ rfl rfl rfl (arr_index (sz := 64) Tryd.underlying102 (by kernel_rfl) (by first | assumption | decide | omega) (by first | assumption | decide | omega) (by omega))) ?_
       by_cases c11400 : 0 ≤ x11380
       ·rw [if_pos c11400] at H
        by_cases c11401 : x11380 < 64
        ·rw [if_pos c11401] at H
         refine st (.pointer (some ⟨g11344, 4 + ((x11379 : Int).toNat * 64 + (x11380 : Int).toNat), none⟩)) rfl rfl (xr_indexAddr _ _ _ rfl rfl rfl (arr_index (sz := 1) Tryd.underlying100 (by kernel_rfl) (by first | assumption | decide | omega) (by first | assumption | decide | omega) (by omega))) ?_
         refine st (.int .i8 (List.getD o11342.f2 ((x11379 : Int).toNat * 64 + (x11380 : Int).toNat) 0)) rfl rfl (xr_load _ _ rfl rfl (arr_load (o := 4) (N := 4096) (pre := [vq11348_0, .int .u32 o11342.f1.f0.f0, .int .i32 o11342.f1.f1.f0.f0, .int .u32 o11342.f1.f1.f0.f1]) (post := List.map (Value.int .i8) o11342.f3 ++ ([.int .i64 o11342.f4.f0])) (enc := (Value.int .i8)) (l := o11342.f2) (i := (x11379 : Int).toNat * 64 + (x11380 : Int).toNat) 0 Tryd.underlying99 rfl (Ft.now HJ11382) (by first | (simp only [List.append_assoc, List.cons_append, List.nil_append, List.append_nil]; done) | rfl) rfl HLq11348_4 (by omega) (by omega))) ?_
         simp only [ls0, ls1]
         refine st (.int .i64 (wrap64 (List.getD o11342.f2 ((x11379 : Int).toNat * 64 + (x11380 : Int).toNat) 0))) rfl rfl (xr_conv (.int .i8 (List.getD o11342.f2 ((x11379 : Int).toNat * 64 + (x11380 : Int).toNat) 0)) _ rfl rfl (by first | rfl | (go_simp; done) | (go_simp; rfl) | (go_simp; exact i64_w _) | (go_simp; exact i32_w _))) ?_
         refine st (.int .i64 (wrap64 (List.getD o11342.f2 ((x11379 : Int).toNat * 64 + (x11380 : Int).toNat) 0))) rfl rfl (xr_assign _ rfl rfl) ?_
         refine wl_end ?_
         (try simp only [Act.put, List.setIfInBounds_toArray, ls0, ls1])
         refine hK11396 _ _ ?_
         (try clear hK11396 K11396)
         refine wl_region ?_
         refine st (.int .i64 (wrap64 (x11380 + 1))) rfl rfl (xr_bin _ _ _ rfl rfl rfl (B.add_i64 _ _)) ?_
         refine st (.int .i64 (wrap64 (x11380 + 1))) rfl rfl (xr_move _ rfl rfl) ?_
         refine wl_end ?_
         (try simp only [Act.put, List.setIfInBounds_toArray, ls0, ls1])
         exact ih11389 k11392 (by omega) _ _ ⟨_, wrap64 (List.getD o11342.f2 ((x11379 : Int).toNat * 64 + (x11380 : Int).toNat) 0), wrap64 (x11380 + 1), (fun q_ => List.getD [undef, (g11383 1), (g11383 2), undef, .int .i64 x11380, (g11383 5), (g11383 6), (g11383 7), (g11383 8), (g11383 9), (g11383 10), undef, undef, .bool true, .int .i64 x11380, .pointer (some ⟨g11344, 0, none⟩), .int .i64 x11379, .int .i64 x11380, .pointer (some ⟨g11344, 0, none⟩), .pointer (some ⟨g11344, 4, none⟩), .pointer (some ⟨g11344, 4 + ((x11379 : Int).toNat * 64), none⟩), .pointer (some ⟨g11344, 4 + ((x11379 : Int).toNat * 64 + (x11380 : Int).toNat), none⟩), .int .i8 (List.getD o11342.f2 ((x11379 : Int).toNat * 64 + (x11380 : Int).toNat) 0), .int .i64 (wrap64 (List.getD o11342.f2 ((x11379 : Int).toNat * 64 + (x11380 : Int).toNat) 0)), .int .i64 (wrap64 (x11380 + 1)), (g11383 25)] q_ undef), rfl, HS11387, (by omega), HJ11381, HJ11382, H⟩
        ·rw [if_neg c11401] at H
         exact absurd H (by simp)
       ·rw [if_neg c11400] at H
        exact absurd H (by simp)
      ·rw [if_neg c11399] at H
       exact absurd H (by simp)
     ·rw [if_neg c11398] at H
      exact absurd H (by simp)
    ·rw [if_neg c11395] at H
     (try rw [(decide_eq_false c11395)])
     (try simp only [Bool.not_true, Bool.not_false])
     refine wp_cond_false rfl ?_
     refine wp_exit ?_
     (try simp only [Act.put, List.setIfInBounds_toArray, ls0, ls1])
     refine hK11350 _ _ ?_
     (try clear hK11350 K11350)
     refine wp_seq_k fun K11402 hK11402 => ?_
     refine wl_region ?_
     refine st (.int .i64 x11379) rfl rfl (xr_move _ rfl rfl) ?_
     refine st (.int .i64 x11379) rfl rfl (xr_assign _ rfl rfl) ?_
     refine wl_end ?_
     (try simp only [Act.put, List.setIfInBounds_toArray, ls0, ls1])
     refine hK11402 _ _ ?_
     (try clear hK11402 K11402)
     refine wp_ret ?_
     (try simp only [Exit.inBlock, Exit.then, Exit.noGoto])
     (try simp only [Act.put, List.setIfInBounds_toArray, ls0, ls1])
     obtain rfl := Option.some.inj H
     refine bodyPost_ret (results_tmp rfl _ _ _) rfl ?_
     exact ⟨_, rfl, HS11387⟩

/-! ### lattice_Lattice_Order: function 27 -/
def lattice_Lattice_Order.f (x0 : Option S107) : Option ((Option S81)) := onOpt x0 (some (none : Option S81)) (fun o11417 => (some o11417.f0))
set_option maxHeartbeats 2000000 in
set_option maxRecDepth 100000 in
theorem lattice_Lattice_Order.calls (v0 : Value) (x0 : Option S107) (r : Option S81) (c : Nat → Nat) (w : World) (hc : ∀ k, c k < 10) (HP0 : Ft c [0] w (fun w_ => (Kd.ptr 107 k107).K w_ x0 [v0])) (H : lattice_Lattice_Order.f x0 = some r) :
    Calls Tryd.prog 27 #[v0] w fun e w' => ∃ (c' : Nat → Nat) (v_r : Value), e = .returned (v_r) ∧ Step c w c' w' [] ∧ Ft c' [0] w' (fun w_ => (Kd.ptr 81 k81).K w_ r [v_r]) := by
 unfold lattice_Lattice_Order.f at H
 have HS := Step.refl c w []
 go_enter Tryd.func27, Tryd.ntmps27
 refine wp_seq_k fun K11414 hK11414 => ?_
 refine wl_region ?_
 refine st (.pointer none) rfl rfl (xr_assign _ rfl rfl) ?_
 refine wl_end ?_
 (try simp only [Act.put, List.setIfInBounds_toArray, ls0, ls1])
 refine hK11414 _ _ ?_
 (try clear hK11414 K11414)
 refine wp_seq_k fun K11415 hK11415 => ?_
 refine wp_seq_k fun K11416 hK11416 => ?_
 refine wl_region ?_
 refine st (v0) rfl rfl (xr_move _ rfl rfl) ?_
 cases x0 with
 | none =>
  (try simp only [onOpt] at H)
  obtain rfl := ptr_none HP0
  refine st (.bool true) rfl rfl (xr_bin (.pointer none) (.pointer none) (.bool true) rfl rfl rfl (B.eql_nn ⟨_, Tryd.underlying36⟩ (⟨0, 0, none⟩ : Addr))) ?_
  refine wl_end ?_
  (try simp only [Act.put, List.setIfInBounds_toArray, ls0, ls1])
  refine hK11416 _ _ ?_
  (try clear hK11416 K11416)
  refine wp_cond_true rfl ?_
  refine wp_seq_k fun K11418 hK11418 => ?_
  refine wl_region ?_
  refine st (.pointer none) rfl rfl (xr_assign _ rfl rfl) ?_
  refine wl_end ?_
  (try simp only [Act.put, List.setIfInBounds_toArray, ls0, ls1])
  refine hK11418 _ _ ?_
  (try clear hK11418 K11418)
  refine wp_ret ?_
  (try simp only [Exit.inBlock, Exit.then, Exit.noGoto])
  (try simp only [Act.put, List.setIfInBounds_toArray, ls0, ls1])
  obtain rfl := Option.some.inj H
  refine bodyPost_ret (results_tmp rfl _ _ _) rfl ?_
  exact ⟨_, (.pointer none), rfl, HS, (ptr_nil _ _ _ _ _)⟩
 | some o11417 =>
  (try simp only [onOpt] at H)
  obtain ⟨g11419, cs11420, rfl, HX11421, HK11422⟩ := ptr_some HP0
  obtain ⟨vq11423_0, rfl, HRq11423_0, HLq11423_4, HLq11423_5⟩ := k107_openF HK11422
  replace HRq11423_0 : Ft c [0] w (fun w_ => (Kd.ptr 81 k81).K w_ o11417.f0 [vq11423_0]) := HRq11423_0
  refine st (.bool false) rfl rfl (xr_bin (.pointer (some ⟨g11419, 0, none⟩)) (.pointer none) (.bool false) rfl rfl rfl (B.eql_pn ⟨_, Tryd.underlying36⟩ ⟨g11419, 0, none⟩)) ?_
  refine wl_end ?_
  (try simp only [Act.put, List.setIfInBounds_toArray, ls0, ls1])
  refine hK11416 _ _ ?_
  (try clear hK11416 K11416)
  refine wp_cond_false rfl ?_
  refine wp_skip ?_
  (try simp only [Act.put, List.setIfInBounds_toArray, ls0, ls1])
  refine hK11415 _ _ ?_
  (try clear hK11415 K11415)
  refine wp_seq_k fun K11424 hK11424 => ?_
  refine wl_region ?_
  refine st (.pointer (some ⟨g11419, 0, none⟩)) rfl rfl (xr_move _ rfl rfl) ?_
  refine st (.pointer (some ⟨g11419, 0, none⟩)) rfl rfl (xr_nilCheck _ rfl rfl) ?_
  refine st (.pointer (some ⟨g11419, 0, none⟩)) rfl rfl (xr_fieldAddr _ _ rfl rfl (bx_field2 Tryd.underlying107 rfl rfl (by kernel_rfl))) ?_
  refine st (vq11423_0) rfl rfl (xr_load _ _ rfl rfl (load_cell Tryd.underlying26 rfl (bx_cell (Ft.now HX11421) 0 rfl))) ?_
  simp only [ls0, ls1]
  refine st (vq11423_0) rfl rfl (xr_assign _ rfl rfl) ?_
  refine wl_end ?_
  (try simp only [Act.put, List.setIfInBounds_toArray, ls0, ls1])
  refine hK11424 _ _ ?_
  (try clear hK11424 K11424)
  refine wp_ret ?_
  (try simp only [Exit.inBlock, Exit.then, Exit.noGoto])
  (try simp only [Act.put, List.setIfInBounds_toArray, ls0, ls1])
  obtain rfl := Option.some.inj H
  refine bodyPost_ret (results_tmp rfl _ _ _) rfl ?_
  exact ⟨_, vq11423_0, rfl, HS, HRq11423_0⟩

/-! ### sync_atomic_Int64_Load -/
theorem atomic_load {g o : Nat} {w : World} {n : Int} (hc : w.cell? ⟨g, o, none⟩ = some (.int .i64 n)) :
    Calls Tryd.prog 65 #[.pointer (some ⟨g, o, none⟩)] w fun e w' => e = .returned (.int .i64 n) ∧ w = w' := by
  have hl := run_call_load (P := Tryd.prog) Tryd.func82 (by kernel_rfl) (by kernel_rfl) (by kernel_rfl) .i64 (by kernel_rfl) hc
  go_enter Tryd.func65, Tryd.ntmps65
  go_wp2
  go_ret
  exact ⟨rfl, rfl⟩

/-! ### lattice_Lattice_Asked: function 28 -/
def lattice_Lattice_Asked.f (x0 : Option S107) : Option (Int) := onOpt x0 (some 0) (fun o11439 => (some o11439.f4.f0))
set_option maxHeartbeats 2000000 in
set_option maxRecDepth 100000 in
theorem lattice_Lattice_Asked.calls (v0 : Value) (x0 : Option S107) (r : Int) (c : Nat → Nat) (w : World) (hc : ∀ k, c k < 10) (HP0 : Ft c [0] w (fun w_ => (Kd.ptr 107 k107).K w_ x0 [v0])) (H : lattice_Lattice_Asked.f x0 = some r) :
    Calls Tryd.prog 28 #[v0] w fun e w' => ∃ (c' : Nat → Nat) , e = .returned (.int .i64 r) ∧ Step c w c' w' [] := by
 unfold lattice_Lattice_Asked.f at H
 have HS := Step.refl c w []
 go_enter Tryd.func28, Tryd.ntmps28
 refine wp_seq_k fun K11436 hK11436 => ?_
 refine wl_region ?_
 refine st (.int .i64 0) rfl rfl (xr_assign _ rfl rfl) ?_
 refine wl_end ?_
 (try simp only [Act.put, List.setIfInBounds_toArray, ls0, ls1])
 refine hK11436 _ _ ?_
 (try clear hK11436 K11436)
 refine wp_seq_k fun K11437 hK11437 => ?_
 refine wp_seq_k fun K11438 hK11438 => ?_
 refine wl_region ?_
 refine st (v0) rfl rfl (xr_move _ rfl rfl) ?_
 cases x0 with
 | none =>
  (try simp only [onOpt] at H)
  obtain rfl := ptr_none HP0
  refine st (.bool true) rfl rfl (xr_bin (.pointer none) (.pointer none) (.bool true) rfl rfl rfl (B.eql_nn ⟨_, Tryd.underlying36⟩ (⟨0, 0, none⟩ : Addr))) ?_
  refine wl_end ?_
  (try simp only [Act.put, List.setIfInBounds_toArray, ls0, ls1])
  refine hK11438 _ _ ?_
  (try clear hK11438 K11438)
  refine wp_cond_true rfl ?_
  refine wp_seq_k fun K11440 hK11440 => ?_
  refine wl_region ?_
  refine st (.int .i64 0) rfl rfl (xr_assign _ rfl rfl) ?_
  refine wl_end ?_
  (try simp only [Act.put, List.setIfInBounds_toArray, ls0, ls1])
  refine hK11440 _ _ ?_
  (try clear hK11440 K11440)
  refine wp_ret ?_
  (try simp only [Exit.inBlock, Exit.then, Exit.noGoto])
  (try simp only [Act.put, List.setIfInBounds_toArray, ls0, ls1])
  obtain rfl := Option.some.inj H
  refine bodyPost_ret (results_tmp rfl _ _ _) rfl ?_
  exact ⟨_, rfl, HS⟩
 | some o11439 =>
  (try simp only [onOpt] at H)
  obtain ⟨g11441, cs11442, rfl, HX11443, HK11444⟩ := ptr_some HP0
  obtain ⟨vq11445_0, rfl, HRq11445_0, HLq11445_4, HLq11445_5⟩ := k107_openF HK11444
  replace HRq11445_0 : Ft c [0] w (fun w_ => (Kd.ptr 81 k81).K w_ o11439.f0 [vq11445_0]) := HRq11445_0
  refine st (.bool false) rfl rfl (xr_bin (.pointer (some ⟨g11441, 0, none⟩)) (.pointer none) (.bool false) rfl rfl rfl (B.eql_pn ⟨_, Tryd.underlying36⟩ ⟨g11441, 0, none⟩)) ?_
  refine wl_end ?_
  (try simp only [Act.put, List.setIfInBounds_toArray, ls0, ls1])
  refine hK11438 _ _ ?_
  (try clear hK11438 K11438)
  refine wp_cond_false rfl ?_
  refine wp_skip ?_
  (try simp only [Act.put, List.setIfInBounds_toArray, ls0, ls1])
  refine hK11437 _ _ ?_
  (try clear hK11437 K11437)
  refine wp_seq_k fun K11446 hK11446 => ?_
  refine wl_region ?_
  refine st (.pointer (some ⟨g11441, 0, none⟩)) rfl rfl (xr_move _ rfl rfl) ?_
  refine st (.pointer (some ⟨g11441, 0, none⟩)) rfl rfl (xr_nilCheck _ rfl rfl) ?_
  refine st (.pointer (some ⟨g11441, 8196, none⟩)) rfl rfl (xr_fieldAddr _ _ rfl rfl (bx_field2 Tryd.underlying107 rfl rfl (by kernel_rfl))) ?_
  refine st_call #[.pointer (some ⟨g11441, 8196, none⟩)] rfl rfl Tryd.func65 (by kernel_rfl) rfl rfl (mp_ rfl) ?_
  refine (atomic_load (n := o11439.f4.f0) (bx_cell (l := [vq11445_0, .int .u32 o11439.f1.f0.f0, .int .i32 o11439.f1.f1.f0.f0, .int .u32 o11439.f1.f1.f0.f1] ++ (List.map (Value.int .i8) o11439.f2 ++ (List.map (Value.int .i8) o11439.f3 ++ ([.int .i64 o11439.f4.f0])))) (Ft.now HX11443) 8196 (at_get_ (pre := [vq11445_0, .int .u32 o11439.f1.f0.f0, .int .i32 o11439.f1.f1.f0.f0, .int .u32 o11439.f1.f1.f0.f1] ++ (List.map (Value.int .i8) o11439.f2 ++ (List.map (Value.int .i8) o11439.f3))) (post := []) (by first | (simp only [List.append_assoc, List.cons_append, List.nil_append, List.append_nil]; done) | rfl) (by simp [HLq11445_4, HLq11445_5])))).mono ?_
  rintro _ _ ⟨rfl, rfl⟩
  refine ⟨_, rfl, ?_⟩
  (try simp only [Act.put, List.setIfInBounds_toArray, ls0, ls1])
  refine st (.int .i64 o11439.f4.f0) rfl rfl (xr_assign _ rfl rfl) ?_
  refine wl_end ?_
  (try simp only [Act.put, List.setIfInBounds_toArray, ls0, ls1])
  refine hK11446 _ _ ?_
  (try clear hK11446 K11446)
  refine wp_ret ?_
  (try simp only [Exit.inBlock, Exit.then, Exit.noGoto])
  (try simp only [Act.put, List.setIfInBounds_toArray, ls0, ls1])
  obtain rfl := Option.some.inj H
  refine bodyPost_ret (results_tmp rfl _ _ _) rfl ?_
  exact ⟨_, rfl, HS⟩

/-! ### lattice_Lattice_Join_nil: function 22 -/
def lattice_Lattice_Join_nil.f (a1 : Int) (a2 : Int) : Option (Int) := (lattice_Lattice_in.f (none : Option S107) a1 a2).bind fun t11496 => (if t11496 = true then (none) else (some (-1)))
set_option maxHeartbeats 2000000 in
set_option maxRecDepth 100000 in
theorem lattice_Lattice_Join_nil.calls (a1 : Int) (a2 : Int) (r : Int) (c : Nat → Nat) (w : World) (hc : ∀ k, c k < 10)  (H : lattice_Lattice_Join_nil.f a1 a2 = some r) :
    Calls Tryd.prog 22 #[.pointer none, .int .i64 a1, .int .i64 a2] w fun e w' => ∃ (c' : Nat → Nat) , e = .returned (.int .i64 r) ∧ Step c w c' w' [] := by
 unfold lattice_Lattice_Join_nil.f at H
 have HS := Step.refl c w []
 go_enter Tryd.func22, Tryd.ntmps22
 refine wp_seq_k fun K11490 hK11490 => ?_
 refine wl_region ?_
 refine st (.int .i64 0) rfl rfl (xr_assign _ rfl rfl) ?_
 refine wl_end ?_
 (try simp only [Act.put, List.setIfInBounds_toArray, ls0, ls1])
 refine hK11490 _ _ ?_
 (try clear hK11490 K11490)
 refine wp_seq_k fun K11491 hK11491 => ?_
 refine wp_seq_k fun K11493 hK11493 => ?_
 refine wl_region ?_
 refine st (.pointer none) rfl rfl (xr_move _ rfl rfl) ?_
 refine st (.bool false) rfl rfl (xr_bin (.pointer none) (.pointer none) (.bool false) rfl rfl rfl (B.neq_nn ⟨_, Tryd.underlying36⟩ (⟨0, 0, none⟩ : Addr))) ?_
 refine wl_end ?_
 (try simp only [Act.put, List.setIfInBounds_toArray, ls0, ls1])
 refine hK11493 _ _ ?_
 (try clear hK11493 K11493)
 refine wp_cond_false rfl ?_
 refine wp_skip ?_
 (try simp only [Act.put, List.setIfInBounds_toArray, ls0, ls1])
 refine hK11491 _ _ ?_
 (try clear hK11491 K11491)
 refine wp_seq_k fun K11494 hK11494 => ?_
 refine wp_seq_k fun K11495 hK11495 => ?_
 refine wl_region ?_
 refine st (.pointer none) rfl rfl (xr_move _ rfl rfl) ?_
 refine st (.int .i64 a1) rfl rfl (xr_move _ rfl rfl) ?_
 refine st (.int .i64 a2) rfl rfl (xr_move _ rfl rfl) ?_
 obtain ⟨t11496, A11497, H⟩ := Option.bind_eq_some_iff.mp H
 (try dsimp only at H)
 refine st_call #[.pointer none, .int .i64 a1, .int .i64 a2] rfl rfl Tryd.func62 (by kernel_rfl) rfl rfl (mp_ rfl) ?_
 refine (lattice_Lattice_in.calls (.pointer none) (none : Option S107) a1 a2 t11496  (fun z_ => pal [(0, 0)] (c z_)) w (fun _ => pal_lt rfl _) (ptr_nil _ _ _ _ _) A11497).mono ?_
 rintro _ w11499 ⟨C11500, rfl, hs11501⟩
 refine ⟨_, rfl, ?_⟩
 replace hs11501 := Step.lift (U := [(0, 0)]) hs11501 [] rfl rfl
 generalize up c C11500 w.heap.size [(0, 0)] = C11500_ at hs11501
 replace HS := HS.trans hs11501 hc rfl
 (try simp only [Act.put, List.setIfInBounds_toArray, ls0, ls1])
 refine st (.bool (!t11496)) rfl rfl (xr_un (.bool t11496) _ rfl rfl (by first | rfl | (go_simp; done) | (go_simp; rfl) | (go_simp; exact i64_w _) | (go_simp; exact i32_w _))) ?_
 refine wl_end ?_
 (try simp only [Act.put, List.setIfInBounds_toArray, ls0, ls1])
 refine hK11495 _ _ ?_
 (try clear hK11495 K11495)
 by_cases c11502 : t11496 = true
 ·rw [if_pos c11502] at H
  (try rw [c11502])
  (try simp only [Bool.not_true, Bool.not_false])
  refine wp_cond_false rfl ?_
  refine wp_skip ?_
  (try simp only [Act.put, List.setIfInBounds_toArray, ls0, ls1])
  refine hK11494 _ _ ?_
  (try clear hK11494 K11494)
  refine wp_seq_k fun K11503 hK11503 => ?_
  refine wl_region ?_
  refine st (.pointer none) rfl rfl (xr_move _ rfl rfl) ?_
  refine st (.int .i64 a1) rfl rfl (xr_move _ rfl rfl) ?_
  refine st (.int .i64 a2) rfl rfl (xr_move _ rfl rfl) ?_
  exact absurd H (by simp)
 ·rw [if_neg c11502] at H
  (try rw [(Bool.eq_false_iff.mpr c11502)])
  (try simp only [Bool.not_true, Bool.not_false])
  refine wp_cond_true rfl ?_
  refine wp_seq_k fun K11504 hK11504 => ?_
  refine wl_region ?_
  refine st (.int .i64 (-1)) rfl rfl (xr_assign _ rfl rfl) ?_
  simp only [ls0, ls1]
  refine wl_end ?_
  (try simp only [Act.put, List.setIfInBounds_toArray, ls0, ls1])
  refine hK11504 _ _ ?_
  (try clear hK11504 K11504)
  refine wp_ret ?_
  (try simp only [Exit.inBlock, Exit.then, Exit.noGoto])
  (try simp only [Act.put, List.setIfInBounds_toArray, ls0, ls1])
  obtain rfl := Option.some.inj H
  refine bodyPost_ret (results_tmp rfl _ _ _) rfl ?_
  exact ⟨_, rfl, HS⟩

/-! ### lattice_Lattice_Meet_nil: function 23 -/
def lattice_Lattice_Meet_nil.f (a1 : Int) (a2 : Int) : Option (Int) := (lattice_Lattice_in.f (none : Option S107) a1 a2).bind fun t11533 => (if t11533 = true then (none) else (some (-1)))
set_option maxHeartbeats 2000000 in
set_option maxRecDepth 100000 in
theorem lattice_Lattice_Meet_nil.calls (a1 : Int) (a2 : Int) (r : Int) (c : Nat → Nat) (w : World) (hc : ∀ k, c k < 10)  (H : lattice_Lattice_Meet_nil.f a1 a2 = some r) :
    Calls Tryd.prog 23 #[.pointer none, .int .i64 a1, .int .i64 a2] w fun e w' => ∃ (c' : Nat → Nat) , e = .returned (.int .i64 r) ∧ Step c w c' w' [] := by
 unfold lattice_Lattice_Meet_nil.f at H
 have HS := Step.refl c w []
 go_enter Tryd.func23, Tryd.ntmps23
 refine wp_seq_k fun K11527 hK11527 => ?_
 refine wl_region ?_
 refine st (.int .i64 0) rfl rfl (xr_assign _ rfl rfl) ?_
 refine wl_end ?_
 (try simp only [Act.put, List.setIfInBounds_toArray, ls0, ls1])
 refine hK11527 _ _ ?_
 (try clear hK11527 K11527)
 refine wp_seq_k fun K11528 hK11528 => ?_
 refine wp_seq_k fun K11530 hK11530 => ?_
 refine wl_region ?_
 refine st (.pointer none) rfl rfl (xr_move _ rfl rfl) ?_
 refine st (.bool false) rfl rfl (xr_bin (.pointer none) (.pointer none) (.bool false) rfl rfl rfl (B.neq_nn ⟨_, Tryd.underlying36⟩ (⟨0, 0, none⟩ : Addr))) ?_
 refine wl_end ?_
 (try simp only [Act.put, List.setIfInBounds_toArray, ls0, ls1])
 refine hK11530 _ _ ?_
 (try clear hK11530 K11530)
 refine wp_cond_false rfl ?_
 refine wp_skip ?_
 (try simp only [Act.put, List.setIfInBounds_toArray, ls0, ls1])
 refine hK11528 _ _ ?_
 (try clear hK11528 K11528)
 refine wp_seq_k fun K11531 hK11531 => ?_
 refine wp_seq_k fun K11532 hK11532 => ?_
 refine wl_region ?_
 refine st (.pointer none) rfl rfl (xr_move _ rfl rfl) ?_
 refine st (.int .i64 a1) rfl rfl (xr_move _ rfl rfl) ?_
 refine st (.int .i64 a2) rfl rfl (xr_move _ rfl rfl) ?_
 obtain ⟨t11533, A11534, H⟩ := Option.bind_eq_some_iff.mp H
 (try dsimp only at H)
 refine st_call #[.pointer none, .int .i64 a1, .int .i64 a2] rfl rfl Tryd.func62 (by kernel_rfl) rfl rfl (mp_ rfl) ?_
 refine (lattice_Lattice_in.calls (.pointer none) (none : Option S107) a1 a2 t11533  (fun z_ => pal [(0, 0)] (c z_)) w (fun _ => pal_lt rfl _) (ptr_nil _ _ _ _ _) A11534).mono ?_
 rintro _ w11536 ⟨C11537, rfl, hs11538⟩
 refine ⟨_, rfl, ?_⟩
 replace hs11538 := Step.lift (U := [(0, 0)]) hs11538 [] rfl rfl
 generalize up c C11537 w.heap.size [(0, 0)] = C11537_ at hs11538
 replace HS := HS.trans hs11538 hc rfl
 (try simp only [Act.put, List.setIfInBounds_toArray, ls0, ls1])
 refine st (.bool (!t11533)) rfl rfl (xr_un (.bool t11533) _ rfl rfl (by first | rfl | (go_simp; done) | (go_simp; rfl) | (go_simp; exact i64_w _) | (go_simp; exact i32_w _))) ?_
 refine wl_end ?_
 (try simp only [Act.put, List.setIfInBounds_toArray, ls0, ls1])
 refine hK11532 _ _ ?_
 (try clear hK11532 K11532)
 by_cases c11539 : t11533 = true
 ·rw [if_pos c11539] at H
  (try rw [c11539])
  (try simp only [Bool.not_true, Bool.not_false])
  refine wp_cond_false rfl ?_
  refine wp_skip ?_
  (try simp only [Act.put, List.setIfInBounds_toArray, ls0, ls1])
  refine hK11531 _ _ ?_
  (try clear hK11531 K11531)
  refine wp_seq_k fun K11540 hK11540 => ?_
  refine wl_region ?_
  refine st (.pointer none) rfl rfl (xr_move _ rfl rfl) ?_
  refine st (.int .i64 a1) rfl rfl (xr_move _ rfl rfl) ?_
  refine st (.int .i64 a2) rfl rfl (xr_move _ rfl rfl) ?_
  exact absurd H (by simp)
 ·rw [if_neg c11539] at H
  (try rw [(Bool.eq_false_iff.mpr c11539)])
  (try simp only [Bool.not_true, Bool.not_false])
  refine wp_cond_true rfl ?_
  refine wp_seq_k fun K11541 hK11541 => ?_
  refine wl_region ?_
  refine st (.int .i64 (-1)) rfl rfl (xr_assign _ rfl rfl) ?_
  simp only [ls0, ls1]
  refine wl_end ?_
  (try simp only [Act.put, List.setIfInBounds_toArray, ls0, ls1])
  refine hK11541 _ _ ?_
  (try clear hK11541 K11541)
  refine wp_ret ?_
  (try simp only [Exit.inBlock, Exit.then, Exit.noGoto])
  (try simp only [Act.put, List.setIfInBounds_toArray, ls0, ls1])
  obtain rfl := Option.some.inj H
  refine bodyPost_ret (results_tmp rfl _ _ _) rfl ?_
  exact ⟨_, rfl, HS⟩

/-! ### blazonlaw14_LatticeNil: function 7 -/
def blazonlaw14_LatticeNil.f (k : Nat) (a0 : Int) (a1 : Int) : Option (Bool) := (lattice_New.f k (none : Option S81)).bind fun bt11600 => (if bt11600.2.2.2 = 1 then ((lattice_Lattice_Order.f (none : Option S107)).bind fun t11613 => (onOpt t11613 ((lattice_Lattice_Join_nil.f a0 a1).bind fun t11622 => (if t11622 = (-1) then ((lattice_Lattice_Meet_nil.f a0 a1).bind fun t11629 => (if t11629 = (-1) then ((some ([a0] : List Int)).bind fun y11636 => ((lattice_Lattice_JoinAll.f k (none : Option S107) y11636).bind fun t11645 => (if t11645 = (-1) then ((lattice_Lattice_Bottom.f k (none : Option S107)).bind fun t11652 => (if t11652 = (-1) then ((lattice_Lattice_Top.f k (none : Option S107)).bind fun t11659 => (if t11659 = (-1) then ((lattice_Lattice_Asked.f (none : Option S107)).bind fun t11666 => (if t11666 = 0 then ((blazonlaw14_awake.f k).bind fun t11673 => (some t11673)) else (some false))) else (some false))) else (some false))) else (some false)))) else (some false))) else (some false))) (fun o11621 => (some false)))) else (some false))

set_option maxHeartbeats 2000000 in
set_option maxRecDepth 100000 in
theorem blazonlaw14_LatticeNil.calls (k : Nat) (a0 : Int) (a1 : Int) (r : Bool) (c : Nat → Nat) (w : World) (hc : ∀ k, c k < 10) (HG : Ft c [0] w GTab) (H : blazonlaw14_LatticeNil.f k a0 a1 = some r) :
    Calls Tryd.prog 7 #[.int .i64 a0, .int .i64 a1] w fun e w' => ∃ (c' : Nat → Nat) , e = .returned (.bool r) ∧ Step c w c' w' [] := by
 unfold blazonlaw14_LatticeNil.f at H
 have HS := Step.refl c w []
 go_enter Tryd.func7, Tryd.ntmps7
 refine wp_seq_k fun K11597 hK11597 => ?_
 refine wl_region ?_
 refine st (.bool false) rfl rfl (xr_assign _ rfl rfl) ?_
 refine wl_end ?_
 (try simp only [Act.put, List.setIfInBounds_toArray, ls0, ls1])
 refine hK11597 _ _ ?_
 (try clear hK11597 K11597)
 refine wp_seq_k fun K11598 hK11598 => ?_
 refine wl_region ?_
 refine st (.pointer none) rfl rfl (xr_assign _ rfl rfl) ?_
 refine wl_end ?_
 (try simp only [Act.put, List.setIfInBounds_toArray, ls0, ls1])
 refine hK11598 _ _ ?_
 (try clear hK11598 K11598)
 refine wp_seq_k fun K11599 hK11599 => ?_
 refine wl_region ?_
 obtain ⟨⟨t11600, t11601, t11602, t11603⟩, A11604, H⟩ := Option.bind_eq_some_iff.mp H
 (try dsimp only at H)
 refine st_call #[.pointer none] rfl rfl Tryd.func17 (by kernel_rfl) rfl rfl (mp_ rfl) ?_
 refine (lattice_New.calls k (.pointer none) (none : Option S81) t11600 t11601 t11602 t11603  (fun z_ => pal [(0, 0)] (c z_)) w (fun _ => pal_lt rfl _) (Ft.arg HG rfl) (ptr_nil _ _ _ _ _) A11604).mono ?_
 rintro _ w11606 ⟨C11607, v11609, rfl, hs11608, HB11610⟩
 refine ⟨_, rfl, ?_⟩
 replace HB11610 := OwnPt.res (U := [(0, 0), (5, 11)]) (j := 11) HB11610 hs11608 (by rfl) (by rfl) (by decide) rfl rfl
 replace hs11608 := Step.lift (U := [(0, 0), (5, 11)]) hs11608 [] rfl rfl
 generalize up c C11607 w.heap.size [(0, 0), (5, 11)] = C11607_ at HB11610 hs11608
 replace HG := HG.thru hs11608 rfl
 replace HS := HS.trans hs11608 hc rfl
 (try simp only [Act.put, List.setIfInBounds_toArray, ls0, ls1])
 refine st (.tuple #[v11609, .int .i64 t11601, .int .i64 t11602, .int .i64 t11603]) rfl rfl (xr_move _ rfl rfl) ?_
 refine st (v11609) rfl rfl (xr_extract (.tuple #[v11609, .int .i64 t11601, .int .i64 t11602, .int .i64 t11603]) _ rfl rfl rfl) ?_
 refine st (.int .i64 t11601) rfl rfl (xr_extract (.tuple #[v11609, .int .i64 t11601, .int .i64 t11602, .int .i64 t11603]) _ rfl rfl rfl) ?_
 refine st (.int .i64 t11602) rfl rfl (xr_extract (.tuple #[v11609, .int .i64 t11601, .int .i64 t11602, .int .i64 t11603]) _ rfl rfl rfl) ?_
 simp only [ls0, ls1]
 refine st (.int .i64 t11603) rfl rfl (xr_extract (.tuple #[v11609, .int .i64 t11601, .int .i64 t11602, .int .i64 t11603]) _ rfl rfl rfl) ?_
 refine st (v11609) rfl rfl (xr_assign _ rfl rfl) ?_
 refine st (.int .i64 t11601) rfl rfl (xr_assign _ rfl rfl) ?_
 refine st (.int .i64 t11602) rfl rfl (xr_assign _ rfl rfl) ?_
 simp only [ls0, ls1]
 refine st (.int .i64 t11603) rfl rfl (xr_assign _ rfl rfl) ?_
 refine wl_end ?_
 (try simp only [Act.put, List.setIfInBounds_toArray, ls0, ls1])
 refine hK11599 _ _ ?_
 (try clear hK11599 K11599)
 refine wp_seq_k fun K11611 hK11611 => ?_
 refine wl_region ?_
 refine st (.int .i64 t11603) rfl rfl (xr_move _ rfl rfl) ?_
 refine st (.bool (decide (t11603 = 1))) rfl rfl (xr_bin _ _ _ rfl rfl rfl (B.eql_i64 _ _)) ?_
 refine st (.bool (decide (t11603 = 1))) rfl rfl (xr_move _ rfl rfl) ?_
 by_cases c11612 : t11603 = 1
 ·rw [if_pos c11612] at H
  (try rw [(decide_eq_true c11612)])
  (try simp only [Bool.not_true, Bool.not_false])
  refine on_guard (guard_on 2 true 18 rfl rfl rfl) ?_
  refine st (.pointer none) rfl rfl (xr_move _ rfl rfl) ?_
  simp only [ls0, ls1]
  refine on_guard (guard_on 2 true 18 rfl rfl rfl) ?_
  obtain ⟨t11613, A11614, H⟩ := Option.bind_eq_some_iff.mp H
  (try dsimp only at H)
  refine st_call #[.pointer none] rfl rfl Tryd.func27 (by kernel_rfl) rfl rfl (mp_ rfl) ?_
  refine (lattice_Lattice_Order.calls (.pointer none) (none : Option S107) t11613  (fun z_ => pal [(0, 0)] (C11607_ z_)) w11606 (fun _ => pal_lt rfl _) (ptr_nil _ _ _ _ _) A11614).mono ?_
  rintro _ w11616 ⟨C11617, v11619, rfl, hs11618, HB11620⟩
  refine ⟨_, rfl, ?_⟩
  replace HB11620 := Ft.res (U := [(0, 0)]) HB11620 hs11618 [0] rfl rfl rfl
  replace hs11618 := Step.lift (U := [(0, 0)]) hs11618 [] rfl rfl
  generalize up C11607_ C11617 w11606.heap.size [(0, 0)] = C11617_ at HB11620 hs11618
  replace HG := HG.thru hs11618 rfl
  replace HS := HS.trans hs11618 hc rfl
  (try simp only [Act.put, List.setIfInBounds_toArray, ls0, ls1])
  refine on_guard (guard_on 2 true 18 rfl rfl rfl) ?_
  cases t11613 with
  | none =>
   (try simp only [onOpt] at H)
   obtain rfl := ptr_none HB11620
   refine st (.bool true) rfl rfl (xr_bin (.pointer none) (.pointer none) (.bool true) rfl rfl rfl (B.eql_nn ⟨_, Tryd.underlying26⟩ (⟨0, 0, none⟩ : Addr))) ?_
   refine st (.bool true) rfl rfl (xr_pick true _ rfl rfl rfl) ?_
   refine st (.bool true) rfl rfl (xr_move _ rfl rfl) ?_
   refine on_guard (guard_on 7 true 23 rfl rfl rfl) ?_
   refine st (.pointer none) rfl rfl (xr_move _ rfl rfl) ?_
   simp only [ls0, ls1]
   refine on_guard (guard_on 7 true 23 rfl rfl rfl) ?_
   refine st (.int .i64 a0) rfl rfl (xr_move _ rfl rfl) ?_
   refine on_guard (guard_on 7 true 23 rfl rfl rfl) ?_
   refine st (.int .i64 a1) rfl rfl (xr_move _ rfl rfl) ?_
   refine on_guard (guard_on 7 true 23 rfl rfl rfl) ?_
   obtain ⟨t11622, A11623, H⟩ := Option.bind_eq_some_iff.mp H
   (try dsimp only at H)
   refine st_call #[.pointer none, .int .i64 a0, .int .i64 a1] rfl rfl Tryd.func22 (by kernel_rfl) rfl rfl (mp_ rfl) ?_
   refine (lattice_Lattice_Join_nil.calls a0 a1 t11622  (fun z_ => pal [(0, 0)] (C11617_ z_)) w11616 (fun _ => pal_lt rfl _) A11623).mono ?_
   rintro _ w11625 ⟨C11626, rfl, hs11627⟩
   refine ⟨_, rfl, ?_⟩
   replace hs11627 := Step.lift (U := [(0, 0)]) hs11627 [] rfl rfl
   generalize up C11617_ C11626 w11616.heap.size [(0, 0)] = C11626_ at hs11627
   replace HG := HG.thru hs11627 rfl
   replace HS := HS.trans hs11627 hc rfl
   (try simp only [Act.put, List.setIfInBounds_toArray, ls0, ls1])
   refine on_guard (guard_on 7 true 23 rfl rfl rfl) ?_
   refine st (.bool (decide (t11622 = (-1)))) rfl rfl (xr_bin _ _ _ rfl rfl rfl (B.eql_i64 _ _)) ?_
   refine st (.bool (decide (t11622 = (-1)))) rfl rfl (xr_pick true _ rfl rfl rfl) ?_
   refine st (.bool (decide (t11622 = (-1)))) rfl rfl (xr_move _ rfl rfl) ?_
   by_cases c11628 : t11622 = (-1)
   ·rw [if_pos c11628] at H
    (try rw [(decide_eq_true c11628)])
    (try simp only [Bool.not_true, Bool.not_false])
    refine on_guard (guard_on 14 true 30 rfl rfl rfl) ?_
    refine st (.pointer none) rfl rfl (xr_move _ rfl rfl) ?_
    simp only [ls0, ls1]
    refine on_guard (guard_on 14 true 30 rfl rfl rfl) ?_
    refine st (.int .i64 a0) rfl rfl (xr_move _ rfl rfl) ?_
    refine on_guard (guard_on 14 true 30 rfl rfl rfl) ?_
    refine st (.int .i64 a1) rfl rfl (xr_move _ rfl rfl) ?_
    refine on_guard (guard_on 14 true 30 rfl rfl rfl) ?_
    obtain ⟨t11629, A11630, H⟩ := Option.bind_eq_some_iff.mp H
    (try dsimp only at H)
    refine st_call #[.pointer none, .int .i64 a0, .int .i64 a1] rfl rfl Tryd.func23 (by kernel_rfl) rfl rfl (mp_ rfl) ?_
    refine (lattice_Lattice_Meet_nil.calls a0 a1 t11629  (fun z_ => pal [(0, 0)] (C11626_ z_)) w11625 (fun _ => pal_lt rfl _) A11630).mono ?_
    rintro _ w11632 ⟨C11633, rfl, hs11634⟩
    refine ⟨_, rfl, ?_⟩
    replace hs11634 := Step.lift (U := [(0, 0)]) hs11634 [] rfl rfl
    generalize up C11626_ C11633 w11625.heap.size [(0, 0)] = C11633_ at hs11634
    replace HG := HG.thru hs11634 rfl
    replace HS := HS.trans hs11634 hc rfl
    (try simp only [Act.put, List.setIfInBounds_toArray, ls0, ls1])
    refine on_guard (guard_on 14 true 30 rfl rfl rfl) ?_
    refine st (.bool (decide (t11629 = (-1)))) rfl rfl (xr_bin _ _ _ rfl rfl rfl (B.eql_i64 _ _)) ?_
    refine st (.bool (decide (t11629 = (-1)))) rfl rfl (xr_pick true _ rfl rfl rfl) ?_
    refine st (.bool (decide (t11629 = (-1)))) rfl rfl (xr_move _ rfl rfl) ?_
    by_cases c11635 : t11629 = (-1)
    ·rw [if_pos c11635] at H
     (try rw [(decide_eq_true c11635)])
     (try simp only [Bool.not_true, Bool.not_false])
     refine on_guard (guard_on 21 true 37 rfl rfl rfl) ?_
     refine st (.pointer none) rfl rfl (xr_move _ rfl rfl) ?_
     simp only [ls0, ls1]
     refine on_guard (guard_on 21 true 37 rfl rfl rfl) ?_
     refine st (.int .i64 a0) rfl rfl (xr_move _ rfl rfl) ?_
     refine on_guard (guard_on 21 true 37 rfl rfl rfl) ?_
     obtain ⟨y11636, A11637, H⟩ := Option.bind_eq_some_iff.mp H
     (try dsimp only at H)
     refine Own.lit (Kd.int .i64) (C := C11633_) (i := 12) rfl 3 rfl (xs := [a0]) (inner := [.int .i64 a0]) (by first | (go_simp; done) | (go_simp; rfl)) (reps_cons (fk_int .i64 _ _ a0) rfl (Reps.none _ _)) (by simp only [List.length_cons, List.length_nil]; omega) (Option.some.inj A11637) ?_
     intro A11638 cp11639 w11640 C11641 HO11642 HC11643 hs11644
     replace HG := HG.thru hs11644 rfl
     replace HS := HS.trans hs11644 hc rfl
     (try simp only [Act.put, List.setIfInBounds_toArray, ls0, ls1])
     refine on_guard (guard_on 21 true 37 rfl rfl rfl) ?_
     obtain ⟨t11645, A11646, H⟩ := Option.bind_eq_some_iff.mp H
     (try dsimp only at H)
     refine st_call #[.pointer none, .slice A11638 y11636.length cp11639] rfl rfl Tryd.func19 (by kernel_rfl) rfl rfl (mp_ rfl) ?_
     refine (lattice_Lattice_JoinAll.calls k (.pointer none) (none : Option S107) A11638 cp11639 y11636 t11645  (fun z_ => pal [(0, 0), (12, 0)] (C11641 z_)) w11640 (fun _ => pal_lt rfl _) (ptr_nil _ _ _ _ _) (Ft.arg (HO11642.ft) rfl) HC11643 A11646).mono ?_
     rintro _ w11648 ⟨C11649, rfl, hs11650⟩
     refine ⟨_, rfl, ?_⟩
     replace hs11650 := Step.lift (U := [(0, 0)]) hs11650 [] rfl rfl
     generalize up C11641 C11649 w11640.heap.size [(0, 0)] = C11649_ at hs11650
     replace HG := HG.thru hs11650 rfl
     replace HS := HS.trans hs11650 hc rfl
     (try simp only [Act.put, List.setIfInBounds_toArray, ls0, ls1])
     refine on_guard (guard_on 21 true 37 rfl rfl rfl) ?_
     refine st (.bool (decide (t11645 = (-1)))) rfl rfl (xr_bin _ _ _ rfl rfl rfl (B.eql_i64 _ _)) ?_
     refine st (.bool (decide (t11645 = (-1)))) rfl rfl (xr_pick true _ rfl rfl rfl) ?_
     refine st (.bool (decide (t11645 = (-1)))) rfl rfl (xr_move _ rfl rfl) ?_
     by_cases c11651 : t11645 = (-1)
     ·rw [if_pos c11651] at H
      (try rw [(decide_eq_true c11651)])
      (try simp only [Bool.not_true, Bool.not_false])
      refine on_guard (guard_on 28 true 44 rfl rfl rfl) ?_
      refine st (.pointer none) rfl rfl (xr_move _ rfl rfl) ?_
      simp only [ls0, ls1]
      refine on_guard (guard_on 28 true 44 rfl rfl rfl) ?_
      obtain ⟨t11652, A11653, H⟩ := Option.bind_eq_some_iff.mp H
      (try dsimp only at H)
      refine st_call #[.pointer none] rfl rfl Tryd.func26 (by kernel_rfl) rfl rfl (mp_ rfl) ?_
      refine (lattice_Lattice_Bottom.calls k (.pointer none) (none : Option S107) t11652  (fun z_ => pal [(0, 0)] (C11649_ z_)) w11648 (fun _ => pal_lt rfl _) (ptr_nil _ _ _ _ _) A11653).mono ?_
      rintro _ w11655 ⟨C11656, rfl, hs11657⟩
      refine ⟨_, rfl, ?_⟩
      replace hs11657 := Step.lift (U := [(0, 0)]) hs11657 [] rfl rfl
      generalize up C11649_ C11656 w11648.heap.size [(0, 0)] = C11656_ at hs11657
      replace HG := HG.thru hs11657 rfl
      replace HS := HS.trans hs11657 hc rfl
      (try simp only [Act.put, List.setIfInBounds_toArray, ls0, ls1])
      refine on_guard (guard_on 28 true 44 rfl rfl rfl) ?_
      refine st (.bool (decide (t11652 = (-1)))) rfl rfl (xr_bin _ _ _ rfl rfl rfl (B.eql_i64 _ _)) ?_
      refine st (.bool (decide (t11652 = (-1)))) rfl rfl (xr_pick true _ rfl rfl rfl) ?_
      refine st (.bool (decide (t11652 = (-1)))) rfl rfl (xr_move _ rfl rfl) ?_
      by_cases c11658 : t11652 = (-1)
      ·rw [if_pos c11658] at H
       (try rw [(decide_eq_true c11658)])
       (try simp only [Bool.not_true, Bool.not_false])
       refine on_guard (guard_on 33 true 49 rfl rfl rfl) ?_
       refine st (.pointer none) rfl rfl (xr_move _ rfl rfl) ?_
       simp only [ls0, ls1]
       refine on_guard (guard_on 33 true 49 rfl rfl rfl) ?_
       obtain ⟨t11659, A11660, H⟩ := Option.bind_eq_some_iff.mp H
       (try dsimp only at H)
       refine st_call #[.pointer none] rfl rfl Tryd.func25 (by kernel_rfl) rfl rfl (mp_ rfl) ?_
       refine (lattice_Lattice_Top.calls k (.pointer none) (none : Option S107) t11659  (fun z_ => pal [(0, 0)] (C11656_ z_)) w11655 (fun _ => pal_lt rfl _) (ptr_nil _ _ _ _ _) A11660).mono ?_
       rintro _ w11662 ⟨C11663, rfl, hs11664⟩
       refine ⟨_, rfl, ?_⟩
       replace hs11664 := Step.lift (U := [(0, 0)]) hs11664 [] rfl rfl
       generalize up C11656_ C11663 w11655.heap.size [(0, 0)] = C11663_ at hs11664
       replace HG := HG.thru hs11664 rfl
       replace HS := HS.trans hs11664 hc rfl
       (try simp only [Act.put, List.setIfInBounds_toArray, ls0, ls1])
       refine on_guard (guard_on 33 true 49 rfl rfl rfl) ?_
       refine st (.bool (decide (t11659 = (-1)))) rfl rfl (xr_bin _ _ _ rfl rfl rfl (B.eql_i64 _ _)) ?_
       refine st (.bool (decide (t11659 = (-1)))) rfl rfl (xr_pick true _ rfl rfl rfl) ?_
       refine st (.bool (decide (t11659 = (-1)))) rfl rfl (xr_move _ rfl rfl) ?_
       by_cases c11665 : t11659 = (-1)
       ·rw [if_pos c11665] at H
        (try rw [(decide_eq_true c11665)])
        (try simp only [Bool.not_true, Bool.not_false])
        refine on_guard (guard_on 38 true 54 rfl rfl rfl) ?_
        refine st (.pointer none) rfl rfl (xr_move _ rfl rfl) ?_
        simp only [ls0, ls1]
        refine on_guard (guard_on 38 true 54 rfl rfl rfl) ?_
        obtain ⟨t11666, A11667, H⟩ := Option.bind_eq_some_iff.mp H
        (try dsimp only at H)
        refine st_call #[.pointer none] rfl rfl Tryd.func28 (by kernel_rfl) rfl rfl (mp_ rfl) ?_
        refine (lattice_Lattice_Asked.calls (.pointer none) (none : Option S107) t11666  (fun z_ => pal [(0, 0)] (C11663_ z_)) w11662 (fun _ => pal_lt rfl _) (ptr_nil _ _ _ _ _) A11667).mono ?_
        rintro _ w11669 ⟨C11670, rfl, hs11671⟩
        refine ⟨_, rfl, ?_⟩
        replace hs11671 := Step.lift (U := [(0, 0)]) hs11671 [] rfl rfl
        generalize up C11663_ C11670 w11662.heap.size [(0, 0)] = C11670_ at hs11671
        replace HG := HG.thru hs11671 rfl
        replace HS := HS.trans hs11671 hc rfl
        (try simp only [Act.put, List.setIfInBounds_toArray, ls0, ls1])
        refine on_guard (guard_on 38 true 54 rfl rfl rfl) ?_
        refine st (.bool (decide (t11666 = 0))) rfl rfl (xr_bin _ _ _ rfl rfl rfl (B.eql_i64 _ _)) ?_
        refine st (.bool (decide (t11666 = 0))) rfl rfl (xr_pick true _ rfl rfl rfl) ?_
        refine st (.bool (decide (t11666 = 0))) rfl rfl (xr_move _ rfl rfl) ?_
        by_cases c11672 : t11666 = 0
        ·rw [if_pos c11672] at H
         (try rw [(decide_eq_true c11672)])
         (try simp only [Bool.not_true, Bool.not_false])
         refine on_guard (guard_on 43 true 59 rfl rfl rfl) ?_
         obtain ⟨t11673, A11674, H⟩ := Option.bind_eq_some_iff.mp H
         (try dsimp only at H)
         refine st_call #[] rfl rfl Tryd.func14 (by kernel_rfl) rfl rfl (mp_ rfl) ?_
         refine (blazonlaw14_awake.calls k t11673  (fun z_ => pal [(0, 0)] (C11670_ z_)) w11669 (fun _ => pal_lt rfl _) (Ft.arg HG rfl) A11674).mono ?_
         rintro _ w11676 ⟨C11677, rfl, hs11678⟩
         refine ⟨_, rfl, ?_⟩
         replace hs11678 := Step.lift (U := [(0, 0)]) hs11678 [] rfl rfl
         generalize up C11670_ C11677 w11669.heap.size [(0, 0)] = C11677_ at hs11678
         replace HG := HG.thru hs11678 rfl
         replace HS := HS.trans hs11678 hc rfl
         (try simp only [Act.put, List.setIfInBounds_toArray, ls0, ls1])
         refine st (.bool t11673) rfl rfl (xr_pick true _ rfl rfl rfl) ?_
         refine st (.bool t11673) rfl rfl (xr_assign _ rfl rfl) ?_
         refine wl_end ?_
         (try simp only [Act.put, List.setIfInBounds_toArray, ls0, ls1])
         refine hK11611 _ _ ?_
         (try clear hK11611 K11611)
         refine wp_ret ?_
         (try simp only [Exit.inBlock, Exit.then, Exit.noGoto])
         (try simp only [Act.put, List.setIfInBounds_toArray, ls0, ls1])
         obtain rfl := Option.some.inj H
         refine bodyPost_ret (results_tmp rfl _ _ _) rfl ?_
         exact ⟨_, rfl, HS⟩
        ·rw [if_neg c11672] at H
         (try rw [(decide_eq_false c11672)])
         (try simp only [Bool.not_true, Bool.not_false])
         refine sk_guard (guard_off 43 true 59 rfl rfl false (by decide) rfl) rfl ?_
         refine st (.bool false) rfl rfl (xr_pick false _ rfl rfl rfl) ?_
         refine st (.bool false) rfl rfl (xr_assign _ rfl rfl) ?_
         refine wl_end ?_
         (try simp only [Act.put, List.setIfInBounds_toArray, ls0, ls1])
         refine hK11611 _ _ ?_
         (try clear hK11611 K11611)
         refine wp_ret ?_
         (try simp only [Exit.inBlock, Exit.then, Exit.noGoto])
         (try simp only [Act.put, List.setIfInBounds_toArray, ls0, ls1])
         obtain rfl := Option.some.inj H
         refine bodyPost_ret (results_tmp rfl _ _ _) rfl ?_
         exact ⟨_, rfl, HS⟩
       ·rw [if_neg c11665] at H
        (try rw [(decide_eq_false c11665)])
        (try simp only [Bool.not_true, Bool.not_false])
        refine sk_guard (guard_off 38 true 54 rfl rfl false (by decide) rfl) rfl ?_
        refine sk_guard (guard_off 38 true 54 rfl rfl false (by decide) rfl) rfl ?_
        refine sk_guard (guard_off 38 true 54 rfl rfl false (by decide) rfl) rfl ?_
        refine st (.bool false) rfl rfl (xr_pick false _ rfl rfl rfl) ?_
        simp only [ls0, ls1]
        refine st (.bool false) rfl rfl (xr_move _ rfl rfl) ?_
        refine sk_guard (guard_off 43 true 59 rfl rfl false (by decide) rfl) rfl ?_
        refine st (.bool false) rfl rfl (xr_pick false _ rfl rfl rfl) ?_
        refine st (.bool false) rfl rfl (xr_assign _ rfl rfl) ?_
        simp only [ls0, ls1]
        refine wl_end ?_
        (try simp only [Act.put, List.setIfInBounds_toArray, ls0, ls1])
        refine hK11611 _ _ ?_
        (try clear hK11611 K11611)
        refine wp_ret ?_
        (try simp only [Exit.inBlock, Exit.then, Exit.noGoto])
        (try simp only [Act.put, List.setIfInBounds_toArray, ls0, ls1])
        obtain rfl := Option.some.inj H
        refine bodyPost_ret (results_tmp rfl _ _ _) rfl ?_
        exact ⟨_, rfl, HS⟩
      ·rw [if_neg c11658] at H
       (try rw [(decide_eq_false c11658)])
       (try simp only [Bool.not_true, Bool.not_false])
       refine sk_guard (guard_off 33 true 49 rfl rfl false (by decide) rfl) rfl ?_
       refine sk_guard (guard_off 33 true 49 rfl rfl false (by decide) rfl) rfl ?_
       refine sk_guard (guard_off 33 true 49 rfl rfl false (by decide) rfl) rfl ?_
       refine st (.bool false) rfl rfl (xr_pick false _ rfl rfl rfl) ?_
       simp only [ls0, ls1]
       refine st (.bool false) rfl rfl (xr_move _ rfl rfl) ?_
       refine sk_guard (guard_off 38 true 54 rfl rfl false (by decide) rfl) rfl ?_
       refine sk_guard (guard_off 38 true 54 rfl rfl false (by decide) rfl) rfl ?_
       refine sk_guard (guard_off 38 true 54 rfl rfl false (by decide) rfl) rfl ?_
       simp only [ls0, ls1]
       refine st (.bool false) rfl rfl (xr_pick false _ rfl rfl rfl) ?_
       refine st (.bool false) rfl rfl (xr_move _ rfl rfl) ?_
       refine sk_guard (guard_off 43 true 59 rfl rfl false (by decide) rfl) rfl ?_
       refine st (.bool false) rfl rfl (xr_pick false _ rfl rfl rfl) ?_
       simp only [ls0, ls1]
       refine st (.bool false) rfl rfl (xr_assign _ rfl rfl) ?_
       refine wl_end ?_
       (try simp only [Act.put, List.setIfInBounds_toArray, ls0, ls1])
       refine hK11611 _ _ ?_
       (try clear hK11611 K11611)
       refine wp_ret ?_
       (try simp only [Exit.inBlock, Exit.then, Exit.noGoto])
       (try simp only [Act.put, List.setIfInBounds_toArray, ls0, ls1])
       obtain rfl := Option.some.inj H
       refine bodyPost_ret (results_tmp rfl _ _ _) rfl ?_
       exact ⟨_, rfl, HS⟩
     ·rw [if_neg c11651] at H
      (try rw [(decide_eq_false c11651)])
      (try simp only [Bool.not_true, Bool.not_false])
      refine sk_guard (guard_off 28 true 44 rfl rfl false (by decide) rfl) rfl ?_
      refine sk_guard (guard_off 28 true 44 rfl rfl false (by decide) rfl) rfl ?_
      refine sk_guard (guard_off 28 true 44 rfl rfl false (by decide) rfl) rfl ?_
      refine st (.bool false) rfl rfl (xr_pick false _ rfl rfl rfl) ?_
      simp only [ls0, ls1]
      refine st (.bool false) rfl rfl (xr_move _ rfl rfl) ?_
      refine sk_guard (guard_off 33 true 49 rfl rfl false (by decide) rfl) rfl ?_
      refine sk_guard (guard_off 33 true 49 rfl rfl false (by decide) rfl) rfl ?_
      refine sk_guard (guard_off 33 true 49 rfl rfl false (by decide) rfl) rfl ?_
      simp only [ls0, ls1]
      refine st (.bool false) rfl rfl (xr_pick false _ rfl rfl rfl) ?_
      refine st (.bool false) rfl rfl (xr_move _ rfl rfl) ?_
      refine sk_guard (guard_off 38 true 54 rfl rfl false (by decide) rfl) rfl ?_
      refine sk_guard (guard_off 38 true 54 rfl rfl false (by decide) rfl) rfl ?_
      simp only [ls0, ls1]
      refine sk_guard (guard_off 38 true 54 rfl rfl false (by decide) rfl) rfl ?_
      refine st (.bool false) rfl rfl (xr_pick false _ rfl rfl rfl) ?_
      refine st (.bool false) rfl rfl (xr_move _ rfl rfl) ?_
      refine sk_guard (guard_off 43 true 59 rfl rfl false (by decide) rfl) rfl ?_
      simp only [ls0, ls1]
      refine st (.bool false) rfl rfl (xr_pick false _ rfl rfl rfl) ?_
      refine st (.bool false) rfl rfl (xr_assign _ rfl rfl) ?_
      refine wl_end ?_
      (try simp only [Act.put, List.setIfInBounds_toArray, ls0, ls1])
      refine hK11611 _ _ ?_
      (try clear hK11611 K11611)
      refine wp_ret ?_
      (try simp only [Exit.inBlock, Exit.then, Exit.noGoto])
      (try simp only [Act.put, List.setIfInBounds_toArray, ls0, ls1])
      obtain rfl := Option.some.inj H
      refine bodyPost_ret (results_tmp rfl _ _ _) rfl ?_
      exact ⟨_, rfl, HS⟩
    ·rw [if_neg c11635] at H
     (try rw [(decide_eq_false c11635)])
     (try simp only [Bool.not_true, Bool.not_false])
     refine sk_guard (guard_off 21 true 37 rfl rfl false (by decide) rfl) rfl ?_
     refine sk_guard (guard_off 21 true 37 rfl rfl false (by decide) rfl) rfl ?_
     refine sk_guard (guard_off 21 true 37 rfl rfl false (by decide) rfl) rfl ?_
     refine sk_guard (guard_off 21 true 37 rfl rfl false (by decide) rfl) rfl ?_
     simp only [ls0, ls1]
     refine sk_guard (guard_off 21 true 37 rfl rfl false (by decide) rfl) rfl ?_
     refine st (.bool false) rfl rfl (xr_pick false _ rfl rfl rfl) ?_
     refine st (.bool false) rfl rfl (xr_move _ rfl rfl) ?_
     refine sk_guard (guard_off 28 true 44 rfl rfl false (by decide) rfl) rfl ?_
     simp only [ls0, ls1]
     refine sk_guard (guard_off 28 true 44 rfl rfl false (by decide) rfl) rfl ?_
     refine sk_guard (guard_off 28 true 44 rfl rfl false (by decide) rfl) rfl ?_
     refine st (.bool false) rfl rfl (xr_pick false _ rfl rfl rfl) ?_
     refine st (.bool false) rfl rfl (xr_move _ rfl rfl) ?_
     simp only [ls0, ls1]
     refine sk_guard (guard_off 33 true 49 rfl rfl false (by decide) rfl) rfl ?_
     refine sk_guard (guard_off 33 true 49 rfl rfl false (by decide) rfl) rfl ?_
     refine sk_guard (guard_off 33 true 49 rfl rfl false (by decide) rfl) rfl ?_
     refine st (.bool false) rfl rfl (xr_pick false _ rfl rfl rfl) ?_
     simp only [ls0, ls1]
     refine st (.bool false) rfl rfl (xr_move _ rfl rfl) ?_
     refine sk_guard (guard_off 38 true 54 rfl rfl false (by decide) rfl) rfl ?_
     refine sk_guard (guard_off 38 true 54 rfl rfl false (by decide) rfl) rfl ?_
     refine sk_guard (guard_off 38 true 54 rfl rfl false (by decide) rfl) rfl ?_
     simp only [ls0, ls1]
     refine st (.bool false) rfl rfl (xr_pick false _ rfl rfl rfl) ?_
     refine st (.bool false) rfl rfl (xr_move _ rfl rfl) ?_
     refine sk_guard (guard_off 43 true 59 rfl rfl false (by decide) rfl) rfl ?_
     refine st (.bool false) rfl rfl (xr_pick false _ rfl rfl rfl) ?_
     simp only [ls0, ls1]
     refine st (.bool false) rfl rfl (xr_assign _ rfl rfl) ?_
     refine wl_end ?_
     (try simp only [Act.put, List.setIfInBounds_toArray, ls0, ls1])
     refine hK11611 _ _ ?_
     (try clear hK11611 K11611)
     refine wp_ret ?_
     (try simp only [Exit.inBlock, Exit.then, Exit.noGoto])
     (try simp only [Act.put, List.setIfInBounds_toArray, ls0, ls1])
     obtain rfl := Option.some.inj H
     refine bodyPost_ret (results_tmp rfl _ _ _) rfl ?_
     exact ⟨_, rfl, HS⟩
   ·rw [if_neg c11628] at H
    (try rw [(decide_eq_false c11628)])
    (try simp only [Bool.not_true, Bool.not_false])
    refine sk_guard (guard_off 14 true 30 rfl rfl false (by decide) rfl) rfl ?_
    refine sk_guard (guard_off 14 true 30 rfl rfl false (by decide) rfl) rfl ?_
    refine sk_guard (guard_off 14 true 30 rfl rfl false (by decide) rfl) rfl ?_
    refine sk_guard (guard_off 14 true 30 rfl rfl false (by decide) rfl) rfl ?_
    simp only [ls0, ls1]
    refine sk_guard (guard_off 14 true 30 rfl rfl false (by decide) rfl) rfl ?_
    refine st (.bool false) rfl rfl (xr_pick false _ rfl rfl rfl) ?_
    refine st (.bool false) rfl rfl (xr_move _ rfl rfl) ?_
    refine sk_guard (guard_off 21 true 37 rfl rfl false (by decide) rfl) rfl ?_
    simp only [ls0, ls1]
    refine sk_guard (guard_off 21 true 37 rfl rfl false (by decide) rfl) rfl ?_
    refine sk_guard (guard_off 21 true 37 rfl rfl false (by decide) rfl) rfl ?_
    refine sk_guard (guard_off 21 true 37 rfl rfl false (by decide) rfl) rfl ?_
    refine sk_guard (guard_off 21 true 37 rfl rfl false (by decide) rfl) rfl ?_
    simp only [ls0, ls1]
    refine st (.bool false) rfl rfl (xr_pick false _ rfl rfl rfl) ?_
    refine st (.bool false) rfl rfl (xr_move _ rfl rfl) ?_
    refine sk_guard (guard_off 28 true 44 rfl rfl false (by decide) rfl) rfl ?_
    refine sk_guard (guard_off 28 true 44 rfl rfl false (by decide) rfl) rfl ?_
    simp only [ls0, ls1]
    refine sk_guard (guard_off 28 true 44 rfl rfl false (by decide) rfl) rfl ?_
    refine st (.bool false) rfl rfl (xr_pick false _ rfl rfl rfl) ?_
    refine st (.bool false) rfl rfl (xr_move _ rfl rfl) ?_
    refine sk_guard (guard_off 33 true 49 rfl rfl false (by decide) rfl) rfl ?_
    simp only [ls0, ls1]
    refine sk_guard (guard_off 33 true 49 rfl rfl false (by decide) rfl) rfl ?_
    refine sk_guard (guard_off 33 true 49 rfl rfl false (by decide) rfl) rfl ?_
    refine st (.bool false) rfl rfl (xr_pick false _ rfl rfl rfl) ?_
    refine st (.bool false) rfl rfl (xr_move _ rfl rfl) ?_
    simp only [ls0, ls1]
    refine sk_guard (guard_off 38 true 54 rfl rfl false (by decide) rfl) rfl ?_
    refine sk_guard (guard_off 38 true 54 rfl rfl false (by decide) rfl) rfl ?_
    refine sk_guard (guard_off 38 true 54 rfl rfl false (by decide) rfl) rfl ?_
    refine st (.bool false) rfl rfl (xr_pick false _ rfl rfl rfl) ?_
    simp only [ls0, ls1]
    refine st (.bool false) rfl rfl (xr_move _ rfl rfl) ?_
    refine sk_guard (guard_off 43 true 59 rfl rfl false (by decide) rfl) rfl ?_
    refine st (.bool false) rfl rfl (xr_pick false _ rfl rfl rfl) ?_
    refine st (.bool false) rfl rfl (xr_assign _ rfl rfl) ?_
    simp only [ls0, ls1]
    refine wl_end ?_
    (try simp only [Act.put, List.setIfInBounds_toArray, ls0, ls1])
    refine hK11611 _ _ ?_
    (try clear hK11611 K11611)
    refine wp_ret ?_
    (try simp only [Exit.inBlock, Exit.then, Exit.noGoto])
    (try simp only [Act.put, List.setIfInBounds_toArray, ls0, ls1])
    obtain rfl := Option.some.inj H
    refine bodyPost_ret (results_tmp rfl _ _ _) rfl ?_
    exact ⟨_, rfl, HS⟩
  | some o11621 =>
   (try simp only [onOpt] at H)
   obtain ⟨g11679, cs11680, rfl, HX11681, HK11682⟩ := ptr_some HB11620
   obtain ⟨Aq11683_0, cpq11683_0, vq11683_1, rfl, HCq11683_0, HRq11683_0, HRq11683_1, HLq11683_2, HLq11683_3⟩ := k81_openF HK11682
   replace HRq11683_0 : Ft C11617_ [0] w11616 (fun w_ => Kd.string.C w_ Aq11683_0 o11621.f0.length o11621.f0) := HRq11683_0
   replace HRq11683_1 : Ft C11617_ [0] w11616 (fun w_ => (Kd.mp Value.string (Value.int .i64)).K w_ o11621.f1 [vq11683_1]) := HRq11683_1
   refine st (.bool false) rfl rfl (xr_bin (.pointer (some ⟨g11679, 0, none⟩)) (.pointer none) (.bool false) rfl rfl rfl (B.eql_pn ⟨_, Tryd.underlying26⟩ ⟨g11679, 0, none⟩)) ?_
   refine st (.bool false) rfl rfl (xr_pick true _ rfl rfl rfl) ?_
   refine st (.bool false) rfl rfl (xr_move _ rfl rfl) ?_
   refine sk_guard (guard_off 7 true 23 rfl rfl false (by decide) rfl) rfl ?_
   simp only [ls0, ls1]
   refine sk_guard (guard_off 7 true 23 rfl rfl false (by decide) rfl) rfl ?_
   refine sk_guard (guard_off 7 true 23 rfl rfl false (by decide) rfl) rfl ?_
   refine sk_guard (guard_off 7 true 23 rfl rfl false (by decide) rfl) rfl ?_
   refine sk_guard (guard_off 7 true 23 rfl rfl false (by decide) rfl) rfl ?_
   simp only [ls0, ls1]
   refine st (.bool false) rfl rfl (xr_pick false _ rfl rfl rfl) ?_
   refine st (.bool false) rfl rfl (xr_move _ rfl rfl) ?_
   refine sk_guard (guard_off 14 true 30 rfl rfl false (by decide) rfl) rfl ?_
   refine sk_guard (guard_off 14 true 30 rfl rfl false (by decide) rfl) rfl ?_
   simp only [ls0, ls1]
   refine sk_guard (guard_off 14 true 30 rfl rfl false (by decide) rfl) rfl ?_
   refine sk_guard (guard_off 14 true 30 rfl rfl false (by decide) rfl) rfl ?_
   refine sk_guard (guard_off 14 true 30 rfl rfl false (by decide) rfl) rfl ?_
   refine st (.bool false) rfl rfl (xr_pick false _ rfl rfl rfl) ?_
   simp only [ls0, ls1]
   refine st (.bool false) rfl rfl (xr_move _ rfl rfl) ?_
   refine sk_guard (guard_off 21 true 37 rfl rfl false (by decide) rfl) rfl ?_
   refine sk_guard (guard_off 21 true 37 rfl rfl false (by decide) rfl) rfl ?_
   refine sk_guard (guard_off 21 true 37 rfl rfl false (by decide) rfl) rfl ?_
   simp only [ls0, ls1]
   refine sk_guard (guard_off 21 true 37 rfl rfl false (by decide) rfl) rfl ?_
   refine sk_guard (guard_off 21 true 37 rfl rfl false (by decide) rfl) rfl ?_
   refine st (.bool false) rfl rfl (xr_pick false _ rfl rfl rfl) ?_
   refine st (.bool false) rfl rfl (xr_move _ rfl rfl) ?_
   simp only [ls0, ls1]
   refine sk_guard (guard_off 28 true 44 rfl rfl false (by decide) rfl) rfl ?_
   refine sk_guard (guard_off 28 true 44 rfl rfl false (by decide) rfl) rfl ?_
   refine sk_guard (guard_off 28 true 44 rfl rfl false (by decide) rfl) rfl ?_
   refine st (.bool false) rfl rfl (xr_pick false _ rfl rfl rfl) ?_
   simp only [ls0, ls1]
   refine st (.bool false) rfl rfl (xr_move _ rfl rfl) ?_
   refine sk_guard (guard_off 33 true 49 rfl rfl false (by decide) rfl) rfl ?_
   refine sk_guard (guard_off 33 true 49 rfl rfl false (by decide) rfl) rfl ?_
   refine sk_guard (guard_off 33 true 49 rfl rfl false (by decide) rfl) rfl ?_
   simp only [ls0, ls1]
   refine st (.bool false) rfl rfl (xr_pick false _ rfl rfl rfl) ?_
   refine st (.bool false) rfl rfl (xr_move _ rfl rfl) ?_
   refine sk_guard (guard_off 38 true 54 rfl rfl false (by decide) rfl) rfl ?_
   refine sk_guard (guard_off 38 true 54 rfl rfl false (by decide) rfl) rfl ?_
   simp only [ls0, ls1]
   refine sk_guard (guard_off 38 true 54 rfl rfl false (by decide) rfl) rfl ?_
   refine st (.bool false) rfl rfl (xr_pick false _ rfl rfl rfl) ?_
   refine st (.bool false) rfl rfl (xr_move _ rfl rfl) ?_
   refine sk_guard (guard_off 43 true 59 rfl rfl false (by decide) rfl) rfl ?_
   simp only [ls0, ls1]
   refine st (.bool false) rfl rfl (xr_pick false _ rfl rfl rfl) ?_
   refine st (.bool false) rfl rfl (xr_assign _ rfl rfl) ?_
   refine wl_end ?_
   (try simp only [Act.put, List.setIfInBounds_toArray, ls0, ls1])
   refine hK11611 _ _ ?_
   (try clear hK11611 K11611)
   refine wp_ret ?_
   (try simp only [Exit.inBlock, Exit.then, Exit.noGoto])
   (try simp only [Act.put, List.setIfInBounds_toArray, ls0, ls1])
   obtain rfl := Option.some.inj H
   refine bodyPost_ret (results_tmp rfl _ _ _) rfl ?_
   exact ⟨_, rfl, HS⟩
 ·rw [if_neg c11612] at H
  (try rw [(decide_eq_false c11612)])
  (try simp only [Bool.not_true, Bool.not_false])
  refine sk_guard (guard_off 2 true 18 rfl rfl false (by decide) rfl) rfl ?_
  refine sk_guard (guard_off 2 true 18 rfl rfl false (by decide) rfl) rfl ?_
  refine sk_guard (guard_off 2 true 18 rfl rfl false (by decide) rfl) rfl ?_
  refine st (.bool false) rfl rfl (xr_pick false _ rfl rfl rfl) ?_
  simp only [ls0, ls1]
  refine st (.bool false) rfl rfl (xr_move _ rfl rfl) ?_
  refine sk_guard (guard_off 7 true 23 rfl rfl false (by decide) rfl) rfl ?_
  refine sk_guard (guard_off 7 true 23 rfl rfl false (by decide) rfl) rfl ?_
  refine sk_guard (guard_off 7 true 23 rfl rfl false (by decide) rfl) rfl ?_
  simp only [ls0, ls1]
  refine sk_guard (guard_off 7 true 23 rfl rfl false (by decide) rfl) rfl ?_
  refine sk_guard (guard_off 7 true 23 rfl rfl false (by decide) rfl) rfl ?_
  refine st (.bool false) rfl rfl (xr_pick false _ rfl rfl rfl) ?_
  refine st (.bool false) rfl rfl (xr_move _ rfl rfl) ?_
  simp only [ls0, ls1]
  refine sk_guard (guard_off 14 true 30 rfl rfl false (by decide) rfl) rfl ?_
  refine sk_guard (guard_off 14 true 30 rfl rfl false (by decide) rfl) rfl ?_
  refine sk_guard (guard_off 14 true 30 rfl rfl false (by decide) rfl) rfl ?_
  refine sk_guard (guard_off 14 true 30 rfl rfl false (by decide) rfl) rfl ?_
  simp only [ls0, ls1]
  refine sk_guard (guard_off 14 true 30 rfl rfl false (by decide) rfl) rfl ?_
  refine st (.bool false) rfl rfl (xr_pick false _ rfl rfl rfl) ?_
  refine st (.bool false) rfl rfl (xr_move _ rfl rfl) ?_
  refine sk_guard (guard_off 21 true 37 rfl rfl false (by decide) rfl) rfl ?_
  simp only [ls0, ls1]
  refine sk_guard (guard_off 21 true 37 rfl rfl false (by decide) rfl) rfl ?_
  refine sk_guard (guard_off 21 true 37 rfl rfl false (by decide) rfl) rfl ?_
  refine sk_guard (guard_off 21 true 37 rfl rfl false (by decide) rfl) rfl ?_
  refine sk_guard (guard_off 21 true 37 rfl rfl false (by decide) rfl) rfl ?_
  simp only [ls0, ls1]
  refine st (.bool false) rfl rfl (xr_pick false _ rfl rfl rfl) ?_
  refine st (.bool false) rfl rfl (xr_move _ rfl rfl) ?_
  refine sk_guard (guard_off 28 true 44 rfl rfl false (by decide) rfl) rfl ?_
  refine sk_guard (guard_off 28 true 44 rfl rfl false (by decide) rfl) rfl ?_
  simp only [ls0, ls1]
  refine sk_guard (guard_off 28 true 44 rfl rfl false (by decide) rfl) rfl ?_
  refine st (.bool false) rfl rfl (xr_pick false _ rfl rfl rfl) ?_
  refine st (.bool false) rfl rfl (xr_move _ rfl rfl) ?_
  refine sk_guard (guard_off 33 true 49 rfl rfl false (by decide) rfl) rfl ?_
  simp only [ls0, ls1]
  refine sk_guard (guard_off 33 true 49 rfl rfl false (by decide) rfl) rfl ?_
  refine sk_guard (guard_off 33 true 49 rfl rfl false (by decide) rfl) rfl ?_
  refine st (.bool false) rfl rfl (xr_pick false _ rfl rfl rfl) ?_
  refine st (.bool false) rfl rfl (xr_move _ rfl rfl) ?_
  simp only [ls0, ls1]
  refine sk_guard (guard_off 38 true 54 rfl rfl false (by decide) rfl) rfl ?_
  refine sk_guard (guard_off 38 true 54 rfl rfl false (by decide) rfl) rfl ?_
  refine sk_guard (guard_off 38 true 54 rfl rfl false (by decide) rfl) rfl ?_
  refine st (.bool false) rfl rfl (xr_pick false _ rfl rfl rfl) ?_
  simp only [ls0, ls1]
  refine st (.bool false) rfl rfl (xr_move _ rfl rfl) ?_
  refine sk_guard (guard_off 43 true 59 rfl rfl false (by decide) rfl) rfl ?_
  refine st (.bool false) rfl rfl (xr_pick false _ rfl rfl rfl) ?_
  refine st (.bool false) rfl rfl (xr_assign _ rfl rfl) ?_
  simp only [ls0, ls1]
  refine wl_end ?_
  (try simp only [Act.put, List.setIfInBounds_toArray, ls0, ls1])
  refine hK11611 _ _ ?_
  (try clear hK11611 K11611)
  refine wp_ret ?_
  (try simp only [Exit.inBlock, Exit.then, Exit.noGoto])
  (try simp only [Act.put, List.setIfInBounds_toArray, ls0, ls1])
  obtain rfl := Option.some.inj H
  refine bodyPost_ret (results_tmp rfl _ _ _) rfl ?_
  exact ⟨_, rfl, HS⟩
/-- THE ONE PURE STATEMENT of blazonlaw14_LatticeNil. -/
def blazonlaw14_LatticeNil.Pure : Prop := ∀ (a0 : Int) (a1 : Int), (Lit.int .i64 a0).wf = true → (Lit.int .i64 a1).wf = true → ∃ k, blazonlaw14_LatticeNil.f k a0 a1 = some true

end Go.Proofs.YtpfepkkpbampkaaDoor.PLan
