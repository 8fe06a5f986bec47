-- By cprint.py, a program of this work. Lean checks it.
import Derived.Test.YtpfepkkpbampkaaDoorPIrnx0
import Derived.Test.YtpfepkkpbampkaaDoorPIrnx1
import Derived.Test.YtpfepkkpbampkaaDoorPIrnx2
import Derived.Test.YtpfepkkpbampkaaDoorPIrnx3
import Derived.Test.YtpfepkkpbampkaaDoorPIrnx4
import Derived.Test.YtpfepkkpbampkaaDoorPIrnx5
import Derived.Test.YtpfepkkpbampkaaDoorPIrnx6
namespace Go.Proofs.YtpfepkkpbampkaaDoor.PIrn
open Go.RowKit Go.Proofs.YtpfepkkpbampkaaDoorW.PrintWords Go.Proofs.YtpfepkkpbampkaaDoorW.PrintLast Go.Proofs.YtpfepkkpbampkaaDoorW.PrintMore
set_option linter.unusedVariables false
set_option linter.unusedSimpArgs false

/-! ### lattice_Lattice_in: function 62 -/
def lattice_Lattice_in.f (x0 : Option S107) (a1 : Int) (a2 : Int) : Option (Bool) := onOpt x0 (some false) (fun o24 => (if o24.f1.f0.f0 = 1 then (if (mn a1 a2) ≥ 0 then ((order_Order_Len.f o24.f0).bind fun t35 => (some (decide ((mx a1 a2) < t35)))) else (some false)) else (none)))
set_option maxHeartbeats 2000000 in
set_option maxRecDepth 100000 in
theorem lattice_Lattice_in.calls (v0 : Value) (x0 : Option S107) (a1 : Int) (a2 : Int) (r : Bool) (c : Nat → Nat) (w : World) (hc : ∀ k, c k < 10) (HP0 : Ft c [0] w (fun w_ => (Kd.ptr 107 k107).K w_ x0 [v0])) (H : lattice_Lattice_in.f x0 a1 a2 = some r) :
    Calls Tryd.prog 62 #[v0, .int .i64 a1, .int .i64 a2] w fun e w' => ∃ (c' : Nat → Nat) , e = .returned (.bool r) ∧ Step c w c' w' [] := by
 unfold lattice_Lattice_in.f at H
 have HS := Step.refl c w []
 go_enter Tryd.func62, Tryd.ntmps62
 refine wp_seq_k fun K21 hK21 => ?_
 refine wl_region ?_
 refine st (.bool false) rfl rfl (xr_assign _ rfl rfl) ?_
 refine wl_end ?_
 (try simp only [ls0, ls1])
 refine hK21 _ _ ?_
 (try clear hK21 K21)
 refine wp_seq_k fun K22 hK22 => ?_
 refine wp_seq_k fun K23 hK23 => ?_
 refine wl_region ?_
 refine mv_ rfl ?_
 cases x0 with
 | none =>
  (try simp only [onOpt] at H)
  obtain rfl := ptr_none HP0
  refine st (.bool true) rfl rfl (xr_bin (.pointer none) (.pointer none) (.bool true) rfl rfl rfl (B.eql_nn ⟨_, Tryd.underlying36⟩ (⟨0, 0, none⟩ : Addr))) ?_
  refine wl_end ?_
  (try simp only [ls0, ls1])
  refine hK23 _ _ ?_
  (try clear hK23 K23)
  refine wp_cond_true rfl ?_
  refine wp_seq_k fun K25 hK25 => ?_
  refine wl_region ?_
  refine st (.bool false) rfl rfl (xr_assign _ rfl rfl) ?_
  refine wl_end ?_
  (try simp only [ls0, ls1])
  refine hK25 _ _ ?_
  (try clear hK25 K25)
  refine wp_ret ?_
  (try simp only [Exit.inBlock, Exit.then, Exit.noGoto])
  (try simp only [ls0, ls1])
  obtain rfl := Option.some.inj H
  refine bodyPost_ret (results_tmp rfl _ _ _) rfl ?_
  exact ⟨_, rfl, HS⟩
 | some o24 =>
  (try simp only [onOpt] at H)
  obtain ⟨g26, cs27, rfl, HX28, HK29⟩ := ptr_some HP0
  obtain ⟨vq30_0, rfl, HRq30_0, HLq30_4, HLq30_5⟩ := k107_openF HK29
  replace HRq30_0 : Ft c [0] w (fun w_ => (Kd.ptr 81 k81).K w_ o24.f0 [vq30_0]) := HRq30_0
  refine st (.bool false) rfl rfl (xr_bin (.pointer (some ⟨g26, 0, none⟩)) (.pointer none) (.bool false) rfl rfl rfl (B.eql_pn ⟨_, Tryd.underlying36⟩ ⟨g26, 0, none⟩)) ?_
  refine wl_end ?_
  (try simp only [ls0, ls1])
  refine hK23 _ _ ?_
  (try clear hK23 K23)
  refine wp_cond_false rfl ?_
  refine wp_skip ?_
  (try simp only [ls0, ls1])
  refine hK22 _ _ ?_
  (try clear hK22 K22)
  refine wp_seq_k fun K31 hK31 => ?_
  refine wl_region ?_
  refine mv_ rfl ?_
  refine st (.pointer (some ⟨g26, 0, none⟩)) rfl rfl (xr_nilCheck _ rfl rfl) ?_
  refine st (.pointer (some ⟨g26, 1, none⟩)) rfl rfl (xr_fieldAddr _ _ rfl rfl (bx_field2 Tryd.underlying107 rfl rfl (by kernel_rfl))) ?_
  refine mv_ rfl ?_
  simp only [ls0, ls1]
  refine st (.func (.func 57) #[.pointer (some ⟨g26, 0, none⟩)] #[]) rfl rfl (xr_makeFunc #[.pointer (some ⟨g26, 0, none⟩)] #[] rfl (mp_ rfl) (mp_ rfl)) ?_
  obtain ⟨c32, H⟩ := if_some H
  refine st_call #[.pointer (some ⟨g26, 1, none⟩), .func (.func 57) #[.pointer (some ⟨g26, 0, none⟩)] #[]] rfl rfl Tryd.func56 (by kernel_rfl) rfl rfl (mp_ rfl) ?_
  refine (once_done _ _ _ (by first | assumption | rfl) _ (bx_cell (l := [vq30_0, .int .u32 o24.f1.f0.f0, .int .i32 o24.f1.f1.f0.f0, .int .u32 o24.f1.f1.f0.f1] ++ (List.map (Value.int .i8) o24.f2 ++ (List.map (Value.int .i8) o24.f3 ++ ([.int .i64 o24.f4.f0])))) (Ft.now HX28) 1 rfl)).mono ?_
  rintro _ _ ⟨rfl, rfl⟩
  refine ⟨_, rfl, ?_⟩
  (try simp only [ls0, ls1])
  refine wl_end ?_
  (try simp only [ls0, ls1])
  refine hK31 _ _ ?_
  (try clear hK31 K31)
  refine wp_seq_k fun K33 hK33 => ?_
  refine wl_region ?_
  refine mv_ rfl ?_
  refine mv_ rfl ?_
  refine st (.int .i64 (mn a1 a2)) rfl rfl (xr_builtin #[.int .i64 a1, .int .i64 a2] (.int .i64 (mn a1 a2)) rfl (mp_ rfl) (by first | rfl | (go_simp; done) | (go_simp; rfl) | (go_simp; exact i64_w _) | (go_simp; exact i32_w _))) ?_
  refine st (.bool (decide ((mn a1 a2) ≥ 0))) rfl rfl (xr_bin _ _ _ rfl rfl rfl (B.geq_i64 _ _)) ?_
  simp only [ls0, ls1]
  refine mv_ rfl ?_
  by_cases c34 : (mn a1 a2) ≥ 0
  ·rw [if_pos c34] at H
   (try rw [(decide_eq_true c34)])
   refine on_guard (guard_on 4 true 19 rfl rfl rfl) ?_
   refine mv_ rfl ?_
   refine on_guard (guard_on 4 true 19 rfl rfl rfl) ?_
   refine mv_ rfl ?_
   refine on_guard (guard_on 4 true 19 rfl rfl rfl) ?_
   refine st (.int .i64 (mx a1 a2)) rfl rfl (xr_builtin #[.int .i64 a1, .int .i64 a2] (.int .i64 (mx a1 a2)) rfl (mp_ rfl) (by first | rfl | (go_simp; done) | (go_simp; rfl) | (go_simp; exact i64_w _) | (go_simp; exact i32_w _))) ?_
   simp only [ls0, ls1]
   refine on_guard (guard_on 4 true 19 rfl rfl rfl) ?_
   refine mv_ rfl ?_
   refine on_guard (guard_on 4 true 19 rfl rfl rfl) ?_
   refine st (.pointer (some ⟨g26, 0, none⟩)) rfl rfl (xr_nilCheck _ rfl rfl) ?_
   refine on_guard (guard_on 4 true 19 rfl rfl rfl) ?_
   refine st (.pointer (some ⟨g26, 0, none⟩)) rfl rfl (xr_fieldAddr _ _ rfl rfl (bx_field2 Tryd.underlying107 rfl rfl (by kernel_rfl))) ?_
   refine on_guard (guard_on 4 true 19 rfl rfl rfl) ?_
   refine st (vq30_0) rfl rfl (xr_load _ _ rfl rfl (load_cell Tryd.underlying26 rfl (bx_cell (Ft.now HX28) 0 rfl))) ?_
   simp only [ls0, ls1]
   refine on_guard (guard_on 4 true 19 rfl rfl rfl) ?_
   obtain ⟨t35, A36, H⟩ := bnd H
   refine st_call #[vq30_0] rfl rfl Tryd.func21 (by kernel_rfl) rfl rfl (mp_ rfl) ?_
   refine (order_Order_Len.calls vq30_0 o24.f0 t35  (fun z_ => pal [(0, 0)] (c z_)) w (fun _ => pal_lt rfl _) (Ft.arg HRq30_0 rfl) A36).mono ?_
   rintro _ w38 ⟨C39, rfl, hs40⟩
   refine ⟨_, rfl, ?_⟩
   replace hs40 := Step.lift (U := [(0, 0)]) hs40 [] rfl rfl
   generalize up c C39 w.heap.size [(0, 0)] = C39_ at hs40
   replace HX28 := HX28.thru hs40 rfl
   replace HRq30_0 := HRq30_0.thru hs40 rfl
   replace HS := HS.trans hs40 hc rfl
   (try simp only [ls0, ls1])
   refine on_guard (guard_on 4 true 19 rfl rfl rfl) ?_
   refine st (.bool (decide ((mx a1 a2) < t35))) rfl rfl (xr_bin _ _ _ rfl rfl rfl (B.lss_i64 _ _)) ?_
   refine st (.bool (decide ((mx a1 a2) < t35))) rfl rfl (xr_pick true _ rfl rfl rfl) ?_
   refine as_ rfl ?_
   refine wl_end ?_
   (try simp only [ls0, ls1])
   refine hK33 _ _ ?_
   (try clear hK33 K33)
   refine wp_ret ?_
   (try simp only [Exit.inBlock, Exit.then, Exit.noGoto])
   (try simp only [ls0, ls1])
   obtain rfl := Option.some.inj H
   refine bodyPost_ret (results_tmp rfl _ _ _) rfl ?_
   exact ⟨_, rfl, HS⟩
  rw [if_neg c34] at H
  (try rw [(decide_eq_false c34)])
  refine sk_guard (guard_off 4 true 19 rfl rfl false (by decide) rfl) rfl ?_
  refine sk_guard (guard_off 4 true 19 rfl rfl false (by decide) rfl) rfl ?_
  refine sk_guard (guard_off 4 true 19 rfl rfl false (by decide) rfl) rfl ?_
  refine sk_guard (guard_off 4 true 19 rfl rfl false (by decide) rfl) rfl ?_
  simp only [ls0, ls1]
  refine sk_guard (guard_off 4 true 19 rfl rfl false (by decide) rfl) rfl ?_
  refine sk_guard (guard_off 4 true 19 rfl rfl false (by decide) rfl) rfl ?_
  refine sk_guard (guard_off 4 true 19 rfl rfl false (by decide) rfl) rfl ?_
  refine sk_guard (guard_off 4 true 19 rfl rfl false (by decide) rfl) rfl ?_
  simp only [ls0, ls1]
  refine sk_guard (guard_off 4 true 19 rfl rfl false (by decide) rfl) rfl ?_
  refine st (.bool false) rfl rfl (xr_pick false _ rfl rfl rfl) ?_
  refine as_ rfl ?_
  refine wl_end ?_
  (try simp only [ls0, ls1])
  refine hK33 _ _ ?_
  (try clear hK33 K33)
  refine wp_ret ?_
  (try simp only [Exit.inBlock, Exit.then, Exit.noGoto])
  (try simp only [ls0, ls1])
  obtain rfl := Option.some.inj H
  refine bodyPost_ret (results_tmp rfl _ _ _) rfl ?_
  exact ⟨_, rfl, HS⟩

/-! ### lattice_Lattice_JoinAll: function 19 -/
mutual
def lattice_Lattice_JoinAll.l0 : Nat → (List Int) → Int → Option (Int)
  | 0, _, _ => none
  | k + 1, l1, t158 => if 0 < (l1.length : Int) then ((lattice_Lattice_in.f (none : Option S107) (rd l1 0) (rd l1 0)).bind fun t205 => (if t205 = true then (none) else (some (-1)))) else (some t158)
def lattice_Lattice_JoinAll.l1 : Nat → (List Int) → S107 → Int → Int → Option (Int)
  | 0, _, _, _, _ => none
  | k + 1, l1, o166, x273, x275 => if x275 < (l1.length : Int) then (if 0 ≤ x275 then ((lattice_Lattice_in.f (some (⟨o166.f0, (⟨(⟨o166.f1.f0.f0⟩ : S92), (⟨(⟨o166.f1.f1.f0.f0, o166.f1.f1.f0.f1⟩ : S94)⟩ : S96)⟩ : S98), o166.f2, o166.f3, (⟨o166.f4.f0⟩ : S105)⟩ : S107) : Option S107) (rd l1 x275) (rd l1 x275)).bind fun t298 => (if t298 = true then (if 0 ≤ x273 then (if x273 < 64 then (if 0 ≤ (rd l1 x275) then (if (rd l1 x275) < 64 then (lattice_Lattice_JoinAll.l1 k l1 o166 (wrap64 (List.getD o166.f2 ((x273 : Int).toNat * 64 + (rd l1 x275 : Int).toNat) 0)) (wrap64 (x275 + 1))) else (none)) else (none)) else (none)) else (none)) else (some (-1)))) else (none)) else (some x273)
end
def lattice_Lattice_JoinAll.f (k : Nat) (x0 : Option S107) (l1 : List Int) : Option (Int) := (lattice_Lattice_Bottom.f k x0).bind fun t158 => (onOpt x0 (lattice_Lattice_JoinAll.l0 k l1 t158) (fun o166 => (lattice_Lattice_JoinAll.l1 k l1 o166 t158 0)))

set_option maxHeartbeats 2000000 in
set_option maxRecDepth 100000 in
theorem lattice_Lattice_JoinAll.calls (k : Nat) (v0 : Value) (x0 : Option S107) (A1 : Option Addr) (c1 : Nat) (l1 : List Int) (r : Int) (c : Nat → Nat) (w : World) (hc : ∀ k, c k < 10) (HP0 : Ft c [0] w (fun w_ => (Kd.ptr 107 k107).K w_ x0 [v0])) (HP1 : Ft c [0] w (fun w_ => (Kd.int .i64).C w_ A1 l1.length l1)) (HCP1 : l1.length ≤ c1) (H : lattice_Lattice_JoinAll.f k x0 l1 = some r) :
    Calls Tryd.prog 19 #[v0, .slice A1 l1.length c1] w fun e w' => ∃ (c' : Nat → Nat) , e = .returned (.int .i64 r) ∧ Step c w c' w' [] := by
 unfold lattice_Lattice_JoinAll.f at H
 have HS := Step.refl c w []
 go_enter Tryd.func19, Tryd.ntmps19
 refine wp_seq_k fun K156 hK156 => ?_
 refine wl_region ?_
 refine st (.int .i64 0) rfl rfl (xr_assign _ rfl rfl) ?_
 refine wl_end ?_
 (try simp only [ls0, ls1])
 refine hK156 _ _ ?_
 (try clear hK156 K156)
 refine wp_seq_k fun K157 hK157 => ?_
 refine wl_region ?_
 refine mv_ rfl ?_
 obtain ⟨t158, A159, H⟩ := bnd H
 refine st_call #[v0] rfl rfl Tryd.func26 (by kernel_rfl) rfl rfl (mp_ rfl) ?_
 refine (lattice_Lattice_Bottom.calls k v0 x0 t158  (fun z_ => pal [(0, 0)] (c z_)) w (fun _ => pal_lt rfl _) (Ft.arg HP0 rfl) A159).mono ?_
 rintro _ w161 ⟨C162, rfl, hs163⟩
 refine ⟨_, rfl, ?_⟩
 replace hs163 := Step.lift (U := [(0, 0)]) hs163 [] rfl rfl
 generalize up c C162 w.heap.size [(0, 0)] = C162_ at hs163
 replace HP0 := HP0.thru hs163 rfl
 replace HP1 := HP1.thru hs163 rfl
 replace HS := HS.trans hs163 hc rfl
 (try simp only [ls0, ls1])
 refine as_ rfl ?_
 refine wl_end ?_
 (try simp only [ls0, ls1])
 refine hK157 _ _ ?_
 (try clear hK157 K157)
 refine wp_seq_k fun K164 hK164 => ?_
 refine wp_seq_k fun K165 hK165 => ?_
 refine wl_region ?_
 refine mv_ rfl ?_
 refine st (.int .i64 (l1.length : Int)) rfl rfl (xr_builtin #[.slice A1 l1.length c1] (.int .i64 (l1.length : Int)) rfl (mp_ rfl) (by first | rfl | (go_simp; done) | (go_simp; rfl) | (go_simp; exact i64_w _) | (go_simp; exact i32_w _))) ?_
 refine st (.int .i64 0) rfl rfl (xr_move _ rfl rfl) ?_
 refine wl_end ?_
 (try simp only [ls0, ls1])
 refine hK165 _ _ ?_
 (try clear hK165 K165)
 refine wp_block ?_
 cases x0 with
 | none =>
  (try simp only [onOpt] at H)
  obtain rfl := ptr_none HP0
  (try simp only [ls0, ls1])
  refine wp_looped (looped_fin (fun kq189 a_ w188 => ∃ (C187 : Nat → Nat) (g_ : Nat → Value), a_ = ⟨#[.pointer none, (g_ 1), (g_ 2), (g_ 3), (g_ 4), .int .i64 t158, (g_ 6), (g_ 7), (g_ 8), (g_ 9), .slice A1 l1.length c1, .int .i64 (l1.length : Int), .int .i64 0, (g_ 13), (g_ 14), (g_ 15), (g_ 16), (g_ 17), (g_ 18), (g_ 19), (g_ 20), (g_ 21), (g_ 22), (g_ 23), (g_ 24), (g_ 25), (g_ 26), (g_ 27), (g_ 28), (g_ 29), (g_ 30), (g_ 31)], []⟩ ∧ Step c w C187 w188 [] ∧ kq189 ≤ k ∧ (Ft C187 [0] w188 (fun w_ => (Kd.int .i64).C w_ A1 l1.length l1)) ∧ lattice_Lattice_JoinAll.l0 kq189 l1 t158 = some r) ?step fun hL_ => ?init)
  case init =>
   exact jmpL (fun a_ h_ => hL_ k a_ _ h_) (fun g_ => ⟨_, g_, rfl, HS, Nat.le_refl _, HP1, H⟩) rfl
  case step =>
   intro kq189 ih192 a193 w188 hr194
   obtain ⟨C187, g_, rfl, HS190, hk191, HJ186, H⟩ := hr194
   refine looped_round ?_
   cases kq189 with
   | zero => exact absurd H (by simp [lattice_Lattice_JoinAll.l0])
   | succ k195 =>
    simp only [lattice_Lattice_JoinAll.l0] at H
    refine wp_seq_k fun K196 hK196 => ?_
    refine wl_region ?_
    refine st (.bool (decide (0 < (l1.length : Int)))) rfl rfl (xr_bin _ _ _ rfl rfl rfl (B.lss_i64 _ _)) ?_
    refine wl_end ?_
    (try simp only [ls0, ls1])
    refine hK196 _ _ ?_
    (try clear hK196 K196)
    refine wp_seq_k fun K197 hK197 => ?_
    by_cases c198 : 0 < (l1.length : Int)
    ·rw [if_pos c198] at H
     (try rw [(decide_eq_true c198)])
     refine wp_cond_true rfl ?_
     refine wp_skip ?_
     (try simp only [ls0, ls1])
     refine hK197 _ _ ?_
     (try clear hK197 K197)
     refine wp_seq_k fun K199 hK199 => ?_
     refine wp_block ?_
     refine wp_seq_k fun K200 hK200 => ?_
     refine wl_region ?_
     obtain ⟨ad201, hA202⟩ := c_addr (Ft.now HJ186) (pos_of (j := 0) (by first | assumption | decide) (by first | assumption | omega))
     refine st (.pointer (some (ad201.add ((0 : Int).toNat * 1)))) rfl rfl (xr_indexAddr _ _ _ rfl rfl rfl (index_at Tryd.underlying23 info3 hA202 (by first | assumption | decide | omega) (by first | assumption | decide | omega))) ?_
     refine st (.int .i64 (rd l1 0)) rfl rfl (xr_load _ _ rfl rfl (load_int Tryd.underlying3 rfl hA202 (Ft.now HJ186) (by first | assumption | decide | omega) (by first | assumption | decide | omega))) ?_
     refine as_ rfl ?_
     refine wl_end ?_
     (try simp only [ls0, ls1])
     refine hK200 _ _ ?_
     (try clear hK200 K200)
     refine wp_seq_k fun K203 hK203 => ?_
     refine wp_seq_k fun K204 hK204 => ?_
     refine wl_region ?_
     refine mv_ rfl ?_
     refine mv_ rfl ?_
     refine mv_ rfl ?_
     obtain ⟨t205, A206, H⟩ := bnd H
     refine st_call #[.pointer none, .int .i64 (rd l1 0), .int .i64 (rd l1 0)] rfl rfl Tryd.func62 (by kernel_rfl) rfl rfl (mp_ rfl) ?_
     refine (lattice_Lattice_in.calls (.pointer none) (none : Option S107) (rd l1 0) (rd l1 0) t205  (fun z_ => pal [(0, 0)] (C187 z_)) w188 (fun _ => pal_lt rfl _) (ptr_nil _ _ _ _ _) A206).mono ?_
     rintro _ w208 ⟨C209, rfl, hs210⟩
     refine ⟨_, rfl, ?_⟩
     replace hs210 := Step.lift (U := [(0, 0)]) hs210 [] rfl rfl
     generalize up C187 C209 w188.heap.size [(0, 0)] = C209_ at hs210
     replace HJ186 := HJ186.thru hs210 rfl
     replace HS190 := HS190.trans hs210 hc rfl
     (try simp only [ls0, ls1])
     refine st (.bool (!t205)) rfl rfl (xr_un (.bool t205) _ rfl rfl (by first | rfl | (go_simp; done) | (go_simp; rfl) | (go_simp; exact i64_w _) | (go_simp; exact i32_w _))) ?_
     refine wl_end ?_
     (try simp only [ls0, ls1])
     refine hK204 _ _ ?_
     (try clear hK204 K204)
     by_cases c211 : t205 = true
     ·rw [if_pos c211] at H
      (try rw [c211])
      (try simp only [Bool.not_true, Bool.not_false])
      refine wp_cond_false rfl ?_
      refine wp_skip ?_
      (try simp only [ls0, ls1])
      refine hK203 _ _ ?_
      (try clear hK203 K203)
      refine wl_region ?_
      refine mv_ rfl ?_
      refine mv_ rfl ?_
      refine mv_ rfl ?_
      exact absurd H (by simp)
     rw [if_neg c211] at H
     (try rw [(Bool.eq_false_iff.mpr c211)])
     (try simp only [Bool.not_true, Bool.not_false])
     refine wp_cond_true rfl ?_
     refine wp_seq_k fun K212 hK212 => ?_
     refine wl_region ?_
     refine st (.int .i64 (-1)) rfl rfl (xr_assign _ rfl rfl) ?_
     simp only [ls0, ls1]
     refine wl_end ?_
     (try simp only [ls0, ls1])
     refine hK212 _ _ ?_
     (try clear hK212 K212)
     refine wp_ret ?_
     (try simp only [Exit.inBlock, Exit.then, Exit.noGoto])
     (try simp only [ls0, ls1])
     obtain rfl := Option.some.inj H
     refine bodyPost_ret (results_tmp rfl _ _ _) rfl ?_
     exact ⟨_, rfl, HS190⟩
    rw [if_neg c198] at H
    (try rw [(decide_eq_false c198)])
    refine wp_cond_false rfl ?_
    refine wp_exit ?_
    (try simp only [ls0, ls1])
    refine hK164 _ _ ?_
    (try clear hK164 K164)
    refine wp_seq_k fun K213 hK213 => ?_
    refine wl_region ?_
    refine mv_ rfl ?_
    refine as_ rfl ?_
    refine wl_end ?_
    (try simp only [ls0, ls1])
    refine hK213 _ _ ?_
    (try clear hK213 K213)
    refine wp_ret ?_
    (try simp only [Exit.inBlock, Exit.then, Exit.noGoto])
    (try simp only [ls0, ls1])
    obtain rfl := Option.some.inj H
    refine bodyPost_ret (results_tmp rfl _ _ _) rfl ?_
    exact ⟨_, rfl, HS190⟩
 | some o166 =>
  (try simp only [onOpt] at H)
  obtain ⟨g214, cs215, rfl, HX216, HK217⟩ := ptr_some HP0
  obtain ⟨vq218_0, rfl, HRq218_0, HLq218_4, HLq218_5⟩ := k107_openF HK217
  replace HRq218_0 : Ft C162_ [0] w161 (fun w_ => (Kd.ptr 81 k81).K w_ o166.f0 [vq218_0]) := HRq218_0
  (try simp only [ls0, ls1])
  refine wp_looped (looped_fin (fun kq280 a_ w279 => ∃ (C278 : Nat → Nat) (x273 : Int) (x275 : Int) (g_ : Nat → Value), a_ = ⟨#[.pointer (some ⟨g214, 0, none⟩), (g_ 1), (g_ 2), (g_ 3), (g_ 4), .int .i64 x273, (g_ 6), (g_ 7), (g_ 8), (g_ 9), .slice A1 l1.length c1, .int .i64 (l1.length : Int), .int .i64 x275, (g_ 13), (g_ 14), (g_ 15), (g_ 16), (g_ 17), (g_ 18), (g_ 19), (g_ 20), (g_ 21), (g_ 22), (g_ 23), (g_ 24), (g_ 25), (g_ 26), (g_ 27), (g_ 28), (g_ 29), (g_ 30), (g_ 31)], []⟩ ∧ Step c w C278 w279 [] ∧ kq280 ≤ k ∧ (Ft C278 [0] w279 (fun w_ => (Kd.int .i64).C w_ A1 l1.length l1)) ∧ (Ft C278 [0] w279 (fun w_ => (Kd.ptr 81 k81).K w_ o166.f0 [vq218_0])) ∧ (Ft C278 [0] w279 (fun w_ => w_.heap[g214]? = some (.cells (List.toArray ([vq218_0, .int .u32 o166.f1.f0.f0, .int .i32 o166.f1.f1.f0.f0, .int .u32 o166.f1.f1.f0.f1] ++ (List.map (Value.int .i8) o166.f2 ++ (List.map (Value.int .i8) o166.f3 ++ ([.int .i64 o166.f4.f0]))))) 107 (0, 0)))) ∧ lattice_Lattice_JoinAll.l1 kq280 l1 o166 x273 x275 = some r) ?step fun hL_ => ?init)
  case init =>
   exact jmpL (fun a_ h_ => hL_ k a_ _ h_) (fun g_ => ⟨_, t158, 0, g_, rfl, HS, Nat.le_refl _, HP1, HRq218_0, HX216, H⟩) rfl
  case step =>
   intro kq280 ih283 a284 w279 hr285
   obtain ⟨C278, x273, x275, g_, rfl, HS281, hk282, HJ274, HJ276, HJ277, H⟩ := hr285
   refine looped_round ?_
   cases kq280 with
   | zero => exact absurd H (by simp [lattice_Lattice_JoinAll.l1])
   | succ k286 =>
    simp only [lattice_Lattice_JoinAll.l1] at H
    refine wp_seq_k fun K287 hK287 => ?_
    refine wl_region ?_
    refine st (.bool (decide (x275 < (l1.length : Int)))) rfl rfl (xr_bin _ _ _ rfl rfl rfl (B.lss_i64 _ _)) ?_
    refine wl_end ?_
    (try simp only [ls0, ls1])
    refine hK287 _ _ ?_
    (try clear hK287 K287)
    refine wp_seq_k fun K288 hK288 => ?_
    by_cases c289 : x275 < (l1.length : Int)
    ·rw [if_pos c289] at H
     (try rw [(decide_eq_true c289)])
     refine wp_cond_true rfl ?_
     refine wp_skip ?_
     (try simp only [ls0, ls1])
     refine hK288 _ _ ?_
     (try clear hK288 K288)
     refine wp_seq_k fun K290 hK290 => ?_
     refine wp_block ?_
     refine wp_seq_k fun K291 hK291 => ?_
     refine wl_region ?_
     obtain ⟨c292, H⟩ := if_some H
     obtain ⟨ad293, hA294⟩ := c_addr (Ft.now HJ274) (pos_of (j := x275) (by first | assumption | decide) (by first | assumption | omega))
     refine st (.pointer (some (ad293.add ((x275 : Int).toNat * 1)))) rfl rfl (xr_indexAddr _ _ _ rfl rfl rfl (index_at Tryd.underlying23 info3 hA294 (by first | assumption | decide | omega) (by first | assumption | decide | omega))) ?_
     refine st (.int .i64 (rd l1 x275)) rfl rfl (xr_load _ _ rfl rfl (load_int Tryd.underlying3 rfl hA294 (Ft.now HJ274) (by first | assumption | decide | omega) (by first | assumption | decide | omega))) ?_
     refine as_ rfl ?_
     refine wl_end ?_
     (try simp only [ls0, ls1])
     refine hK291 _ _ ?_
     (try clear hK291 K291)
     refine wp_seq_k fun K295 hK295 => ?_
     refine wp_seq_k fun K296 hK296 => ?_
     refine wl_region ?_
     refine mv_ rfl ?_
     refine mv_ rfl ?_
     refine mv_ rfl ?_
     have HP297 : Ft C278 [0] w279 (fun w_ => (Kd.ptr 107 k107).K w_ (some (⟨o166.f0, (⟨(⟨o166.f1.f0.f0⟩ : S92), (⟨(⟨o166.f1.f1.f0.f0, o166.f1.f1.f0.f1⟩ : S94)⟩ : S96)⟩ : S98), o166.f2, o166.f3, (⟨o166.f4.f0⟩ : S105)⟩ : S107)) [.pointer (some ⟨g214, 0, none⟩)]) := ptr_mk (Ft.more HJ277 rfl) (k107_mkF _ _ (⟨o166.f0, (⟨(⟨o166.f1.f0.f0⟩ : S92), (⟨(⟨o166.f1.f1.f0.f0, o166.f1.f1.f0.f1⟩ : S94)⟩ : S96)⟩ : S98), o166.f2, o166.f3, (⟨o166.f4.f0⟩ : S105)⟩ : S107) (Ft.more HJ276 rfl) HLq218_4 HLq218_5)
     obtain ⟨t298, A299, H⟩ := bnd H
     refine st_call #[.pointer (some ⟨g214, 0, none⟩), .int .i64 (rd l1 x275), .int .i64 (rd l1 x275)] rfl rfl Tryd.func62 (by kernel_rfl) rfl rfl (mp_ rfl) ?_
     refine (lattice_Lattice_in.calls (.pointer (some ⟨g214, 0, none⟩)) (some (⟨o166.f0, (⟨(⟨o166.f1.f0.f0⟩ : S92), (⟨(⟨o166.f1.f1.f0.f0, o166.f1.f1.f0.f1⟩ : S94)⟩ : S96)⟩ : S98), o166.f2, o166.f3, (⟨o166.f4.f0⟩ : S105)⟩ : S107) : Option S107) (rd l1 x275) (rd l1 x275) t298  (fun z_ => pal [(0, 0)] (C278 z_)) w279 (fun _ => pal_lt rfl _) (Ft.arg HP297 rfl) A299).mono ?_
     rintro _ w301 ⟨C302, rfl, hs303⟩
     refine ⟨_, rfl, ?_⟩
     replace hs303 := Step.lift (U := [(0, 0)]) hs303 [] rfl rfl
     generalize up C278 C302 w279.heap.size [(0, 0)] = C302_ at hs303
     replace HJ274 := HJ274.thru hs303 rfl
     replace HJ277 := HJ277.thru hs303 rfl
     replace HJ276 := HJ276.thru hs303 rfl
     replace HS281 := HS281.trans hs303 hc rfl
     (try simp only [ls0, ls1])
     refine st (.bool (!t298)) rfl rfl (xr_un (.bool t298) _ rfl rfl (by first | rfl | (go_simp; done) | (go_simp; rfl) | (go_simp; exact i64_w _) | (go_simp; exact i32_w _))) ?_
     refine wl_end ?_
     (try simp only [ls0, ls1])
     refine hK296 _ _ ?_
     (try clear hK296 K296)
     by_cases c304 : t298 = true
     ·rw [if_pos c304] at H
      (try rw [c304])
      (try simp only [Bool.not_true, Bool.not_false])
      refine wp_cond_false rfl ?_
      refine wp_skip ?_
      (try simp only [ls0, ls1])
      refine hK295 _ _ ?_
      (try clear hK295 K295)
      refine wl_region ?_
      refine mv_ rfl ?_
      refine mv_ rfl ?_
      refine mv_ rfl ?_
      refine st (.pointer (some ⟨g214, 0, none⟩)) rfl rfl (xr_nilCheck _ rfl rfl) ?_
      simp only [ls0, ls1]
      refine st (.pointer (some ⟨g214, 4, none⟩)) rfl rfl (xr_fieldAddr _ _ rfl rfl (bx_field2 Tryd.underlying107 rfl rfl (by kernel_rfl))) ?_
      obtain ⟨c305, H⟩ := if_some H
      obtain ⟨c306, H⟩ := if_some H
      refine st (.pointer (some ⟨g214, 4 + ((x273 : Int).toNat * 64), none⟩)) rfl rfl (xr_indexAddr _ _ _ rfl rfl rfl (arr_index (sz := 64) Tryd.underlying102 (by kernel_rfl) (by first | assumption | decide | omega) (by first | assumption | decide | omega) (by omega))) ?_
      obtain ⟨c307, H⟩ := if_some H
      obtain ⟨c308, H⟩ := if_some H
      refine st (.pointer (some ⟨g214, 4 + ((x273 : Int).toNat * 64 + (rd l1 x275 : Int).toNat), none⟩)) rfl rfl (xr_indexAddr _ _ _ rfl rfl rfl (arr_index (sz := 1) Tryd.underlying100 (by kernel_rfl) (by first | assumption | decide | omega) (by first | assumption | decide | omega) (by omega))) ?_
      refine st (.int .i8 (List.getD o166.f2 ((x273 : Int).toNat * 64 + (rd l1 x275 : Int).toNat) 0)) rfl rfl (xr_load _ _ rfl rfl (arr_load (o := 4) (N := 4096) (pre := [vq218_0, .int .u32 o166.f1.f0.f0, .int .i32 o166.f1.f1.f0.f0, .int .u32 o166.f1.f1.f0.f1]) (post := List.map (Value.int .i8) o166.f3 ++ ([.int .i64 o166.f4.f0])) (enc := (Value.int .i8)) (l := o166.f2) (i := (x273 : Int).toNat * 64 + (rd l1 x275 : Int).toNat) 0 Tryd.underlying99 rfl (Ft.now HJ277) (by first | (simp only [List.append_assoc, List.cons_append, List.nil_append, List.append_nil]; done) | rfl) rfl HLq218_4 (by omega) (by omega))) ?_
      simp only [ls0, ls1]
      refine st (.int .i64 (wrap64 (List.getD o166.f2 ((x273 : Int).toNat * 64 + (rd l1 x275 : Int).toNat) 0))) rfl rfl (xr_conv (.int .i8 (List.getD o166.f2 ((x273 : Int).toNat * 64 + (rd l1 x275 : Int).toNat) 0)) _ rfl rfl (by first | rfl | (go_simp; done) | (go_simp; rfl) | (go_simp; exact i64_w _) | (go_simp; exact i32_w _))) ?_
      refine as_ rfl ?_
      refine wl_end ?_
      (try simp only [ls0, ls1])
      refine hK290 _ _ ?_
      (try clear hK290 K290)
      refine wl_region ?_
      refine st (.int .i64 (wrap64 (x275 + 1))) rfl rfl (xr_bin _ _ _ rfl rfl rfl (B.add_i64 _ _)) ?_
      refine mv_ rfl ?_
      refine wl_end ?_
      (try simp only [ls0, ls1])
      exact jmpL (fun a_ h_ => ih283 k286 (by omega) a_ _ h_) (fun g_ => ⟨_, wrap64 (List.getD o166.f2 ((x273 : Int).toNat * 64 + (rd l1 x275 : Int).toNat) 0), wrap64 (x275 + 1), g_, rfl, HS281, (by omega), HJ274, HJ276, HJ277, H⟩) rfl
     rw [if_neg c304] at H
     (try rw [(Bool.eq_false_iff.mpr c304)])
     (try simp only [Bool.not_true, Bool.not_false])
     refine wp_cond_true rfl ?_
     refine wp_seq_k fun K309 hK309 => ?_
     refine wl_region ?_
     refine st (.int .i64 (-1)) rfl rfl (xr_assign _ rfl rfl) ?_
     refine wl_end ?_
     (try simp only [ls0, ls1])
     refine hK309 _ _ ?_
     (try clear hK309 K309)
     refine wp_ret ?_
     (try simp only [Exit.inBlock, Exit.then, Exit.noGoto])
     (try simp only [ls0, ls1])
     obtain rfl := Option.some.inj H
     refine bodyPost_ret (results_tmp rfl _ _ _) rfl ?_
     exact ⟨_, rfl, HS281⟩
    rw [if_neg c289] at H
    (try rw [(decide_eq_false c289)])
    refine wp_cond_false rfl ?_
    refine wp_exit ?_
    (try simp only [ls0, ls1])
    refine hK164 _ _ ?_
    (try clear hK164 K164)
    refine wp_seq_k fun K310 hK310 => ?_
    refine wl_region ?_
    refine mv_ rfl ?_
    refine as_ rfl ?_
    refine wl_end ?_
    (try simp only [ls0, ls1])
    refine hK310 _ _ ?_
    (try clear hK310 K310)
    refine wp_ret ?_
    (try simp only [Exit.inBlock, Exit.then, Exit.noGoto])
    (try simp only [ls0, ls1])
    obtain rfl := Option.some.inj H
    refine bodyPost_ret (results_tmp rfl _ _ _) rfl ?_
    exact ⟨_, rfl, HS281⟩

/-! ### lattice_Lattice_Order: function 27 -/
def lattice_Lattice_Order.f (x0 : Option S107) : Option ((Option S81)) := onOpt x0 (some (none : Option S81)) (fun o15 => (some o15.f0))
set_option maxHeartbeats 2000000 in
set_option maxRecDepth 100000 in
theorem lattice_Lattice_Order.calls (v0 : Value) (x0 : Option S107) (r : Option S81) (c : Nat → Nat) (w : World) (hc : ∀ k, c k < 10) (HP0 : Ft c [0] w (fun w_ => (Kd.ptr 107 k107).K w_ x0 [v0])) (H : lattice_Lattice_Order.f x0 = some r) :
    Calls Tryd.prog 27 #[v0] w fun e w' => ∃ (c' : Nat → Nat) (v_r : Value), e = .returned (v_r) ∧ Step c w c' w' [] ∧ Ft c' [0] w' (fun w_ => (Kd.ptr 81 k81).K w_ r [v_r]) := by
 unfold lattice_Lattice_Order.f at H
 have HS := Step.refl c w []
 go_enter Tryd.func27, Tryd.ntmps27
 refine wp_seq_k fun K12 hK12 => ?_
 refine wl_region ?_
 refine st (.pointer none) rfl rfl (xr_assign _ rfl rfl) ?_
 refine wl_end ?_
 (try simp only [ls0, ls1])
 refine hK12 _ _ ?_
 (try clear hK12 K12)
 refine wp_seq_k fun K13 hK13 => ?_
 refine wp_seq_k fun K14 hK14 => ?_
 refine wl_region ?_
 refine mv_ rfl ?_
 cases x0 with
 | none =>
  (try simp only [onOpt] at H)
  obtain rfl := ptr_none HP0
  refine st (.bool true) rfl rfl (xr_bin (.pointer none) (.pointer none) (.bool true) rfl rfl rfl (B.eql_nn ⟨_, Tryd.underlying36⟩ (⟨0, 0, none⟩ : Addr))) ?_
  refine wl_end ?_
  (try simp only [ls0, ls1])
  refine hK14 _ _ ?_
  (try clear hK14 K14)
  refine wp_cond_true rfl ?_
  refine wp_seq_k fun K16 hK16 => ?_
  refine wl_region ?_
  refine st (.pointer none) rfl rfl (xr_assign _ rfl rfl) ?_
  refine wl_end ?_
  (try simp only [ls0, ls1])
  refine hK16 _ _ ?_
  (try clear hK16 K16)
  refine wp_ret ?_
  (try simp only [Exit.inBlock, Exit.then, Exit.noGoto])
  (try simp only [ls0, ls1])
  obtain rfl := Option.some.inj H
  refine bodyPost_ret (results_tmp rfl _ _ _) rfl ?_
  exact ⟨_, (.pointer none), rfl, HS, (ptr_nil _ _ _ _ _)⟩
 | some o15 =>
  (try simp only [onOpt] at H)
  obtain ⟨g17, cs18, rfl, HX19, HK20⟩ := ptr_some HP0
  obtain ⟨vq21_0, rfl, HRq21_0, HLq21_4, HLq21_5⟩ := k107_openF HK20
  replace HRq21_0 : Ft c [0] w (fun w_ => (Kd.ptr 81 k81).K w_ o15.f0 [vq21_0]) := HRq21_0
  refine st (.bool false) rfl rfl (xr_bin (.pointer (some ⟨g17, 0, none⟩)) (.pointer none) (.bool false) rfl rfl rfl (B.eql_pn ⟨_, Tryd.underlying36⟩ ⟨g17, 0, none⟩)) ?_
  refine wl_end ?_
  (try simp only [ls0, ls1])
  refine hK14 _ _ ?_
  (try clear hK14 K14)
  refine wp_cond_false rfl ?_
  refine wp_skip ?_
  (try simp only [ls0, ls1])
  refine hK13 _ _ ?_
  (try clear hK13 K13)
  refine wp_seq_k fun K22 hK22 => ?_
  refine wl_region ?_
  refine mv_ rfl ?_
  refine st (.pointer (some ⟨g17, 0, none⟩)) rfl rfl (xr_nilCheck _ rfl rfl) ?_
  refine st (.pointer (some ⟨g17, 0, none⟩)) rfl rfl (xr_fieldAddr _ _ rfl rfl (bx_field2 Tryd.underlying107 rfl rfl (by kernel_rfl))) ?_
  refine st (vq21_0) rfl rfl (xr_load _ _ rfl rfl (load_cell Tryd.underlying26 rfl (bx_cell (Ft.now HX19) 0 rfl))) ?_
  simp only [ls0, ls1]
  refine as_ rfl ?_
  refine wl_end ?_
  (try simp only [ls0, ls1])
  refine hK22 _ _ ?_
  (try clear hK22 K22)
  refine wp_ret ?_
  (try simp only [Exit.inBlock, Exit.then, Exit.noGoto])
  (try simp only [ls0, ls1])
  obtain rfl := Option.some.inj H
  refine bodyPost_ret (results_tmp rfl _ _ _) rfl ?_
  exact ⟨_, vq21_0, rfl, HS, HRq21_0⟩

/-! ### irred_New: function 48 -/
mutual
def irred_New.l0 : Nat → S107 → Int → (Option S81) → Int → (List Int) → (List Int) → Int → Option ((Option S118))
  | 0, _, _, _, _, _, _, _ => none
  | k + 1, o2758, t2783, x4525, x4528, x4532, x4775, x4781 => if x4781 < t2783 then (if x4781 = x4528 then (irred_New.l0 k o2758 t2783 x4525 x4528 x4532 x4775 (wrap64 (x4781 + 1))) else ((order_Order_Most.f x4525 x4781 x4528).bind fun t4810 => (if t4810 = true then (if x4775.length < 17592186044416 then ((some (x4775 ++ [x4781] : List Int)).bind fun y4818 => (irred_New.l0 k o2758 t2783 x4525 x4528 x4532 y4818 (wrap64 (x4781 + 1)))) else (none)) else (irred_New.l0 k o2758 t2783 x4525 x4528 x4532 x4775 (wrap64 (x4781 + 1)))))) else (if (x4775.length : Int) > 0 then ((lattice_Lattice_JoinAll.f k (some (⟨o2758.f0, (⟨(⟨o2758.f1.f0.f0⟩ : S92), (⟨(⟨o2758.f1.f1.f0.f0, o2758.f1.f1.f0.f1⟩ : S94)⟩ : S96)⟩ : S98), o2758.f2, o2758.f3, (⟨o2758.f4.f0⟩ : S105)⟩ : S107) : Option S107) x4775).bind fun t4838 => (if t4838 = x4528 then (irred_New.l3 k o2758 t2783 x4525 (wrap64 (x4528 + 1)) x4532) else (if x4532.length < 17592186044416 then ((some (x4532 ++ [x4528] : List Int)).bind fun y4846 => (irred_New.l3 k o2758 t2783 x4525 (wrap64 (x4528 + 1)) y4846)) else (none)))) else (irred_New.l3 k o2758 t2783 x4525 (wrap64 (x4528 + 1)) x4532))
def irred_New.l1 : Nat → S107 → Int → (Option S81) → (List Int) → Int → (List Int) → Int → Int → Option ((Option S118))
  | 0, _, _, _, _, _, _, _, _ => none
  | k + 1, o2758, t2783, x4525, x4532, x5297, x5302, x5461, x5463 => if x5463 < (x4532.length : Int) then (if 0 ≤ x5463 then ((order_Order_Most.f x4525 (rd x4532 x5463) x5297).bind fun t5487 => (if t5487 = true then (if 0 ≤ (IntKind.u64.wrap (x5463)) then (irred_New.l1 k o2758 t2783 x4525 x4532 x5297 x5302 (Go.bits .or .u64 x5461 (shl .u64 1 (IntKind.u64.wrap (x5463)))) (wrap64 (x5463 + 1))) else (none)) else (irred_New.l1 k o2758 t2783 x4525 x4532 x5297 x5302 x5461 (wrap64 (x5463 + 1))))) else (none)) else (if x5302.length < 17592186044416 then ((some (x5302 ++ [x5461] : List Int)).bind fun y5496 => (irred_New.l2 k o2758 t2783 x4525 x4532 (wrap64 (x5297 + 1)) y5496)) else (none))
def irred_New.l2 : Nat → S107 → Int → (Option S81) → (List Int) → Int → (List Int) → Option ((Option S118))
  | 0, _, _, _, _, _, _ => none
  | k + 1, o2758, t2783, x4525, x4532, x5297, x5302 => if x5297 < t2783 then (irred_New.l1 k o2758 t2783 x4525 x4532 x5297 x5302 0 0) else (some (some (⟨(some (⟨o2758.f0, (⟨(⟨o2758.f1.f0.f0⟩ : S92), (⟨(⟨o2758.f1.f1.f0.f0, o2758.f1.f1.f0.f1⟩ : S94)⟩ : S96)⟩ : S98), o2758.f2, o2758.f3, (⟨o2758.f4.f0⟩ : S105)⟩ : S107) : Option S107), x4532, x5302⟩ : S118) : Option S118))
def irred_New.l3 : Nat → S107 → Int → (Option S81) → Int → (List Int) → Option ((Option S118))
  | 0, _, _, _, _, _ => none
  | k + 1, o2758, t2783, x4525, x4528, x4532 => if x4528 < t2783 then (irred_New.l0 k o2758 t2783 x4525 x4528 x4532 ([] : List Int) 0) else (irred_New.l2 k o2758 t2783 x4525 x4532 0 ([] : List Int))
end
def irred_New.f (k : Nat) (x0 : Option S107) : Option ((Option S118)) := onOpt x0 (some (none : Option S118)) (fun o2758 => ((lattice_Lattice_Order.f (some (⟨o2758.f0, (⟨(⟨o2758.f1.f0.f0⟩ : S92), (⟨(⟨o2758.f1.f1.f0.f0, o2758.f1.f1.f0.f1⟩ : S94)⟩ : S96)⟩ : S98), o2758.f2, o2758.f3, (⟨o2758.f4.f0⟩ : S105)⟩ : S107) : Option S107)).bind fun t2774 => ((order_Order_Len.f t2774).bind fun t2783 => (irred_New.l3 k o2758 t2783 t2774 0 ([] : List Int)))))

set_option maxHeartbeats 2000000 in
set_option maxRecDepth 100000 in
theorem irred_New.calls (k : Nat) (v0 : Value) (x0 : Option S107) (r : Option S118) (c : Nat → Nat) (w : World) (hc : ∀ k, c k < 10) (HP0 : Ft c [0] w (fun w_ => (Kd.ptr 107 k107).K w_ x0 [v0])) (H : irred_New.f k x0 = some r) :
    Calls Tryd.prog 48 #[v0] w fun e w' => ∃ (c' : Nat → Nat) (v_r : Value), e = .returned (v_r) ∧ Step c w c' w' [] ∧ Ft c' [0] w' (fun w_ => (Kd.ptr 118 k118).K w_ r [v_r]) := by
 unfold irred_New.f at H
 have HS := Step.refl c w []
 go_enter Tryd.func48, Tryd.ntmps48
 refine wp_seq_k fun K2755 hK2755 => ?_
 refine wl_region ?_
 refine st (.pointer none) rfl rfl (xr_assign _ rfl rfl) ?_
 refine wl_end ?_
 (try simp only [ls0, ls1])
 refine hK2755 _ _ ?_
 (try clear hK2755 K2755)
 refine wp_seq_k fun K2756 hK2756 => ?_
 refine wp_seq_k fun K2757 hK2757 => ?_
 refine wl_region ?_
 refine mv_ rfl ?_
 cases x0 with
 | none =>
  (try simp only [onOpt] at H)
  obtain rfl := ptr_none HP0
  refine st (.bool true) rfl rfl (xr_bin (.pointer none) (.pointer none) (.bool true) rfl rfl rfl (B.eql_nn ⟨_, Tryd.underlying36⟩ (⟨0, 0, none⟩ : Addr))) ?_
  refine wl_end ?_
  (try simp only [ls0, ls1])
  refine hK2757 _ _ ?_
  (try clear hK2757 K2757)
  refine wp_cond_true rfl ?_
  refine wp_seq_k fun K2759 hK2759 => ?_
  refine wl_region ?_
  refine st (.pointer none) rfl rfl (xr_assign _ rfl rfl) ?_
  refine wl_end ?_
  (try simp only [ls0, ls1])
  refine hK2759 _ _ ?_
  (try clear hK2759 K2759)
  refine wp_ret ?_
  (try simp only [Exit.inBlock, Exit.then, Exit.noGoto])
  (try simp only [ls0, ls1])
  obtain rfl := Option.some.inj H
  refine bodyPost_ret (results_tmp rfl _ _ _) rfl ?_
  exact ⟨_, (.pointer none), rfl, HS, (ptr_nil _ _ _ _ _)⟩
 | some o2758 =>
  (try simp only [onOpt] at H)
  obtain ⟨g2760, cs2761, rfl, HX2762, HK2763⟩ := ptr_some HP0
  obtain ⟨vq2764_0, rfl, HRq2764_0, HLq2764_4, HLq2764_5⟩ := k107_openF HK2763
  replace HRq2764_0 : Ft c [0] w (fun w_ => (Kd.ptr 81 k81).K w_ o2758.f0 [vq2764_0]) := HRq2764_0
  refine st (.bool false) rfl rfl (xr_bin (.pointer (some ⟨g2760, 0, none⟩)) (.pointer none) (.bool false) rfl rfl rfl (B.eql_pn ⟨_, Tryd.underlying36⟩ ⟨g2760, 0, none⟩)) ?_
  refine wl_end ?_
  (try simp only [ls0, ls1])
  refine hK2757 _ _ ?_
  (try clear hK2757 K2757)
  refine wp_cond_false rfl ?_
  refine wp_skip ?_
  (try simp only [ls0, ls1])
  refine hK2756 _ _ ?_
  (try clear hK2756 K2756)
  refine wp_seq_k fun K2765 hK2765 => ?_
  refine wl_region ?_
  refine mv_ rfl ?_
  have HP2766 : Ft c [0] w (fun w_ => (Kd.ptr 107 k107).K w_ (some (⟨o2758.f0, (⟨(⟨o2758.f1.f0.f0⟩ : S92), (⟨(⟨o2758.f1.f1.f0.f0, o2758.f1.f1.f0.f1⟩ : S94)⟩ : S96)⟩ : S98), o2758.f2, o2758.f3, (⟨o2758.f4.f0⟩ : S105)⟩ : S107)) [.pointer (some ⟨g2760, 0, none⟩)]) := ptr_mk (Ft.more HX2762 rfl) (k107_mkF _ _ (⟨o2758.f0, (⟨(⟨o2758.f1.f0.f0⟩ : S92), (⟨(⟨o2758.f1.f1.f0.f0, o2758.f1.f1.f0.f1⟩ : S94)⟩ : S96)⟩ : S98), o2758.f2, o2758.f3, (⟨o2758.f4.f0⟩ : S105)⟩ : S107) (Ft.more HRq2764_0 rfl) HLq2764_4 HLq2764_5)
  refine st (.agg #[.pointer (some ⟨g2760, 0, none⟩), .slice none 0 0, .slice none 0 0]) rfl rfl (xr_build #[(0, .pointer (some ⟨g2760, 0, none⟩))] (.agg #[.pointer (some ⟨g2760, 0, none⟩), .slice none 0 0, .slice none 0 0]) rfl (mp_ rfl) (by first | rfl | (go_simp; done) | (go_simp; rfl) | (go_simp; exact i64_w _) | (go_simp; exact i32_w _))) ?_
  refine bx_new (C := c) 118 ([.pointer (some ⟨g2760, 0, none⟩), .slice none 0 0, .slice none 0 0]) 13 rfl rfl (by first | (go_simp; done) | (go_simp; rfl)) ?_
  intro g2767 w2768 C2769 HX2770 hs2771
  replace HX2762 := HX2762.thru hs2771 rfl
  replace HRq2764_0 := HRq2764_0.thru hs2771 rfl
  replace HP2766 := HP2766.thru hs2771 rfl
  replace HS := HS.trans hs2771 hc rfl
  (try simp only [ls0, ls1])
  refine as_ rfl ?_
  refine wl_end ?_
  (try simp only [ls0, ls1])
  refine hK2765 _ _ ?_
  (try clear hK2765 K2765)
  refine wp_seq_k fun K2772 hK2772 => ?_
  refine wl_region ?_
  refine mv_ rfl ?_
  have HP2773 : Ft C2769 [0] w2768 (fun w_ => (Kd.ptr 107 k107).K w_ (some (⟨o2758.f0, (⟨(⟨o2758.f1.f0.f0⟩ : S92), (⟨(⟨o2758.f1.f1.f0.f0, o2758.f1.f1.f0.f1⟩ : S94)⟩ : S96)⟩ : S98), o2758.f2, o2758.f3, (⟨o2758.f4.f0⟩ : S105)⟩ : S107)) [.pointer (some ⟨g2760, 0, none⟩)]) := ptr_mk (Ft.more HX2762 rfl) (k107_mkF _ _ (⟨o2758.f0, (⟨(⟨o2758.f1.f0.f0⟩ : S92), (⟨(⟨o2758.f1.f1.f0.f0, o2758.f1.f1.f0.f1⟩ : S94)⟩ : S96)⟩ : S98), o2758.f2, o2758.f3, (⟨o2758.f4.f0⟩ : S105)⟩ : S107) (Ft.more HRq2764_0 rfl) HLq2764_4 HLq2764_5)
  obtain ⟨t2774, A2775, H⟩ := bnd H
  refine st_call #[.pointer (some ⟨g2760, 0, none⟩)] rfl rfl Tryd.func27 (by kernel_rfl) rfl rfl (mp_ rfl) ?_
  refine (lattice_Lattice_Order.calls (.pointer (some ⟨g2760, 0, none⟩)) (some (⟨o2758.f0, (⟨(⟨o2758.f1.f0.f0⟩ : S92), (⟨(⟨o2758.f1.f1.f0.f0, o2758.f1.f1.f0.f1⟩ : S94)⟩ : S96)⟩ : S98), o2758.f2, o2758.f3, (⟨o2758.f4.f0⟩ : S105)⟩ : S107) : Option S107) t2774  (fun z_ => pal [(0, 0)] (C2769 z_)) w2768 (fun _ => pal_lt rfl _) (Ft.arg HP2773 rfl) A2775).mono ?_
  rintro _ w2777 ⟨C2778, v2780, rfl, hs2779, HB2781⟩
  refine ⟨_, rfl, ?_⟩
  replace HB2781 := Ft.res (U := [(0, 0)]) HB2781 hs2779 [0] rfl rfl rfl
  replace hs2779 := Step.lift (U := [(0, 0)]) hs2779 [] rfl rfl
  generalize up C2769 C2778 w2768.heap.size [(0, 0)] = C2778_ at HB2781 hs2779
  replace HX2762 := HX2762.thru hs2779 rfl
  replace HRq2764_0 := HRq2764_0.thru hs2779 rfl
  replace HP2766 := HP2766.thru hs2779 rfl
  replace HX2770 := HX2770.thru hs2779 rfl
  replace HS := HS.trans hs2779 hc rfl
  (try simp only [ls0, ls1])
  refine as_ rfl ?_
  refine wl_end ?_
  (try simp only [ls0, ls1])
  refine hK2772 _ _ ?_
  (try clear hK2772 K2772)
  refine wp_seq_k fun K2782 hK2782 => ?_
  refine wl_region ?_
  refine mv_ rfl ?_
  obtain ⟨t2783, A2784, H⟩ := bnd H
  refine st_call #[v2780] rfl rfl Tryd.func21 (by kernel_rfl) rfl rfl (mp_ rfl) ?_
  refine (order_Order_Len.calls v2780 t2774 t2783  (fun z_ => pal [(0, 0)] (C2778_ z_)) w2777 (fun _ => pal_lt rfl _) (Ft.arg HB2781 rfl) A2784).mono ?_
  rintro _ w2786 ⟨C2787, rfl, hs2788⟩
  refine ⟨_, rfl, ?_⟩
  replace hs2788 := Step.lift (U := [(0, 0)]) hs2788 [] rfl rfl
  generalize up C2778_ C2787 w2777.heap.size [(0, 0)] = C2787_ at hs2788
  replace HX2762 := HX2762.thru hs2788 rfl
  replace HRq2764_0 := HRq2764_0.thru hs2788 rfl
  replace HP2766 := HP2766.thru hs2788 rfl
  replace HX2770 := HX2770.thru hs2788 rfl
  replace HB2781 := HB2781.thru hs2788 rfl
  replace HS := HS.trans hs2788 hc rfl
  (try simp only [ls0, ls1])
  refine as_ rfl ?_
  refine wl_end ?_
  (try simp only [ls0, ls1])
  refine hK2782 _ _ ?_
  (try clear hK2782 K2782)
  refine wp_seq_k fun K2789 hK2789 => ?_
  refine wp_seq_k fun K3824 hK3824 => ?_
  refine wl_region ?_
  refine mv_ rfl ?_
  refine st (.int .i64 0) rfl rfl (xr_move _ rfl rfl) ?_
  refine wl_end ?_
  (try simp only [ls0, ls1])
  refine hK3824 _ _ ?_
  (try clear hK3824 K3824)
  refine wp_block ?_
  (try simp only [ls0, ls1])
  refine wp_looped (looped_fin (fun kq4541 a_ w4540 => ∃ (C4539 : Nat → Nat) (x4528 : Int) (v4526 : Value) (x4525 : Option S81) (A4533 : Option Addr) (n4534 cp4535 : Nat) (x4532 : List Int) (g_ : Nat → Value), a_ = ⟨#[.pointer (some ⟨g2760, 0, none⟩), (g_ 1), (g_ 2), .pointer (some ⟨g2767, 0, none⟩), v4526, .int .i64 t2783, (g_ 6), (g_ 7), (g_ 8), (g_ 9), (g_ 10), (g_ 11), (g_ 12), (g_ 13), (g_ 14), (g_ 15), (g_ 16), (g_ 17), (g_ 18), (g_ 19), (g_ 20), (g_ 21), .int .i64 t2783, .int .i64 x4528, (g_ 24), (g_ 25), (g_ 26), (g_ 27), (g_ 28), (g_ 29), (g_ 30), (g_ 31), (g_ 32), (g_ 33), (g_ 34), (g_ 35), (g_ 36), (g_ 37), (g_ 38), (g_ 39), (g_ 40), (g_ 41), (g_ 42), (g_ 43), (g_ 44), (g_ 45), (g_ 46), (g_ 47), (g_ 48), (g_ 49), (g_ 50), (g_ 51), (g_ 52), (g_ 53), (g_ 54), (g_ 55), (g_ 56), (g_ 57), (g_ 58), (g_ 59), (g_ 60), (g_ 61), (g_ 62), (g_ 63), (g_ 64), (g_ 65), (g_ 66), (g_ 67), (g_ 68), (g_ 69), (g_ 70), (g_ 71), (g_ 72), (g_ 73), (g_ 74), (g_ 75), (g_ 76), (g_ 77), (g_ 78), (g_ 79), (g_ 80), (g_ 81), (g_ 82), (g_ 83), (g_ 84), (g_ 85), (g_ 86), (g_ 87), (g_ 88), (g_ 89), (g_ 90), (g_ 91), (g_ 92), (g_ 93), (g_ 94), (g_ 95), (g_ 96), (g_ 97), (g_ 98), (g_ 99), (g_ 100)], []⟩ ∧ Step c w C4539 w4540 [] ∧ kq4541 ≤ k ∧ (Ft C4539 [0] w4540 (fun w_ => (Kd.ptr 81 k81).K w_ x4525 [v4526])) ∧ (Ft C4539 [0] w4540 (fun w_ => (Kd.ptr 81 k81).K w_ o2758.f0 [vq2764_0])) ∧ (Ft C4539 [0] w4540 (fun w_ => w_.heap[g2760]? = some (.cells (List.toArray ([vq2764_0, .int .u32 o2758.f1.f0.f0, .int .i32 o2758.f1.f1.f0.f0, .int .u32 o2758.f1.f1.f0.f1] ++ (List.map (Value.int .i8) o2758.f2 ++ (List.map (Value.int .i8) o2758.f3 ++ ([.int .i64 o2758.f4.f0]))))) 107 (0, 0)))) ∧ (Ft C4539 [0] w4540 (fun w_ => (Kd.ptr 107 k107).K w_ (some (⟨o2758.f0, (⟨(⟨o2758.f1.f0.f0⟩ : S92), (⟨(⟨o2758.f1.f1.f0.f0, o2758.f1.f1.f0.f1⟩ : S94)⟩ : S96)⟩ : S98), o2758.f2, o2758.f3, (⟨o2758.f4.f0⟩ : S105)⟩ : S107) : Option S107) [.pointer (some ⟨g2760, 0, none⟩)])) ∧ (Own C4539 14 w4540 (Kd.int .i64) 3 (.slice A4533 n4534 cp4535) x4532) ∧ (n4534 ≤ cp4535) ∧ (Bx C4539 13 w4540 g2767 118 ([.pointer (some ⟨g2760, 0, none⟩), .slice A4533 n4534 cp4535, .slice none 0 0])) ∧ irred_New.l3 kq4541 o2758 t2783 x4525 x4528 x4532 = some r) ?step fun hL_ => ?init)
  case init =>
   exact jmpL (fun a_ h_ => hL_ k a_ _ h_) (fun g_ => ⟨_, 0, v2780, t2774, none, 0, 0, ([] : List Int), g_, rfl, HS, Nat.le_refl _, HB2781, HRq2764_0, HX2762, HP2766, (Own.nil _ _ _ _ _), (Nat.le_refl 0), HX2770, H⟩) rfl
  case step =>
   intro kq4541 ih4544 a4545 w4540 hr4546
   obtain ⟨C4539, x4528, v4526, x4525, A4533, n4534, cp4535, x4532, g_, rfl, HS4542, hk4543, HJ4527, HJ4529, HJ4530, HJ4531, HJ4537, HC4536, HJ4538, H⟩ := hr4546
   refine looped_round ?_
   obtain rfl : n4534 = x4532.length := HJ4537.at_.1
   cases kq4541 with
   | zero => exact absurd H (by simp [irred_New.l3])
   | succ k4547 =>
    simp only [irred_New.l3] at H
    refine wp_seq_k fun K4548 hK4548 => ?_
    refine wl_region ?_
    refine st (.bool (decide (x4528 < t2783))) rfl rfl (xr_bin _ _ _ rfl rfl rfl (B.lss_i64 _ _)) ?_
    refine wl_end ?_
    (try simp only [ls0, ls1])
    refine hK4548 _ _ ?_
    (try clear hK4548 K4548)
    refine wp_seq_k fun K4549 hK4549 => ?_
    by_cases c4550 : x4528 < t2783
    ·rw [if_pos c4550] at H
     (try rw [(decide_eq_true c4550)])
     refine wp_cond_true rfl ?_
     refine wp_skip ?_
     (try simp only [ls0, ls1])
     refine hK4549 _ _ ?_
     (try clear hK4549 K4549)
     refine wp_seq_k fun K4551 hK4551 => ?_
     refine wp_block ?_
     refine wp_seq_k fun K4552 hK4552 => ?_
     refine wl_region ?_
     refine mv_ rfl ?_
     refine as_ rfl ?_
     refine wl_end ?_
     (try simp only [ls0, ls1])
     refine hK4552 _ _ ?_
     (try clear hK4552 K4552)
     refine wp_seq_k fun K4553 hK4553 => ?_
     refine wl_region ?_
     refine st (.slice none 0 0) rfl rfl (xr_assign _ rfl rfl) ?_
     refine wl_end ?_
     (try simp only [ls0, ls1])
     refine hK4553 _ _ ?_
     (try clear hK4553 K4553)
     refine wp_seq_k fun K4554 hK4554 => ?_
     refine wp_seq_k fun K4691 hK4691 => ?_
     refine wl_region ?_
     refine mv_ rfl ?_
     refine st (.int .i64 0) rfl rfl (xr_move _ rfl rfl) ?_
     refine wl_end ?_
     (try simp only [ls0, ls1])
     refine hK4691 _ _ ?_
     (try clear hK4691 K4691)
     refine wp_block ?_
     (try simp only [ls0, ls1])
     refine wp_looped (looped_fin (fun kq4789 a_ w4788 => ∃ (C4787 : Nat → Nat) (x4781 : Int) (A4776 : Option Addr) (n4777 cp4778 : Nat) (x4775 : List Int) (g_ : Nat → Value), a_ = ⟨#[.pointer (some ⟨g2760, 0, none⟩), (g_ 1), (g_ 2), .pointer (some ⟨g2767, 0, none⟩), v4526, .int .i64 t2783, .int .i64 x4528, .slice A4776 n4777 cp4778, (g_ 8), (g_ 9), (g_ 10), (g_ 11), (g_ 12), (g_ 13), (g_ 14), (g_ 15), (g_ 16), (g_ 17), (g_ 18), (g_ 19), (g_ 20), (g_ 21), .int .i64 t2783, .int .i64 x4528, (g_ 24), (g_ 25), .int .i64 t2783, .int .i64 x4781, (g_ 28), (g_ 29), (g_ 30), (g_ 31), (g_ 32), (g_ 33), (g_ 34), (g_ 35), (g_ 36), (g_ 37), (g_ 38), (g_ 39), (g_ 40), (g_ 41), (g_ 42), (g_ 43), (g_ 44), (g_ 45), (g_ 46), (g_ 47), (g_ 48), (g_ 49), (g_ 50), (g_ 51), (g_ 52), (g_ 53), (g_ 54), (g_ 55), (g_ 56), (g_ 57), (g_ 58), (g_ 59), (g_ 60), (g_ 61), (g_ 62), (g_ 63), (g_ 64), (g_ 65), (g_ 66), (g_ 67), (g_ 68), (g_ 69), (g_ 70), (g_ 71), (g_ 72), (g_ 73), (g_ 74), (g_ 75), (g_ 76), (g_ 77), (g_ 78), (g_ 79), (g_ 80), (g_ 81), (g_ 82), (g_ 83), (g_ 84), (g_ 85), (g_ 86), (g_ 87), (g_ 88), (g_ 89), (g_ 90), (g_ 91), (g_ 92), (g_ 93), (g_ 94), (g_ 95), (g_ 96), (g_ 97), (g_ 98), (g_ 99), (g_ 100)], []⟩ ∧ Step c w C4787 w4788 [] ∧ kq4789 ≤ k4547 ∧ (Ft C4787 [0] w4788 (fun w_ => (Kd.ptr 81 k81).K w_ x4525 [v4526])) ∧ (Own C4787 15 w4788 (Kd.int .i64) 3 (.slice A4776 n4777 cp4778) x4775) ∧ (n4777 ≤ cp4778) ∧ (Ft C4787 [0] w4788 (fun w_ => (Kd.ptr 81 k81).K w_ o2758.f0 [vq2764_0])) ∧ (Ft C4787 [0] w4788 (fun w_ => w_.heap[g2760]? = some (.cells (List.toArray ([vq2764_0, .int .u32 o2758.f1.f0.f0, .int .i32 o2758.f1.f1.f0.f0, .int .u32 o2758.f1.f1.f0.f1] ++ (List.map (Value.int .i8) o2758.f2 ++ (List.map (Value.int .i8) o2758.f3 ++ ([.int .i64 o2758.f4.f0]))))) 107 (0, 0)))) ∧ (Ft C4787 [0] w4788 (fun w_ => (Kd.ptr 107 k107).K w_ (some (⟨o2758.f0, (⟨(⟨o2758.f1.f0.f0⟩ : S92), (⟨(⟨o2758.f1.f1.f0.f0, o2758.f1.f1.f0.f1⟩ : S94)⟩ : S96)⟩ : S98), o2758.f2, o2758.f3, (⟨o2758.f4.f0⟩ : S105)⟩ : S107) : Option S107) [.pointer (some ⟨g2760, 0, none⟩)])) ∧ (Own C4787 14 w4788 (Kd.int .i64) 3 (.slice A4533 x4532.length cp4535) x4532) ∧ (Bx C4787 13 w4788 g2767 118 ([.pointer (some ⟨g2760, 0, none⟩), .slice A4533 x4532.length cp4535, .slice none 0 0])) ∧ irred_New.l0 kq4789 o2758 t2783 x4525 x4528 x4532 x4775 x4781 = some r) ?step fun hL_ => ?init)
     case init =>
      exact jmpL (fun a_ h_ => hL_ k4547 a_ _ h_) (fun g_ => ⟨_, 0, none, 0, 0, ([] : List Int), g_, rfl, HS4542, Nat.le_refl _, HJ4527, (Own.nil _ _ _ _ _), (Nat.le_refl 0), HJ4529, HJ4530, HJ4531, HJ4537, HJ4538, H⟩) rfl
     case step =>
      intro kq4789 ih4792 a4793 w4788 hr4794
      obtain ⟨C4787, x4781, A4776, n4777, cp4778, x4775, g_, rfl, HS4790, hk4791, HJ4774, HJ4780, HC4779, HJ4782, HJ4783, HJ4784, HJ4785, HJ4786, H⟩ := hr4794
      refine looped_round ?_
      obtain rfl : n4777 = x4775.length := HJ4780.at_.1
      cases kq4789 with
      | zero => exact absurd H (by simp [irred_New.l0])
      | succ k4795 =>
       simp only [irred_New.l0] at H
       refine wp_seq_k fun K4796 hK4796 => ?_
       refine wl_region ?_
       refine st (.bool (decide (x4781 < t2783))) rfl rfl (xr_bin _ _ _ rfl rfl rfl (B.lss_i64 _ _)) ?_
       refine wl_end ?_
       (try simp only [ls0, ls1])
       refine hK4796 _ _ ?_
       (try clear hK4796 K4796)
       refine wp_seq_k fun K4797 hK4797 => ?_
       by_cases c4798 : x4781 < t2783
       ·rw [if_pos c4798] at H
        (try rw [(decide_eq_true c4798)])
        refine wp_cond_true rfl ?_
        refine wp_skip ?_
        (try simp only [ls0, ls1])
        refine hK4797 _ _ ?_
        (try clear hK4797 K4797)
        refine wp_seq_k fun K4799 hK4799 => ?_
        refine wp_block ?_
        refine wp_seq_k fun K4800 hK4800 => ?_
        refine wl_region ?_
        refine mv_ rfl ?_
        refine as_ rfl ?_
        refine wl_end ?_
        (try simp only [ls0, ls1])
        refine hK4800 _ _ ?_
        (try clear hK4800 K4800)
        refine wp_seq_k fun K4801 hK4801 => ?_
        refine wl_region ?_
        refine mv_ rfl ?_
        refine mv_ rfl ?_
        refine st (.bool (!decide (x4781 = x4528))) rfl rfl (xr_bin _ _ _ rfl rfl rfl (B.neq_i64 _ _)) ?_
        simp only [ls0, ls1]
        refine mv_ rfl ?_
        by_cases c4809 : x4781 = x4528
        ·rw [if_pos c4809] at H
         (try rw [(decide_eq_true c4809)])
         (try simp only [Bool.not_true, Bool.not_false])
         refine sk_guard (guard_off 3 true 33 rfl rfl false (by decide) rfl) rfl ?_
         refine sk_guard (guard_off 3 true 33 rfl rfl false (by decide) rfl) rfl ?_
         refine sk_guard (guard_off 3 true 33 rfl rfl false (by decide) rfl) rfl ?_
         simp only [ls0, ls1]
         refine sk_guard (guard_off 3 true 33 rfl rfl false (by decide) rfl) rfl ?_
         refine st (.bool false) rfl rfl (xr_pick false _ rfl rfl rfl) ?_
         refine wl_end ?_
         (try simp only [ls0, ls1])
         refine hK4801 _ _ ?_
         (try clear hK4801 K4801)
         refine wp_cond_false rfl ?_
         refine wp_skip ?_
         (try simp only [ls0, ls1])
         refine hK4799 _ _ ?_
         (try clear hK4799 K4799)
         refine wl_region ?_
         refine st (.int .i64 (wrap64 (x4781 + 1))) rfl rfl (xr_bin _ _ _ rfl rfl rfl (B.add_i64 _ _)) ?_
         refine mv_ rfl ?_
         refine wl_end ?_
         (try simp only [ls0, ls1])
         exact jmpL (fun a_ h_ => ih4792 k4795 (by omega) a_ _ h_) (fun g_ => ⟨_, wrap64 (x4781 + 1), A4776, x4775.length, cp4778, x4775, g_, rfl, HS4790, (by omega), HJ4774, HJ4780, HC4779, HJ4782, HJ4783, HJ4784, HJ4785, HJ4786, H⟩) rfl
        rw [if_neg c4809] at H
        (try rw [(decide_eq_false c4809)])
        (try simp only [Bool.not_true, Bool.not_false])
        refine on_guard (guard_on 3 true 33 rfl rfl rfl) ?_
        refine mv_ rfl ?_
        refine on_guard (guard_on 3 true 33 rfl rfl rfl) ?_
        refine mv_ rfl ?_
        refine on_guard (guard_on 3 true 33 rfl rfl rfl) ?_
        refine mv_ rfl ?_
        refine on_guard (guard_on 3 true 33 rfl rfl rfl) ?_
        obtain ⟨t4810, A4811, H⟩ := bnd H
        refine st_call #[v4526, .int .i64 x4781, .int .i64 x4528] rfl rfl Tryd.func24 (by kernel_rfl) rfl rfl (mp_ rfl) ?_
        refine (order_Order_Most.calls v4526 x4525 x4781 x4528 t4810  (fun z_ => pal [(0, 0)] (C4787 z_)) w4788 (fun _ => pal_lt rfl _) (Ft.arg HJ4774 rfl) A4811).mono ?_
        rintro _ w4813 ⟨C4814, rfl, hs4815⟩
        refine ⟨_, rfl, ?_⟩
        replace hs4815 := Step.lift (U := [(0, 0)]) hs4815 [] rfl rfl
        generalize up C4787 C4814 w4788.heap.size [(0, 0)] = C4814_ at hs4815
        replace HJ4774 := HJ4774.thru hs4815 rfl
        replace HJ4780 := HJ4780.thru hs4815 rfl
        replace HJ4783 := HJ4783.thru hs4815 rfl
        replace HJ4782 := HJ4782.thru hs4815 rfl
        replace HJ4784 := HJ4784.thru hs4815 rfl
        replace HJ4786 := HJ4786.thru hs4815 rfl
        replace HJ4785 := HJ4785.thru hs4815 rfl
        replace HS4790 := HS4790.trans hs4815 hc rfl
        (try simp only [ls0, ls1])
        refine st (.bool t4810) rfl rfl (xr_pick true _ rfl rfl rfl) ?_
        refine wl_end ?_
        (try simp only [ls0, ls1])
        refine hK4801 _ _ ?_
        (try clear hK4801 K4801)
        by_cases c4816 : t4810 = true
        ·rw [if_pos c4816] at H
         (try rw [c4816])
         refine wp_cond_true rfl ?_
         refine wl_region ?_
         refine mv_ rfl ?_
         refine mv_ rfl ?_
         refine ev_run (w1 := w4813.alloc (.cells #[.int .i64 x4781] 3)) (.slice (some ⟨w4813.heap.size, 0, none⟩) 1 1) rfl rfl (by first | (go_simp; done) | (go_simp; rfl)) ?_
         (try simp only [Act.put, List.setIfInBounds_toArray, ls0, ls1])
         obtain ⟨c4817, H⟩ := if_some H
         obtain ⟨y4818, A4819, H⟩ := bnd H
         refine Own.append (Kd.int .i64) (C := C4814_) (i := 15) rfl (.tmp 39) (.tmp 41) 23 3 (.int .i64 0) 8 rfl Tryd.underlying23 info3 rfl (by decide) (by decide) (.slice A4776 x4775.length cp4778) x4775 x4781 [.int .i64 x4781] rfl rfl (fk_int .i64 _ _ x4781) HJ4780 (by decide) (by omega) (Option.some.inj A4819) ?_
         intro A4820 cp4821 w4822 C4823 HO4824 HC4825 hs4826
         replace HJ4774 := HJ4774.thru hs4826 rfl
         replace HJ4783 := HJ4783.thru hs4826 rfl
         replace HJ4782 := HJ4782.thru hs4826 rfl
         replace HJ4784 := HJ4784.thru hs4826 rfl
         replace HJ4786 := HJ4786.thru hs4826 rfl
         replace HJ4785 := HJ4785.thru hs4826 rfl
         replace HS4790 := HS4790.trans hs4826 hc rfl
         (try simp only [ls0, ls1])
         refine as_ rfl ?_
         refine wl_end ?_
         (try simp only [ls0, ls1])
         refine hK4799 _ _ ?_
         (try clear hK4799 K4799)
         refine wl_region ?_
         refine st (.int .i64 (wrap64 (x4781 + 1))) rfl rfl (xr_bin _ _ _ rfl rfl rfl (B.add_i64 _ _)) ?_
         refine mv_ rfl ?_
         refine wl_end ?_
         (try simp only [ls0, ls1])
         exact jmpL (fun a_ h_ => ih4792 k4795 (by omega) a_ _ h_) (fun g_ => ⟨_, wrap64 (x4781 + 1), A4820, y4818.length, cp4821, y4818, g_, rfl, HS4790, (by omega), HJ4774, HO4824, HC4825, HJ4782, HJ4783, HJ4784, HJ4785, HJ4786, H⟩) rfl
        rw [if_neg c4816] at H
        (try rw [(Bool.eq_false_iff.mpr c4816)])
        refine wp_cond_false rfl ?_
        refine wp_skip ?_
        (try simp only [ls0, ls1])
        refine hK4799 _ _ ?_
        (try clear hK4799 K4799)
        refine wl_region ?_
        refine st (.int .i64 (wrap64 (x4781 + 1))) rfl rfl (xr_bin _ _ _ rfl rfl rfl (B.add_i64 _ _)) ?_
        refine mv_ rfl ?_
        refine wl_end ?_
        (try simp only [ls0, ls1])
        exact jmpL (fun a_ h_ => ih4792 k4795 (by omega) a_ _ h_) (fun g_ => ⟨_, wrap64 (x4781 + 1), A4776, x4775.length, cp4778, x4775, g_, rfl, HS4790, (by omega), HJ4774, HJ4780, HC4779, HJ4782, HJ4783, HJ4784, HJ4785, HJ4786, H⟩) rfl
       rw [if_neg c4798] at H
       (try rw [(decide_eq_false c4798)])
       refine wp_cond_false rfl ?_
       refine wp_exit ?_
       (try simp only [ls0, ls1])
       refine hK4554 _ _ ?_
       (try clear hK4554 K4554)
       refine wp_seq_k fun K4827 hK4827 => ?_
       refine wl_region ?_
       refine mv_ rfl ?_
       refine st (.int .i64 (x4775.length : Int)) rfl rfl (xr_builtin #[.slice A4776 x4775.length cp4778] (.int .i64 (x4775.length : Int)) rfl (mp_ rfl) (by first | rfl | (go_simp; done) | (go_simp; rfl) | (go_simp; exact i64_w _) | (go_simp; exact i32_w _))) ?_
       refine st (.bool (decide ((x4775.length : Int) > 0))) rfl rfl (xr_bin _ _ _ rfl rfl rfl (B.gtr_i64 _ _)) ?_
       simp only [ls0, ls1]
       refine mv_ rfl ?_
       by_cases c4836 : (x4775.length : Int) > 0
       ·rw [if_pos c4836] at H
        (try rw [(decide_eq_true c4836)])
        refine on_guard (guard_on 3 true 47 rfl rfl rfl) ?_
        refine mv_ rfl ?_
        refine on_guard (guard_on 3 true 47 rfl rfl rfl) ?_
        refine mv_ rfl ?_
        refine on_guard (guard_on 3 true 47 rfl rfl rfl) ?_
        have HP4837 : Ft C4787 [0] w4788 (fun w_ => (Kd.ptr 107 k107).K w_ (some (⟨o2758.f0, (⟨(⟨o2758.f1.f0.f0⟩ : S92), (⟨(⟨o2758.f1.f1.f0.f0, o2758.f1.f1.f0.f1⟩ : S94)⟩ : S96)⟩ : S98), o2758.f2, o2758.f3, (⟨o2758.f4.f0⟩ : S105)⟩ : S107)) [.pointer (some ⟨g2760, 0, none⟩)]) := ptr_mk (Ft.more HJ4783 rfl) (k107_mkF _ _ (⟨o2758.f0, (⟨(⟨o2758.f1.f0.f0⟩ : S92), (⟨(⟨o2758.f1.f1.f0.f0, o2758.f1.f1.f0.f1⟩ : S94)⟩ : S96)⟩ : S98), o2758.f2, o2758.f3, (⟨o2758.f4.f0⟩ : S105)⟩ : S107) (Ft.more HJ4782 rfl) HLq2764_4 HLq2764_5)
        obtain ⟨t4838, A4839, H⟩ := bnd H
        refine st_call #[.pointer (some ⟨g2760, 0, none⟩), .slice A4776 x4775.length cp4778] rfl rfl Tryd.func19 (by kernel_rfl) rfl rfl (mp_ rfl) ?_
        refine (lattice_Lattice_JoinAll.calls k4795 (.pointer (some ⟨g2760, 0, none⟩)) (some (⟨o2758.f0, (⟨(⟨o2758.f1.f0.f0⟩ : S92), (⟨(⟨o2758.f1.f1.f0.f0, o2758.f1.f1.f0.f1⟩ : S94)⟩ : S96)⟩ : S98), o2758.f2, o2758.f3, (⟨o2758.f4.f0⟩ : S105)⟩ : S107) : Option S107) A4776 cp4778 x4775 t4838  (fun z_ => pal [(0, 0), (15, 0)] (C4787 z_)) w4788 (fun _ => pal_lt rfl _) (Ft.arg HP4837 rfl) (Ft.arg (HJ4780.ft) rfl) HC4779 A4839).mono ?_
        rintro _ w4841 ⟨C4842, rfl, hs4843⟩
        refine ⟨_, rfl, ?_⟩
        replace hs4843 := Step.lift (U := [(0, 0)]) hs4843 [] rfl rfl
        generalize up C4787 C4842 w4788.heap.size [(0, 0)] = C4842_ at hs4843
        replace HJ4774 := HJ4774.thru hs4843 rfl
        replace HJ4780 := HJ4780.thru hs4843 rfl
        replace HJ4783 := HJ4783.thru hs4843 rfl
        replace HJ4782 := HJ4782.thru hs4843 rfl
        replace HJ4784 := HJ4784.thru hs4843 rfl
        replace HJ4786 := HJ4786.thru hs4843 rfl
        replace HJ4785 := HJ4785.thru hs4843 rfl
        replace HS4790 := HS4790.trans hs4843 hc rfl
        (try simp only [ls0, ls1])
        refine on_guard (guard_on 3 true 47 rfl rfl rfl) ?_
        refine mv_ rfl ?_
        refine on_guard (guard_on 3 true 47 rfl rfl rfl) ?_
        refine st (.bool (!decide (t4838 = x4528))) rfl rfl (xr_bin _ _ _ rfl rfl rfl (B.neq_i64 _ _)) ?_
        refine st (.bool (!decide (t4838 = x4528))) rfl rfl (xr_pick true _ rfl rfl rfl) ?_
        refine wl_end ?_
        (try simp only [ls0, ls1])
        refine hK4827 _ _ ?_
        (try clear hK4827 K4827)
        by_cases c4844 : t4838 = x4528
        ·rw [if_pos c4844] at H
         (try rw [(decide_eq_true c4844)])
         (try simp only [Bool.not_true, Bool.not_false])
         refine wp_cond_false rfl ?_
         refine wp_skip ?_
         (try simp only [ls0, ls1])
         refine hK4551 _ _ ?_
         (try clear hK4551 K4551)
         refine wl_region ?_
         refine st (.int .i64 (wrap64 (x4528 + 1))) rfl rfl (xr_bin _ _ _ rfl rfl rfl (B.add_i64 _ _)) ?_
         refine mv_ rfl ?_
         refine wl_end ?_
         (try simp only [ls0, ls1])
         exact jmpL (fun a_ h_ => ih4544 k4795 (by omega) a_ _ h_) (fun g_ => ⟨_, wrap64 (x4528 + 1), v4526, x4525, A4533, x4532.length, cp4535, x4532, g_, rfl, HS4790, (by omega), HJ4774, HJ4782, HJ4783, HJ4784, HJ4785, HC4536, HJ4786, H⟩) rfl
        rw [if_neg c4844] at H
        (try rw [(decide_eq_false c4844)])
        (try simp only [Bool.not_true, Bool.not_false])
        refine wp_cond_true rfl ?_
        refine wl_region ?_
        refine mv_ rfl ?_
        refine mv_ rfl ?_
        refine st (.pointer (some ⟨g2767, 0, none⟩)) rfl rfl (xr_nilCheck _ rfl rfl) ?_
        refine st (.pointer (some ⟨g2767, 1, none⟩)) rfl rfl (xr_fieldAddr _ _ rfl rfl (bx_field2 Tryd.underlying118 rfl rfl (by kernel_rfl))) ?_
        simp only [ls0, ls1]
        refine st (.slice A4533 x4532.length cp4535) rfl rfl (xr_load _ _ rfl rfl (load_cell Tryd.underlying23 rfl (bx_cell (HJ4786).2 1 rfl))) ?_
        refine mv_ rfl ?_
        refine ev_run (w1 := w4841.alloc (.cells #[.int .i64 x4528] 3)) (.slice (some ⟨w4841.heap.size, 0, none⟩) 1 1) rfl rfl (by first | (go_simp; done) | (go_simp; rfl)) ?_
        (try simp only [Act.put, List.setIfInBounds_toArray, ls0, ls1])
        obtain ⟨c4845, H⟩ := if_some H
        obtain ⟨y4846, A4847, H⟩ := bnd H
        refine Own.append (Kd.int .i64) (C := C4842_) (i := 14) rfl (.tmp 58) (.tmp 60) 23 3 (.int .i64 0) 8 rfl Tryd.underlying23 info3 rfl (by decide) (by decide) (.slice A4533 x4532.length cp4535) x4532 x4528 [.int .i64 x4528] rfl rfl (fk_int .i64 _ _ x4528) HJ4785 (by decide) (by omega) (Option.some.inj A4847) ?_
        intro A4848 cp4849 w4850 C4851 HO4852 HC4853 hs4854
        replace HJ4774 := HJ4774.thru hs4854 rfl
        replace HJ4780 := HJ4780.thru hs4854 rfl
        replace HJ4783 := HJ4783.thru hs4854 rfl
        replace HJ4782 := HJ4782.thru hs4854 rfl
        replace HJ4784 := HJ4784.thru hs4854 rfl
        replace HJ4786 := HJ4786.thru hs4854 rfl
        replace HS4790 := HS4790.trans hs4854 hc rfl
        (try simp only [ls0, ls1])
        refine st (.pointer (some ⟨g2767, 0, none⟩)) rfl rfl (xr_nilCheck _ rfl rfl) ?_
        refine st (.pointer (some ⟨g2767, 1, none⟩)) rfl rfl (xr_fieldAddr _ _ rfl rfl (bx_field2 Tryd.underlying118 rfl rfl (by kernel_rfl))) ?_
        refine bx_store (C := C4851) (z := 13) (g := g2767) (j := 1) (tb := 118) (u := .slice A4848 y4846.length cp4849) (seg := [.slice A4848 y4846.length cp4849]) (xs := [.pointer (some ⟨g2760, 0, none⟩), .slice A4533 x4532.length cp4535, .slice none 0 0]) rfl rfl rfl rfl rfl rfl (by first | kernel_rfl | rfl) (by simp [Value.oneCell']) HJ4786 (by simp only [List.length_cons, List.length_nil]; omega) rfl ?_
        intro w4855 HX4856 hs4857
        replace HJ4774 := HJ4774.thru hs4857 rfl
        replace HJ4780 := HJ4780.thru hs4857 rfl
        replace HJ4783 := HJ4783.thru hs4857 rfl
        replace HJ4782 := HJ4782.thru hs4857 rfl
        replace HJ4784 := HJ4784.thru hs4857 rfl
        replace HO4852 := HO4852.thru hs4857 rfl
        replace HS4790 := HS4790.trans hs4857 hc rfl
        (try simp only [ls0, ls1])
        refine wl_end ?_
        (try simp only [ls0, ls1])
        refine hK4551 _ _ ?_
        (try clear hK4551 K4551)
        refine wl_region ?_
        refine st (.int .i64 (wrap64 (x4528 + 1))) rfl rfl (xr_bin _ _ _ rfl rfl rfl (B.add_i64 _ _)) ?_
        refine mv_ rfl ?_
        refine wl_end ?_
        (try simp only [ls0, ls1])
        exact jmpL (fun a_ h_ => ih4544 k4795 (by omega) a_ _ h_) (fun g_ => ⟨_, wrap64 (x4528 + 1), v4526, x4525, A4848, y4846.length, cp4849, y4846, g_, rfl, HS4790, (by omega), HJ4774, HJ4782, HJ4783, HJ4784, HO4852, HC4853, HX4856, H⟩) rfl
       rw [if_neg c4836] at H
       (try rw [(decide_eq_false c4836)])
       refine sk_guard (guard_off 3 true 47 rfl rfl false (by decide) rfl) rfl ?_
       refine sk_guard (guard_off 3 true 47 rfl rfl false (by decide) rfl) rfl ?_
       refine sk_guard (guard_off 3 true 47 rfl rfl false (by decide) rfl) rfl ?_
       refine sk_guard (guard_off 3 true 47 rfl rfl false (by decide) rfl) rfl ?_
       simp only [ls0, ls1]
       refine sk_guard (guard_off 3 true 47 rfl rfl false (by decide) rfl) rfl ?_
       refine st (.bool false) rfl rfl (xr_pick false _ rfl rfl rfl) ?_
       refine wl_end ?_
       (try simp only [ls0, ls1])
       refine hK4827 _ _ ?_
       (try clear hK4827 K4827)
       refine wp_cond_false rfl ?_
       refine wp_skip ?_
       (try simp only [ls0, ls1])
       refine hK4551 _ _ ?_
       (try clear hK4551 K4551)
       refine wl_region ?_
       refine st (.int .i64 (wrap64 (x4528 + 1))) rfl rfl (xr_bin _ _ _ rfl rfl rfl (B.add_i64 _ _)) ?_
       refine mv_ rfl ?_
       refine wl_end ?_
       (try simp only [ls0, ls1])
       exact jmpL (fun a_ h_ => ih4544 k4795 (by omega) a_ _ h_) (fun g_ => ⟨_, wrap64 (x4528 + 1), v4526, x4525, A4533, x4532.length, cp4535, x4532, g_, rfl, HS4790, (by omega), HJ4774, HJ4782, HJ4783, HJ4784, HJ4785, HC4536, HJ4786, H⟩) rfl
    rw [if_neg c4550] at H
    (try rw [(decide_eq_false c4550)])
    refine wp_cond_false rfl ?_
    refine wp_exit ?_
    (try simp only [ls0, ls1])
    refine hK2789 _ _ ?_
    (try clear hK2789 K2789)
    refine wp_seq_k fun K4858 hK4858 => ?_
    refine wp_seq_k fun K4859 hK4859 => ?_
    refine wl_region ?_
    refine mv_ rfl ?_
    refine st (.int .i64 0) rfl rfl (xr_move _ rfl rfl) ?_
    refine wl_end ?_
    (try simp only [ls0, ls1])
    refine hK4859 _ _ ?_
    (try clear hK4859 K4859)
    refine wp_block ?_
    (try simp only [ls0, ls1])
    refine wp_looped (looped_fin (fun kq5311 a_ w5310 => ∃ (C5309 : Nat → Nat) (x5297 : Int) (A5303 : Option Addr) (n5304 cp5305 : Nat) (x5302 : List Int) (g_ : Nat → Value), a_ = ⟨#[(g_ 0), (g_ 1), (g_ 2), .pointer (some ⟨g2767, 0, none⟩), v4526, (g_ 5), (g_ 6), (g_ 7), (g_ 8), (g_ 9), (g_ 10), (g_ 11), (g_ 12), (g_ 13), (g_ 14), (g_ 15), (g_ 16), (g_ 17), (g_ 18), (g_ 19), (g_ 20), (g_ 21), (g_ 22), (g_ 23), (g_ 24), (g_ 25), (g_ 26), (g_ 27), (g_ 28), (g_ 29), (g_ 30), (g_ 31), (g_ 32), (g_ 33), (g_ 34), (g_ 35), (g_ 36), (g_ 37), (g_ 38), (g_ 39), (g_ 40), (g_ 41), (g_ 42), (g_ 43), (g_ 44), (g_ 45), (g_ 46), (g_ 47), (g_ 48), (g_ 49), (g_ 50), (g_ 51), (g_ 52), (g_ 53), (g_ 54), (g_ 55), (g_ 56), (g_ 57), (g_ 58), (g_ 59), (g_ 60), (g_ 61), (g_ 62), (g_ 63), (g_ 64), .int .i64 t2783, .int .i64 x5297, (g_ 67), (g_ 68), (g_ 69), (g_ 70), (g_ 71), (g_ 72), (g_ 73), (g_ 74), (g_ 75), (g_ 76), (g_ 77), (g_ 78), (g_ 79), (g_ 80), (g_ 81), (g_ 82), (g_ 83), (g_ 84), (g_ 85), (g_ 86), (g_ 87), (g_ 88), (g_ 89), (g_ 90), (g_ 91), (g_ 92), (g_ 93), (g_ 94), (g_ 95), (g_ 96), (g_ 97), (g_ 98), (g_ 99), (g_ 100)], []⟩ ∧ Step c w C5309 w5310 [] ∧ kq5311 ≤ k4547 ∧ (Ft C5309 [0] w5310 (fun w_ => (Kd.ptr 81 k81).K w_ x4525 [v4526])) ∧ (Ft C5309 [0] w5310 (fun w_ => (Kd.ptr 81 k81).K w_ o2758.f0 [vq2764_0])) ∧ (Ft C5309 [0] w5310 (fun w_ => w_.heap[g2760]? = some (.cells (List.toArray ([vq2764_0, .int .u32 o2758.f1.f0.f0, .int .i32 o2758.f1.f1.f0.f0, .int .u32 o2758.f1.f1.f0.f1] ++ (List.map (Value.int .i8) o2758.f2 ++ (List.map (Value.int .i8) o2758.f3 ++ ([.int .i64 o2758.f4.f0]))))) 107 (0, 0)))) ∧ (Ft C5309 [0] w5310 (fun w_ => (Kd.ptr 107 k107).K w_ (some (⟨o2758.f0, (⟨(⟨o2758.f1.f0.f0⟩ : S92), (⟨(⟨o2758.f1.f1.f0.f0, o2758.f1.f1.f0.f1⟩ : S94)⟩ : S96)⟩ : S98), o2758.f2, o2758.f3, (⟨o2758.f4.f0⟩ : S105)⟩ : S107) : Option S107) [.pointer (some ⟨g2760, 0, none⟩)])) ∧ (Own C5309 14 w5310 (Kd.int .i64) 3 (.slice A4533 x4532.length cp4535) x4532) ∧ (Own C5309 15 w5310 (Kd.int .u64) 58 (.slice A5303 n5304 cp5305) x5302) ∧ (n5304 ≤ cp5305) ∧ (Bx C5309 13 w5310 g2767 118 ([.pointer (some ⟨g2760, 0, none⟩), .slice A4533 x4532.length cp4535, .slice A5303 n5304 cp5305])) ∧ irred_New.l2 kq5311 o2758 t2783 x4525 x4532 x5297 x5302 = some r) ?step fun hL_ => ?init)
    case init =>
     exact jmpL (fun a_ h_ => hL_ k4547 a_ _ h_) (fun g_ => ⟨_, 0, none, 0, 0, ([] : List Int), g_, rfl, HS4542, Nat.le_refl _, HJ4527, HJ4529, HJ4530, HJ4531, HJ4537, (Own.nil _ _ _ _ _), (Nat.le_refl 0), HJ4538, H⟩) rfl
    case step =>
     intro kq5311 ih5314 a5315 w5310 hr5316
     obtain ⟨C5309, x5297, A5303, n5304, cp5305, x5302, g_, rfl, HS5312, hk5313, HJ5296, HJ5298, HJ5299, HJ5300, HJ5301, HJ5307, HC5306, HJ5308, H⟩ := hr5316
     refine looped_round ?_
     obtain rfl : n5304 = x5302.length := HJ5307.at_.1
     cases kq5311 with
     | zero => exact absurd H (by simp [irred_New.l2])
     | succ k5317 =>
      simp only [irred_New.l2] at H
      refine wp_seq_k fun K5318 hK5318 => ?_
      refine wl_region ?_
      refine st (.bool (decide (x5297 < t2783))) rfl rfl (xr_bin _ _ _ rfl rfl rfl (B.lss_i64 _ _)) ?_
      refine wl_end ?_
      (try simp only [ls0, ls1])
      refine hK5318 _ _ ?_
      (try clear hK5318 K5318)
      refine wp_seq_k fun K5319 hK5319 => ?_
      by_cases c5320 : x5297 < t2783
      ·rw [if_pos c5320] at H
       (try rw [(decide_eq_true c5320)])
       refine wp_cond_true rfl ?_
       refine wp_skip ?_
       (try simp only [ls0, ls1])
       refine hK5319 _ _ ?_
       (try clear hK5319 K5319)
       refine wp_seq_k fun K5321 hK5321 => ?_
       refine wp_block ?_
       refine wp_seq_k fun K5322 hK5322 => ?_
       refine wl_region ?_
       refine mv_ rfl ?_
       refine as_ rfl ?_
       refine wl_end ?_
       (try simp only [ls0, ls1])
       refine hK5322 _ _ ?_
       (try clear hK5322 K5322)
       refine wp_seq_k fun K5323 hK5323 => ?_
       refine wl_region ?_
       refine st (.int .u64 0) rfl rfl (xr_assign _ rfl rfl) ?_
       refine wl_end ?_
       (try simp only [ls0, ls1])
       refine hK5323 _ _ ?_
       (try clear hK5323 K5323)
       refine wp_seq_k fun K5324 hK5324 => ?_
       refine wp_seq_k fun K5410 hK5410 => ?_
       refine wl_region ?_
       refine mv_ rfl ?_
       refine st (.pointer (some ⟨g2767, 0, none⟩)) rfl rfl (xr_nilCheck _ rfl rfl) ?_
       refine st (.pointer (some ⟨g2767, 1, none⟩)) rfl rfl (xr_fieldAddr _ _ rfl rfl (bx_field2 Tryd.underlying118 rfl rfl (by kernel_rfl))) ?_
       refine st (.slice A4533 x4532.length cp4535) rfl rfl (xr_load _ _ rfl rfl (load_cell Tryd.underlying23 rfl (bx_cell (HJ5308).2 1 rfl))) ?_
       simp only [ls0, ls1]
       refine st (.int .i64 (x4532.length : Int)) rfl rfl (xr_builtin #[.slice A4533 x4532.length cp4535] (.int .i64 (x4532.length : Int)) rfl (mp_ rfl) (by first | rfl | (go_simp; done) | (go_simp; rfl) | (go_simp; exact i64_w _) | (go_simp; exact i32_w _))) ?_
       refine st (.int .i64 0) rfl rfl (xr_move _ rfl rfl) ?_
       refine wl_end ?_
       (try simp only [ls0, ls1])
       refine hK5410 _ _ ?_
       (try clear hK5410 K5410)
       refine wp_block ?_
       (try simp only [ls0, ls1])
       refine wp_looped (looped_fin (fun kq5471 a_ w5470 => ∃ (C5469 : Nat → Nat) (x5461 : Int) (x5463 : Int) (g_ : Nat → Value), a_ = ⟨#[(g_ 0), (g_ 1), (g_ 2), .pointer (some ⟨g2767, 0, none⟩), v4526, (g_ 5), (g_ 6), (g_ 7), (g_ 8), .int .i64 x5297, .int .u64 x5461, (g_ 11), (g_ 12), (g_ 13), (g_ 14), (g_ 15), (g_ 16), (g_ 17), (g_ 18), (g_ 19), (g_ 20), (g_ 21), (g_ 22), (g_ 23), (g_ 24), (g_ 25), (g_ 26), (g_ 27), (g_ 28), (g_ 29), (g_ 30), (g_ 31), (g_ 32), (g_ 33), (g_ 34), (g_ 35), (g_ 36), (g_ 37), (g_ 38), (g_ 39), (g_ 40), (g_ 41), (g_ 42), (g_ 43), (g_ 44), (g_ 45), (g_ 46), (g_ 47), (g_ 48), (g_ 49), (g_ 50), (g_ 51), (g_ 52), (g_ 53), (g_ 54), (g_ 55), (g_ 56), (g_ 57), (g_ 58), (g_ 59), (g_ 60), (g_ 61), (g_ 62), (g_ 63), (g_ 64), .int .i64 t2783, .int .i64 x5297, (g_ 67), (g_ 68), (g_ 69), (g_ 70), (g_ 71), .slice A4533 x4532.length cp4535, .int .i64 (x4532.length : Int), .int .i64 x5463, (g_ 75), (g_ 76), (g_ 77), (g_ 78), (g_ 79), (g_ 80), (g_ 81), (g_ 82), (g_ 83), (g_ 84), (g_ 85), (g_ 86), (g_ 87), (g_ 88), (g_ 89), (g_ 90), (g_ 91), (g_ 92), (g_ 93), (g_ 94), (g_ 95), (g_ 96), (g_ 97), (g_ 98), (g_ 99), (g_ 100)], []⟩ ∧ Step c w C5469 w5470 [] ∧ kq5471 ≤ k5317 ∧ (Ft C5469 [0] w5470 (fun w_ => (Kd.ptr 81 k81).K w_ x4525 [v4526])) ∧ (Own C5469 14 w5470 (Kd.int .i64) 3 (.slice A4533 x4532.length cp4535) x4532) ∧ (Ft C5469 [0] w5470 (fun w_ => (Kd.ptr 81 k81).K w_ o2758.f0 [vq2764_0])) ∧ (Ft C5469 [0] w5470 (fun w_ => w_.heap[g2760]? = some (.cells (List.toArray ([vq2764_0, .int .u32 o2758.f1.f0.f0, .int .i32 o2758.f1.f1.f0.f0, .int .u32 o2758.f1.f1.f0.f1] ++ (List.map (Value.int .i8) o2758.f2 ++ (List.map (Value.int .i8) o2758.f3 ++ ([.int .i64 o2758.f4.f0]))))) 107 (0, 0)))) ∧ (Ft C5469 [0] w5470 (fun w_ => (Kd.ptr 107 k107).K w_ (some (⟨o2758.f0, (⟨(⟨o2758.f1.f0.f0⟩ : S92), (⟨(⟨o2758.f1.f1.f0.f0, o2758.f1.f1.f0.f1⟩ : S94)⟩ : S96)⟩ : S98), o2758.f2, o2758.f3, (⟨o2758.f4.f0⟩ : S105)⟩ : S107) : Option S107) [.pointer (some ⟨g2760, 0, none⟩)])) ∧ (Own C5469 15 w5470 (Kd.int .u64) 58 (.slice A5303 x5302.length cp5305) x5302) ∧ (Bx C5469 13 w5470 g2767 118 ([.pointer (some ⟨g2760, 0, none⟩), .slice A4533 x4532.length cp4535, .slice A5303 x5302.length cp5305])) ∧ irred_New.l1 kq5471 o2758 t2783 x4525 x4532 x5297 x5302 x5461 x5463 = some r) ?step fun hL_ => ?init)
       case init =>
        exact jmpL (fun a_ h_ => hL_ k5317 a_ _ h_) (fun g_ => ⟨_, 0, 0, g_, rfl, HS5312, Nat.le_refl _, HJ5296, HJ5301, HJ5298, HJ5299, HJ5300, HJ5307, HJ5308, H⟩) rfl
       case step =>
        intro kq5471 ih5474 a5475 w5470 hr5476
        obtain ⟨C5469, x5461, x5463, g_, rfl, HS5472, hk5473, HJ5460, HJ5462, HJ5464, HJ5465, HJ5466, HJ5467, HJ5468, H⟩ := hr5476
        refine looped_round ?_
        cases kq5471 with
        | zero => exact absurd H (by simp [irred_New.l1])
        | succ k5477 =>
         simp only [irred_New.l1] at H
         refine wp_seq_k fun K5478 hK5478 => ?_
         refine wl_region ?_
         refine st (.bool (decide (x5463 < (x4532.length : Int)))) rfl rfl (xr_bin _ _ _ rfl rfl rfl (B.lss_i64 _ _)) ?_
         refine wl_end ?_
         (try simp only [ls0, ls1])
         refine hK5478 _ _ ?_
         (try clear hK5478 K5478)
         refine wp_seq_k fun K5479 hK5479 => ?_
         by_cases c5480 : x5463 < (x4532.length : Int)
         ·rw [if_pos c5480] at H
          (try rw [(decide_eq_true c5480)])
          refine wp_cond_true rfl ?_
          refine wp_skip ?_
          (try simp only [ls0, ls1])
          refine hK5479 _ _ ?_
          (try clear hK5479 K5479)
          refine wp_seq_k fun K5481 hK5481 => ?_
          refine wp_block ?_
          refine wp_seq_k fun K5482 hK5482 => ?_
          refine wl_region ?_
          refine mv_ rfl ?_
          obtain ⟨c5483, H⟩ := if_some H
          obtain ⟨g5484, hA5485⟩ := HJ5462.form (pos_of (j := x5463) (by first | assumption | decide) (by first | assumption | omega))
          refine st (.pointer (some ((⟨g5484, 0, none⟩ : Addr).add ((x5463 : Int).toNat * 1)))) rfl rfl (xr_indexAddr _ _ _ rfl rfl rfl (index_at Tryd.underlying23 info3 hA5485 (by first | assumption | decide | omega) (by first | assumption | decide | omega))) ?_
          refine st (.int .i64 (rd x4532 x5463)) rfl rfl (xr_load _ _ rfl rfl (load_int Tryd.underlying3 rfl hA5485 (Ft.now (HJ5462.ft)) (by first | assumption | decide | omega) (by first | assumption | decide | omega))) ?_
          refine as_ rfl ?_
          simp only [ls0, ls1]
          refine as_ rfl ?_
          refine wl_end ?_
          (try simp only [ls0, ls1])
          refine hK5482 _ _ ?_
          (try clear hK5482 K5482)
          refine wp_seq_k fun K5486 hK5486 => ?_
          refine wl_region ?_
          refine mv_ rfl ?_
          refine mv_ rfl ?_
          refine mv_ rfl ?_
          obtain ⟨t5487, A5488, H⟩ := bnd H
          refine st_call #[v4526, .int .i64 (rd x4532 x5463), .int .i64 x5297] rfl rfl Tryd.func24 (by kernel_rfl) rfl rfl (mp_ rfl) ?_
          refine (order_Order_Most.calls v4526 x4525 (rd x4532 x5463) x5297 t5487  (fun z_ => pal [(0, 0)] (C5469 z_)) w5470 (fun _ => pal_lt rfl _) (Ft.arg HJ5460 rfl) A5488).mono ?_
          rintro _ w5490 ⟨C5491, rfl, hs5492⟩
          refine ⟨_, rfl, ?_⟩
          replace hs5492 := Step.lift (U := [(0, 0)]) hs5492 [] rfl rfl
          generalize up C5469 C5491 w5470.heap.size [(0, 0)] = C5491_ at hs5492
          replace HJ5460 := HJ5460.thru hs5492 rfl
          replace HJ5462 := HJ5462.thru hs5492 rfl
          replace HJ5465 := HJ5465.thru hs5492 rfl
          replace HJ5464 := HJ5464.thru hs5492 rfl
          replace HJ5466 := HJ5466.thru hs5492 rfl
          replace HJ5468 := HJ5468.thru hs5492 rfl
          replace HJ5467 := HJ5467.thru hs5492 rfl
          replace HS5472 := HS5472.trans hs5492 hc rfl
          (try simp only [ls0, ls1])
          refine wl_end ?_
          (try simp only [ls0, ls1])
          refine hK5486 _ _ ?_
          (try clear hK5486 K5486)
          by_cases c5493 : t5487 = true
          ·rw [if_pos c5493] at H
           (try rw [c5493])
           refine wp_cond_true rfl ?_
           refine wl_region ?_
           refine mv_ rfl ?_
           refine mv_ rfl ?_
           refine st (.int .u64 (IntKind.u64.wrap (x5463))) rfl rfl (xr_conv (.int .i64 x5463) _ rfl rfl (by first | rfl | (go_simp; done) | (go_simp; rfl) | (go_simp; exact i64_w _) | (go_simp; exact i32_w _))) ?_
           obtain ⟨c5494, H⟩ := if_some H
           refine st (.int .u64 (shl .u64 1 (IntKind.u64.wrap (x5463)))) rfl rfl (xr_bin _ _ _ rfl rfl rfl (B.shl_u64_u64 _ _ (by assumption))) ?_
           simp only [ls0, ls1]
           refine st (.int .u64 (Go.bits .or .u64 x5461 (shl .u64 1 (IntKind.u64.wrap (x5463))))) rfl rfl (xr_bin _ _ _ rfl rfl rfl (B.or_u64 _ _)) ?_
           refine as_ rfl ?_
           refine wl_end ?_
           (try simp only [ls0, ls1])
           refine hK5481 _ _ ?_
           (try clear hK5481 K5481)
           refine wl_region ?_
           refine st (.int .i64 (wrap64 (x5463 + 1))) rfl rfl (xr_bin _ _ _ rfl rfl rfl (B.add_i64 _ _)) ?_
           refine mv_ rfl ?_
           refine wl_end ?_
           (try simp only [ls0, ls1])
           exact jmpL (fun a_ h_ => ih5474 k5477 (by omega) a_ _ h_) (fun g_ => ⟨_, Go.bits .or .u64 x5461 (shl .u64 1 (IntKind.u64.wrap (x5463))), wrap64 (x5463 + 1), g_, rfl, HS5472, (by omega), HJ5460, HJ5462, HJ5464, HJ5465, HJ5466, HJ5467, HJ5468, H⟩) rfl
          rw [if_neg c5493] at H
          (try rw [(Bool.eq_false_iff.mpr c5493)])
          refine wp_cond_false rfl ?_
          refine wp_skip ?_
          (try simp only [ls0, ls1])
          refine hK5481 _ _ ?_
          (try clear hK5481 K5481)
          refine wl_region ?_
          refine st (.int .i64 (wrap64 (x5463 + 1))) rfl rfl (xr_bin _ _ _ rfl rfl rfl (B.add_i64 _ _)) ?_
          refine mv_ rfl ?_
          refine wl_end ?_
          (try simp only [ls0, ls1])
          exact jmpL (fun a_ h_ => ih5474 k5477 (by omega) a_ _ h_) (fun g_ => ⟨_, x5461, wrap64 (x5463 + 1), g_, rfl, HS5472, (by omega), HJ5460, HJ5462, HJ5464, HJ5465, HJ5466, HJ5467, HJ5468, H⟩) rfl
         rw [if_neg c5480] at H
         (try rw [(decide_eq_false c5480)])
         refine wp_cond_false rfl ?_
         refine wp_exit ?_
         (try simp only [ls0, ls1])
         refine hK5324 _ _ ?_
         (try clear hK5324 K5324)
         refine wl_region ?_
         refine mv_ rfl ?_
         refine mv_ rfl ?_
         refine st (.pointer (some ⟨g2767, 0, none⟩)) rfl rfl (xr_nilCheck _ rfl rfl) ?_
         refine st (.pointer (some ⟨g2767, 2, none⟩)) rfl rfl (xr_fieldAddr _ _ rfl rfl (bx_field2 Tryd.underlying118 rfl rfl (by kernel_rfl))) ?_
         simp only [ls0, ls1]
         refine st (.slice A5303 x5302.length cp5305) rfl rfl (xr_load _ _ rfl rfl (load_cell Tryd.underlying116 rfl (bx_cell (HJ5468).2 2 rfl))) ?_
         refine mv_ rfl ?_
         refine ev_run (w1 := w5470.alloc (.cells #[.int .u64 x5461] 58)) (.slice (some ⟨w5470.heap.size, 0, none⟩) 1 1) rfl rfl (by first | (go_simp; done) | (go_simp; rfl)) ?_
         (try simp only [Act.put, List.setIfInBounds_toArray, ls0, ls1])
         obtain ⟨c5495, H⟩ := if_some H
         obtain ⟨y5496, A5497, H⟩ := bnd H
         refine Own.append (Kd.int .u64) (C := C5469) (i := 15) rfl (.tmp 93) (.tmp 95) 116 58 (.int .u64 0) 8 rfl Tryd.underlying116 info58 rfl (by decide) (by decide) (.slice A5303 x5302.length cp5305) x5302 x5461 [.int .u64 x5461] rfl rfl (fk_int .u64 _ _ x5461) HJ5467 (by decide) (by omega) (Option.some.inj A5497) ?_
         intro A5498 cp5499 w5500 C5501 HO5502 HC5503 hs5504
         replace HJ5460 := HJ5460.thru hs5504 rfl
         replace HJ5462 := HJ5462.thru hs5504 rfl
         replace HJ5465 := HJ5465.thru hs5504 rfl
         replace HJ5464 := HJ5464.thru hs5504 rfl
         replace HJ5466 := HJ5466.thru hs5504 rfl
         replace HJ5468 := HJ5468.thru hs5504 rfl
         replace HS5472 := HS5472.trans hs5504 hc rfl
         (try simp only [ls0, ls1])
         refine st (.pointer (some ⟨g2767, 0, none⟩)) rfl rfl (xr_nilCheck _ rfl rfl) ?_
         refine st (.pointer (some ⟨g2767, 2, none⟩)) rfl rfl (xr_fieldAddr _ _ rfl rfl (bx_field2 Tryd.underlying118 rfl rfl (by kernel_rfl))) ?_
         refine bx_store (C := C5501) (z := 13) (g := g2767) (j := 2) (tb := 118) (u := .slice A5498 y5496.length cp5499) (seg := [.slice A5498 y5496.length cp5499]) (xs := [.pointer (some ⟨g2760, 0, none⟩), .slice A4533 x4532.length cp4535, .slice A5303 x5302.length cp5305]) rfl rfl rfl rfl rfl rfl (by first | kernel_rfl | rfl) (by simp [Value.oneCell']) HJ5468 (by simp only [List.length_cons, List.length_nil]; omega) rfl ?_
         intro w5505 HX5506 hs5507
         replace HJ5460 := HJ5460.thru hs5507 rfl
         replace HJ5462 := HJ5462.thru hs5507 rfl
         replace HJ5465 := HJ5465.thru hs5507 rfl
         replace HJ5464 := HJ5464.thru hs5507 rfl
         replace HJ5466 := HJ5466.thru hs5507 rfl
         replace HO5502 := HO5502.thru hs5507 rfl
         replace HS5472 := HS5472.trans hs5507 hc rfl
         (try simp only [ls0, ls1])
         refine wl_end ?_
         (try simp only [ls0, ls1])
         refine hK5321 _ _ ?_
         (try clear hK5321 K5321)
         refine wl_region ?_
         refine st (.int .i64 (wrap64 (x5297 + 1))) rfl rfl (xr_bin _ _ _ rfl rfl rfl (B.add_i64 _ _)) ?_
         refine mv_ rfl ?_
         refine wl_end ?_
         (try simp only [ls0, ls1])
         exact jmpL (fun a_ h_ => ih5314 k5477 (by omega) a_ _ h_) (fun g_ => ⟨_, wrap64 (x5297 + 1), A5498, y5496.length, cp5499, y5496, g_, rfl, HS5472, (by omega), HJ5460, HJ5464, HJ5465, HJ5466, HJ5462, HO5502, HC5503, HX5506, H⟩) rfl
      rw [if_neg c5320] at H
      (try rw [(decide_eq_false c5320)])
      refine wp_cond_false rfl ?_
      refine wp_exit ?_
      (try simp only [ls0, ls1])
      refine hK4858 _ _ ?_
      (try clear hK4858 K4858)
      refine wp_seq_k fun K5508 hK5508 => ?_
      refine wl_region ?_
      refine mv_ rfl ?_
      refine as_ rfl ?_
      refine wl_end ?_
      (try simp only [ls0, ls1])
      refine hK5508 _ _ ?_
      (try clear hK5508 K5508)
      refine wp_ret ?_
      (try simp only [Exit.inBlock, Exit.then, Exit.noGoto])
      (try simp only [ls0, ls1])
      replace HJ5296 := Ft.recol (a := 13) (b := 0) HJ5296 (.inl rfl)
      replace HJ5299 := Ft.recol (a := 13) (b := 0) HJ5299 (.inl rfl)
      replace HJ5298 := Ft.recol (a := 13) (b := 0) HJ5298 (.inl rfl)
      replace HJ5300 := Ft.recol (a := 13) (b := 0) HJ5300 (.inl rfl)
      have HX5509 := Ft.recolor (a := 13) (b := 0) (HJ5308.ft) [0] rfl
      replace HJ5301 := Own.recol (a := 13) (b := 0) HJ5301 (by decide) (by decide)
      replace HJ5307 := Own.recol (a := 13) (b := 0) HJ5307 (by decide) (by decide)
      replace HS5312 := Step.recol (a := 13) (b := 0) HS5312 hc (by decide)
      replace HJ5296 := Ft.recol (a := 14) (b := 0) HJ5296 (.inl rfl)
      replace HJ5299 := Ft.recol (a := 14) (b := 0) HJ5299 (.inl rfl)
      replace HJ5298 := Ft.recol (a := 14) (b := 0) HJ5298 (.inl rfl)
      replace HJ5300 := Ft.recol (a := 14) (b := 0) HJ5300 (.inl rfl)
      replace HX5509 := Ft.recol (a := 14) (b := 0) HX5509 (.inl rfl)
      have HR5510 := Ft.recolor (a := 14) (b := 0) (HJ5301.ft) [0] rfl
      replace HJ5307 := Own.recol (a := 14) (b := 0) HJ5307 (by decide) (by decide)
      replace HS5312 := Step.recol (a := 14) (b := 0) HS5312 hc (by decide)
      replace HJ5296 := Ft.recol (a := 15) (b := 0) HJ5296 (.inl rfl)
      replace HJ5299 := Ft.recol (a := 15) (b := 0) HJ5299 (.inl rfl)
      replace HJ5298 := Ft.recol (a := 15) (b := 0) HJ5298 (.inl rfl)
      replace HJ5300 := Ft.recol (a := 15) (b := 0) HJ5300 (.inl rfl)
      replace HX5509 := Ft.recol (a := 15) (b := 0) HX5509 (.inl rfl)
      replace HR5510 := Ft.recol (a := 15) (b := 0) HR5510 (.inl rfl)
      have HR5511 := Ft.recolor (a := 15) (b := 0) (HJ5307.ft) [0] rfl
      replace HS5312 := Step.recol (a := 15) (b := 0) HS5312 hc (by decide)
      have HP5512 : Ft (recol (recol (recol C5309 13 0) 14 0) 15 0) [0] w5310 (fun w_ => (Kd.ptr 118 k118).K w_ (some (⟨(some (⟨o2758.f0, (⟨(⟨o2758.f1.f0.f0⟩ : S92), (⟨(⟨o2758.f1.f1.f0.f0, o2758.f1.f1.f0.f1⟩ : S94)⟩ : S96)⟩ : S98), o2758.f2, o2758.f3, (⟨o2758.f4.f0⟩ : S105)⟩ : S107) : Option S107), x4532, x5302⟩ : S118)) [.pointer (some ⟨g2767, 0, none⟩)]) := ptr_mk (Ft.more HX5509 rfl) (k118_mkF _ _ (⟨(some (⟨o2758.f0, (⟨(⟨o2758.f1.f0.f0⟩ : S92), (⟨(⟨o2758.f1.f1.f0.f0, o2758.f1.f1.f0.f1⟩ : S94)⟩ : S96)⟩ : S98), o2758.f2, o2758.f3, (⟨o2758.f4.f0⟩ : S105)⟩ : S107) : Option S107), x4532, x5302⟩ : S118) (Ft.more HJ5300 rfl) HC4536 (Ft.more HR5510 rfl) HC5306 (Ft.more HR5511 rfl))
      obtain rfl := Option.some.inj H
      refine bodyPost_ret (results_tmp rfl _ _ _) rfl ?_
      exact ⟨_, (.pointer (some ⟨g2767, 0, none⟩)), rfl, HS5312, HP5512⟩

/-! ### blazonlaw15_made: function 35 -/
def blazonlaw15_made.j0 : Nat → (Option S107) → (List ByteArray) → (List (List Bool)) → (List (List Int)) → (List (List Int)) → Bool → Option ((Option S118) × List ByteArray × (List (List Bool)) × (List (List Int)) × (List (List Int)))
  | 0, _, _, _, _, _, _ => none
  | k + 1, t155, t194, t195, t196, t197, x238 => if x238 = true then (some ((none : Option S118), t194, t195, t196, t197)) else ((irred_New.f k t155).bind fun t261 => (some (t261, t194, t195, t196, t197)))
def blazonlaw15_made.f (k : Nat) (l0 : List (S53)) : Option ((Option S118) × List ByteArray × (List (List Bool)) × (List (List Int)) × (List (List Int))) := (order_New.f k l0).bind fun bt144 => ((lattice_New.f k bt144.1).bind fun bt155 => ((blazonref13_New.f k l0).bind fun bt167 => ((blazonref14_New.f k bt167.1 bt167.2.1).bind fun bt194 => (if bt144.2.2 = 0 then (blazonlaw15_made.j0 k bt155.1 bt194.1 bt194.2.1 bt194.2.2.1 bt194.2.2.2.1 (!decide (bt155.2.2.2 = 0))) else (blazonlaw15_made.j0 k bt155.1 bt194.1 bt194.2.1 bt194.2.2.1 bt194.2.2.2.1 true)))))

set_option maxHeartbeats 2000000 in
set_option maxRecDepth 100000 in
theorem blazonlaw15_made.calls (k : Nat) (A0 : Option Addr) (c0 : Nat) (l0 : List (S53)) (r1 : Option S118) (r2 : List ByteArray) (r3 : List (List Bool)) (r4 : List (List Int)) (r5 : List (List Int)) (c : Nat → Nat) (w : World) (hc : ∀ k, c k < 10) (HG : Ft c [0] w GTab) (HP0 : Ft c [0] w (fun w_ => k53.C w_ A0 l0.length l0)) (HCP0 : l0.length ≤ c0) (H : blazonlaw15_made.f k l0 = some (r1, r2, r3, r4, r5)) :
    Calls Tryd.prog 35 #[.slice A0 l0.length c0] w fun e w' => ∃ (c' : Nat → Nat) (v_r1 : Value) (A_r2 : Option Addr) (c_r2 : Nat) (A_r3 : Option Addr) (c_r3 : Nat) (A_r4 : Option Addr) (c_r4 : Nat) (A_r5 : Option Addr) (c_r5 : Nat), e = .returned (.tuple #[v_r1, .agg #[.slice A_r2 r2.length c_r2, .slice A_r3 r3.length c_r3, .slice A_r4 r4.length c_r4, .slice A_r5 r5.length c_r5]]) ∧ Step c w c' w' [] ∧ Ft c' [0] w' (fun w_ => (Kd.ptr 118 k118).K w_ r1 [v_r1]) ∧ Ft c' [0] w' (fun w_ => Kd.string.C w_ A_r2 r2.length r2) ∧ r2.length ≤ c_r2 ∧ Ft c' [0] w' (fun w_ => (Kd.slice 4 Kd.bool).C w_ A_r3 r3.length r3) ∧ r3.length ≤ c_r3 ∧ Own c' 5 w' (Kd.slice 3 (Kd.int .i64)) 23 (.slice A_r4 r4.length c_r4) r4 ∧ r4.length ≤ c_r4 ∧ Own c' 6 w' (Kd.slice 3 (Kd.int .i64)) 23 (.slice A_r5 r5.length c_r5) r5 ∧ r5.length ≤ c_r5 := by
 unfold blazonlaw15_made.f at H
 have HS := Step.refl c w []
 go_enter Tryd.func35, Tryd.ntmps35
 refine wp_seq_k fun K137 hK137 => ?_
 refine wl_region ?_
 refine st (.pointer none) rfl rfl (xr_assign _ rfl rfl) ?_
 refine bx_new (C := c) 41 ([.slice none 0 0, .slice none 0 0, .slice none 0 0, .slice none 0 0]) 11 rfl rfl (by first | (go_simp; done) | (go_simp; rfl)) ?_
 intro g138 w139 C140 HX141 hs142
 replace HG := HG.thru hs142 rfl
 replace HP0 := HP0.thru hs142 rfl
 replace HS := HS.trans hs142 hc rfl
 (try simp only [ls0, ls1])
 refine wl_end ?_
 (try simp only [ls0, ls1])
 refine hK137 _ _ ?_
 (try clear hK137 K137)
 refine wp_seq_k fun K143 hK143 => ?_
 refine wl_region ?_
 refine mv_ rfl ?_
 obtain ⟨⟨t144, t145, t146⟩, A147, H⟩ := bnd H
 (try dsimp only at H)
 refine st_call #[.slice A0 l0.length c0] rfl rfl Tryd.func15 (by kernel_rfl) rfl rfl (mp_ rfl) ?_
 refine (order_New.calls k A0 c0 l0 t144 t145 t146  (fun z_ => pal [(0, 0)] (C140 z_)) w139 (fun _ => pal_lt rfl _) (Ft.arg HP0 rfl) HCP0 A147).mono ?_
 rintro _ w149 ⟨C150, v152, rfl, hs151, HB153⟩
 refine ⟨_, rfl, ?_⟩
 replace HB153 := Ft.res (U := [(0, 0)]) HB153 hs151 [0] rfl rfl rfl
 replace hs151 := Step.lift (U := [(0, 0)]) hs151 [] rfl rfl
 generalize up C140 C150 w139.heap.size [(0, 0)] = C150_ at HB153 hs151
 replace HG := HG.thru hs151 rfl
 replace HP0 := HP0.thru hs151 rfl
 replace HX141 := HX141.thru hs151 rfl
 replace HS := HS.trans hs151 hc rfl
 (try simp only [ls0, ls1])
 refine mv_ rfl ?_
 refine st (v152) rfl rfl (xr_extract (.tuple #[v152, .int .i64 t145, .int .i64 t146]) _ rfl rfl rfl) ?_
 refine st (.int .i64 t145) rfl rfl (xr_extract (.tuple #[v152, .int .i64 t145, .int .i64 t146]) _ rfl rfl rfl) ?_
 refine st (.int .i64 t146) rfl rfl (xr_extract (.tuple #[v152, .int .i64 t145, .int .i64 t146]) _ rfl rfl rfl) ?_
 simp only [ls0, ls1]
 refine as_ rfl ?_
 refine as_ rfl ?_
 refine as_ rfl ?_
 refine wl_end ?_
 (try simp only [ls0, ls1])
 refine hK143 _ _ ?_
 (try clear hK143 K143)
 refine wp_seq_k fun K154 hK154 => ?_
 refine wl_region ?_
 refine mv_ rfl ?_
 obtain ⟨⟨t155, t156, t157, t158⟩, A159, H⟩ := bnd H
 (try dsimp only at H)
 refine st_call #[v152] rfl rfl Tryd.func17 (by kernel_rfl) rfl rfl (mp_ rfl) ?_
 refine (lattice_New.calls k v152 t144 t155 t156 t157 t158  (fun z_ => pal [(0, 0)] (C150_ z_)) w149 (fun _ => pal_lt rfl _) (Ft.arg HG rfl) (Ft.arg HB153 rfl) A159).mono ?_
 rintro _ w161 ⟨C162, v164, rfl, hs163, HB165⟩
 refine ⟨_, rfl, ?_⟩
 replace HB165 := OwnPt.res (U := [(0, 0), (5, 12)]) (j := 12) HB165 hs163 (by rfl) (by rfl) (by decide) rfl rfl
 replace hs163 := Step.lift (U := [(0, 0), (5, 12)]) hs163 [] rfl rfl
 generalize up C150_ C162 w149.heap.size [(0, 0), (5, 12)] = C162_ at HB165 hs163
 replace HG := HG.thru hs163 rfl
 replace HP0 := HP0.thru hs163 rfl
 replace HX141 := HX141.thru hs163 rfl
 replace HS := HS.trans hs163 hc rfl
 (try simp only [ls0, ls1])
 refine mv_ rfl ?_
 refine st (v164) rfl rfl (xr_extract (.tuple #[v164, .int .i64 t156, .int .i64 t157, .int .i64 t158]) _ rfl rfl rfl) ?_
 refine st (.int .i64 t156) rfl rfl (xr_extract (.tuple #[v164, .int .i64 t156, .int .i64 t157, .int .i64 t158]) _ rfl rfl rfl) ?_
 refine st (.int .i64 t157) rfl rfl (xr_extract (.tuple #[v164, .int .i64 t156, .int .i64 t157, .int .i64 t158]) _ rfl rfl rfl) ?_
 simp only [ls0, ls1]
 refine st (.int .i64 t158) rfl rfl (xr_extract (.tuple #[v164, .int .i64 t156, .int .i64 t157, .int .i64 t158]) _ rfl rfl rfl) ?_
 refine as_ rfl ?_
 refine as_ rfl ?_
 refine as_ rfl ?_
 simp only [ls0, ls1]
 refine as_ rfl ?_
 refine wl_end ?_
 (try simp only [ls0, ls1])
 refine hK154 _ _ ?_
 (try clear hK154 K154)
 refine wp_seq_k fun K166 hK166 => ?_
 refine wl_region ?_
 refine mv_ rfl ?_
 obtain ⟨⟨t167, t168, t169, t170⟩, A171, H⟩ := bnd H
 (try dsimp only at H)
 refine st_call #[.slice A0 l0.length c0] rfl rfl Tryd.func16 (by kernel_rfl) rfl rfl (mp_ rfl) ?_
 refine (blazonref13_New.calls k A0 c0 l0 t167 t168 t169 t170  (fun z_ => pal [(0, 0)] (C162_ z_)) w161 (fun _ => pal_lt rfl _) (Ft.arg HP0 rfl) HCP0 A171).mono ?_
 rintro _ w173 ⟨C174, A176, cp177, A180, cp181, rfl, hs175, HO178, HC179, HO182, HC183⟩
 refine ⟨_, rfl, ?_⟩
 replace HO178 := Ft.res (U := [(0, 0), (6, 13)]) HO178 hs175 [0] rfl rfl rfl
 replace HO182 := Own.res (U := [(0, 0), (6, 13)]) (j := 13) HO182 hs175 (by rfl) (by decide) rfl rfl
 replace hs175 := Step.lift (U := [(0, 0), (6, 13)]) hs175 [] rfl rfl
 generalize up C162_ C174 w161.heap.size [(0, 0), (6, 13)] = C174_ at HO178 HO182 hs175
 replace HG := HG.thru hs175 rfl
 replace HX141 := HX141.thru hs175 rfl
 replace HB165 := HB165.thru hs175 rfl
 replace HS := HS.trans hs175 hc rfl
 (try simp only [ls0, ls1])
 refine mv_ rfl ?_
 refine st (.agg #[.slice A176 t167.length cp177, .slice A180 t168.length cp181]) rfl rfl (xr_extract (.tuple #[.agg #[.slice A176 t167.length cp177, .slice A180 t168.length cp181], .int .i64 t169, .int .i64 t170]) _ rfl rfl rfl) ?_
 refine st (.int .i64 t169) rfl rfl (xr_extract (.tuple #[.agg #[.slice A176 t167.length cp177, .slice A180 t168.length cp181], .int .i64 t169, .int .i64 t170]) _ rfl rfl rfl) ?_
 refine st (.int .i64 t170) rfl rfl (xr_extract (.tuple #[.agg #[.slice A176 t167.length cp177, .slice A180 t168.length cp181], .int .i64 t169, .int .i64 t170]) _ rfl rfl rfl) ?_
 simp only [ls0, ls1]
 refine bx_new (C := C174_) 33 ([.slice none 0 0, .slice none 0 0]) 14 rfl rfl (by first | (go_simp; done) | (go_simp; rfl)) ?_
 intro g184 w185 C186 HX187 hs188
 replace HG := HG.thru hs188 rfl
 replace HX141 := HX141.thru hs188 rfl
 replace HB165 := HB165.thru hs188 rfl
 replace HO178 := HO178.thru hs188 rfl
 replace HO182 := HO182.thru hs188 rfl
 replace HS := HS.trans hs188 hc rfl
 (try simp only [ls0, ls1])
 refine bx_store (C := C186) (z := 14) (g := g184) (j := 0) (tb := 33) (u := .agg #[.slice A176 t167.length cp177, .slice A180 t168.length cp181]) (seg := [.slice A176 t167.length cp177, .slice A180 t168.length cp181]) (xs := [.slice none 0 0, .slice none 0 0]) rfl rfl rfl rfl rfl rfl (by first | kernel_rfl | rfl) (by simp [Value.oneCell']) HX187 (by simp only [List.length_cons, List.length_nil]; omega) rfl ?_
 intro w189 HX190 hs191
 replace HG := HG.thru hs191 rfl
 replace HX141 := HX141.thru hs191 rfl
 replace HB165 := HB165.thru hs191 rfl
 replace HO178 := HO178.thru hs191 rfl
 replace HO182 := HO182.thru hs191 rfl
 replace HS := HS.trans hs191 hc rfl
 (try simp only [ls0, ls1])
 refine as_ rfl ?_
 refine as_ rfl ?_
 refine wl_end ?_
 (try simp only [ls0, ls1])
 refine hK166 _ _ ?_
 (try clear hK166 K166)
 refine wp_seq_k fun K192 hK192 => ?_
 refine wl_region ?_
 refine st (.agg #[.slice A176 t167.length cp177, .slice A180 t168.length cp181]) rfl rfl (xr_load _ _ rfl rfl (load_agg (cs := [.slice A176 t167.length cp177, .slice A180 t168.length cp181]) Tryd.underlying33 rfl (by kernel_rfl) (bx_cells (HX190).2 0 rfl))) ?_
 replace HG := Ft.recol (a := 13) (b := 0) HG (.inl rfl)
 replace HX141 := Bx.recol (a := 13) (b := 0) HX141 (by decide)
 replace HB165 := OwnPt.recol (a := 13) (b := 0) HB165 (by decide) (by decide)
 replace HO178 := Ft.recol (a := 13) (b := 0) HO178 (.inl rfl)
 have HR193 := Ft.recolor (a := 13) (b := 0) (HO182.ft) [0] rfl
 replace HX190 := Bx.recol (a := 13) (b := 0) HX190 (by decide)
 replace HS := Step.recol (a := 13) (b := 0) HS hc (by decide)
 obtain ⟨⟨t194, t195, t196, t197, t198, t199, t200⟩, A201, H⟩ := bnd H
 (try dsimp only at H)
 refine st_call #[.agg #[.slice A176 t167.length cp177, .slice A180 t168.length cp181]] rfl rfl Tryd.func18 (by kernel_rfl) rfl rfl (mp_ rfl) ?_
 refine (blazonref14_New.calls k A176 cp177 t167 A180 cp181 t168 t194 t195 t196 t197 t198 t199 t200  (fun z_ => pal [(0, 0)] ((recol C186 13 0) z_)) w189 (fun _ => pal_lt rfl _) (Ft.arg HO178 rfl) HC179 (Ft.arg HR193 rfl) HC183 A201).mono ?_
 rintro _ w203 ⟨C204, A206, cp207, A210, cp211, A214, cp215, A218, cp219, rfl, hs205, HO208, HC209, HO212, HC213, HO216, HC217, HO220, HC221⟩
 refine ⟨_, rfl, ?_⟩
 replace HO208 := Ft.res (U := [(0, 0), (7, 15), (8, 16)]) HO208 hs205 [0] rfl rfl rfl
 replace HO212 := Ft.res (U := [(0, 0), (7, 15), (8, 16)]) HO212 hs205 [0] rfl rfl rfl
 replace HO216 := Own.res (U := [(0, 0), (7, 15), (8, 16)]) (j := 15) HO216 hs205 (by rfl) (by decide) rfl rfl
 replace HO220 := Own.res (U := [(0, 0), (7, 15), (8, 16)]) (j := 16) HO220 hs205 (by rfl) (by decide) rfl rfl
 replace hs205 := Step.lift (U := [(0, 0), (7, 15), (8, 16)]) hs205 [] rfl rfl
 generalize up (recol C186 13 0) C204 w189.heap.size [(0, 0), (7, 15), (8, 16)] = C204_ at HO208 HO212 HO216 HO220 hs205
 replace HG := HG.thru hs205 rfl
 replace HX141 := HX141.thru hs205 rfl
 replace HB165 := HB165.thru hs205 rfl
 replace HO178 := HO178.thru hs205 rfl
 replace HR193 := HR193.thru hs205 rfl
 replace HX190 := HX190.thru hs205 rfl
 replace HS := HS.trans hs205 hc rfl
 (try simp only [ls0, ls1])
 refine mv_ rfl ?_
 refine st (.agg #[.slice A206 t194.length cp207, .slice A210 t195.length cp211, .slice A214 t196.length cp215, .slice A218 t197.length cp219]) rfl rfl (xr_extract (.tuple #[.agg #[.slice A206 t194.length cp207, .slice A210 t195.length cp211, .slice A214 t196.length cp215, .slice A218 t197.length cp219], .int .i64 t198, .int .i64 t199, .int .i64 t200]) _ rfl rfl rfl) ?_
 refine st (.int .i64 t198) rfl rfl (xr_extract (.tuple #[.agg #[.slice A206 t194.length cp207, .slice A210 t195.length cp211, .slice A214 t196.length cp215, .slice A218 t197.length cp219], .int .i64 t198, .int .i64 t199, .int .i64 t200]) _ rfl rfl rfl) ?_
 refine st (.int .i64 t199) rfl rfl (xr_extract (.tuple #[.agg #[.slice A206 t194.length cp207, .slice A210 t195.length cp211, .slice A214 t196.length cp215, .slice A218 t197.length cp219], .int .i64 t198, .int .i64 t199, .int .i64 t200]) _ rfl rfl rfl) ?_
 simp only [ls0, ls1]
 refine st (.int .i64 t200) rfl rfl (xr_extract (.tuple #[.agg #[.slice A206 t194.length cp207, .slice A210 t195.length cp211, .slice A214 t196.length cp215, .slice A218 t197.length cp219], .int .i64 t198, .int .i64 t199, .int .i64 t200]) _ rfl rfl rfl) ?_
 refine bx_new (C := C204_) 41 ([.slice none 0 0, .slice none 0 0, .slice none 0 0, .slice none 0 0]) 17 rfl rfl (by first | (go_simp; done) | (go_simp; rfl)) ?_
 intro g222 w223 C224 HX225 hs226
 replace HG := HG.thru hs226 rfl
 replace HX141 := HX141.thru hs226 rfl
 replace HB165 := HB165.thru hs226 rfl
 replace HO178 := HO178.thru hs226 rfl
 replace HR193 := HR193.thru hs226 rfl
 replace HX190 := HX190.thru hs226 rfl
 replace HO208 := HO208.thru hs226 rfl
 replace HO212 := HO212.thru hs226 rfl
 replace HO216 := HO216.thru hs226 rfl
 replace HO220 := HO220.thru hs226 rfl
 replace HS := HS.trans hs226 hc rfl
 (try simp only [ls0, ls1])
 refine bx_store (C := C224) (z := 17) (g := g222) (j := 0) (tb := 41) (u := .agg #[.slice A206 t194.length cp207, .slice A210 t195.length cp211, .slice A214 t196.length cp215, .slice A218 t197.length cp219]) (seg := [.slice A206 t194.length cp207, .slice A210 t195.length cp211, .slice A214 t196.length cp215, .slice A218 t197.length cp219]) (xs := [.slice none 0 0, .slice none 0 0, .slice none 0 0, .slice none 0 0]) rfl rfl rfl rfl rfl rfl (by first | kernel_rfl | rfl) (by simp [Value.oneCell']) HX225 (by simp only [List.length_cons, List.length_nil]; omega) rfl ?_
 intro w227 HX228 hs229
 replace HG := HG.thru hs229 rfl
 replace HX141 := HX141.thru hs229 rfl
 replace HB165 := HB165.thru hs229 rfl
 replace HO178 := HO178.thru hs229 rfl
 replace HR193 := HR193.thru hs229 rfl
 replace HX190 := HX190.thru hs229 rfl
 replace HO208 := HO208.thru hs229 rfl
 replace HO212 := HO212.thru hs229 rfl
 replace HO216 := HO216.thru hs229 rfl
 replace HO220 := HO220.thru hs229 rfl
 replace HS := HS.trans hs229 hc rfl
 (try simp only [ls0, ls1])
 refine as_ rfl ?_
 refine as_ rfl ?_
 refine as_ rfl ?_
 refine wl_end ?_
 (try simp only [ls0, ls1])
 refine hK192 _ _ ?_
 (try clear hK192 K192)
 refine wp_seq_k fun K230 hK230 => ?_
 refine wp_seq_k fun K231 hK231 => ?_
 have hj233 : ∀ (kq249 : Nat) (C234 : Nat → Nat) (w235 : World) (x238 : Bool) (g_ : Nat → Value), Step c w C234 w235 [] → kq249 ≤ k → (OwnPt C234 12 w235 107 k107 v164 t155) → (Bx C234 11 w235 g138 41 ([.slice none 0 0, .slice none 0 0, .slice none 0 0, .slice none 0 0])) → (Ft C234 [0] w235 (fun w_ => Kd.string.C w_ A176 t167.length t167)) → (Ft C234 [0] w235 (fun w_ => (Kd.slice 4 Kd.bool).C w_ A180 t168.length t168)) → (Bx C234 14 w235 g184 33 ([.slice A176 t167.length cp177, .slice A180 t168.length cp181])) → (Ft C234 [0] w235 (fun w_ => Kd.string.C w_ A206 t194.length t194)) → (Ft C234 [0] w235 (fun w_ => (Kd.slice 4 Kd.bool).C w_ A210 t195.length t195)) → (Own C234 15 w235 (Kd.slice 3 (Kd.int .i64)) 23 (.slice A214 t196.length cp215) t196) → (Own C234 16 w235 (Kd.slice 3 (Kd.int .i64)) 23 (.slice A218 t197.length cp219) t197) → (Bx C234 17 w235 g222 41 ([.slice A206 t194.length cp207, .slice A210 t195.length cp211, .slice A214 t196.length cp215, .slice A218 t197.length cp219])) → (Ft C234 [0] w235 GTab) → blazonlaw15_made.j0 kq249 t155 t194 t195 t196 t197 x238 = some (r1, r2, r3, r4, r5) → K231 ⟨#[(g_ 0), (g_ 1), (g_ 2), .pointer (some ⟨g138, 0, none⟩), (g_ 4), (g_ 5), (g_ 6), v164, (g_ 8), (g_ 9), (g_ 10), (g_ 11), (g_ 12), (g_ 13), .pointer (some ⟨g222, 0, none⟩), (g_ 15), (g_ 16), (g_ 17), (g_ 18), (g_ 19), (g_ 20), (g_ 21), (g_ 22), (g_ 23), (g_ 24), (g_ 25), (g_ 26), (g_ 27), (g_ 28), (g_ 29), (g_ 30), (g_ 31), (g_ 32), (g_ 33), (g_ 34), (g_ 35), (g_ 36), (g_ 37), (g_ 38), (g_ 39), (g_ 40), (g_ 41), (g_ 42), (g_ 43), (g_ 44), (g_ 45), (g_ 46), (g_ 47), (g_ 48), .bool x238, (g_ 50), (g_ 51), (g_ 52), (g_ 53)], []⟩ w235 := by
  intro kq249 C234 w235 x238 g_ HS236 hk250 HJ237 HJ239 HJ240 HJ241 HJ242 HJ243 HJ244 HJ245 HJ246 HJ247 HG248 H
  cases kq249 with
  | zero => exact absurd H (by simp [blazonlaw15_made.j0])
  | succ k251 =>
   simp only [blazonlaw15_made.j0] at H
   refine hK231 _ _ ?_
   (try clear hK231)
   by_cases c252 : x238 = true
   ·rw [if_pos c252] at H
    (try rw [c252])
    refine wp_cond_true rfl ?_
    refine wp_seq_k fun K253 hK253 => ?_
    (try simp only [ls0, ls1])
    refine al_start (lb 3 0) rfl rfl rfl (fun w_ => w_.heap[g222]? = some (.cells (List.toArray ([.slice A206 t194.length cp207, .slice A210 t195.length cp211, .slice A214 t196.length cp215, .slice A218 t197.length cp219])) 41 (0, 0))) (HJ247.drew).2 [2] ?_
    replace HJ237 := HJ237.drew
    replace HJ239 := HJ239.drew
    replace HJ242 := HJ242.drew
    replace HJ240 := HJ240.drew
    replace HJ241 := HJ241.drew
    replace HJ247 := HJ247.drew
    replace HJ243 := HJ243.drew
    replace HJ244 := HJ244.drew
    replace HJ245 := HJ245.drew
    replace HJ246 := HJ246.drew
    replace HG248 := HG248.drew
    replace HS236 := Step.ofDrew HS236
    generalize w235.drew = w254 at *
    refine al_pure 1 2 (.pointer none) (lb 3 2) rfl rfl (by kernel_rfl) (fun _ _ _ => id) rfl (fun w_ => xr_assign _ rfl rfl) ?_
    refine al_take 0 50 (.agg #[.slice A206 t194.length cp207, .slice A210 t195.length cp211, .slice A214 t196.length cp215, .slice A218 t197.length cp219]) (lb 3 3) rfl rfl (by kernel_rfl) (fun _ _ _ => id) rfl (fun w_ hS_ => xr_load _ _ rfl rfl (load_agg (cs := [.slice A206 t194.length cp207, .slice A210 t195.length cp211, .slice A214 t196.length cp215, .slice A218 t197.length cp219]) Tryd.underlying41 rfl (by kernel_rfl) (bx_cells hS_ 0 rfl))) (HJ247).2 ?_
    refine al_last 2 (lb 3 7) rfl rfl (by kernel_rfl) rfl (fun K_ hK_ => ?_)
    refine bx_store_step (C := C234) (z := 11) (g := g138) (j := 0) (tb := 41) (u := .agg #[.slice A206 t194.length cp207, .slice A210 t195.length cp211, .slice A214 t196.length cp215, .slice A218 t197.length cp219]) (seg := [.slice A206 t194.length cp207, .slice A210 t195.length cp211, .slice A214 t196.length cp215, .slice A218 t197.length cp219]) (xs := [.slice none 0 0, .slice none 0 0, .slice none 0 0, .slice none 0 0]) rfl rfl rfl rfl rfl rfl (by first | kernel_rfl | rfl) (by simp [Value.oneCell']) HJ239 (by simp only [List.length_cons, List.length_nil]; omega) rfl ?_
    intro w255 HX256 hs257
    replace HJ243 := HJ243.thru hs257 rfl
    replace HJ244 := HJ244.thru hs257 rfl
    replace HJ245 := HJ245.thru hs257 rfl
    replace HJ246 := HJ246.thru hs257 rfl
    replace HJ242 := HJ242.thru hs257 rfl
    replace HJ240 := HJ240.thru hs257 rfl
    replace HJ241 := HJ241.thru hs257 rfl
    replace HJ247 := HJ247.thru hs257 rfl
    replace HG248 := HG248.thru hs257 rfl
    replace HS236 := HS236.trans hs257 hc rfl
    refine hK_ _ _ ?_
    clear hK_ K_
    (try simp only [Act.put, List.setIfInBounds_toArray, ls0, ls1])
    refine al_end (by kernel_rfl) ?_
    (try simp only [ls0, ls1])
    refine hK253 _ _ ?_
    (try clear hK253 K253)
    refine wp_ret ?_
    (try simp only [Exit.inBlock, Exit.then, Exit.noGoto])
    (try simp only [ls0, ls1])
    replace HX256 := Bx.recol (a := 15) (b := 5) HX256 (by decide)
    replace HJ243 := Ft.recol (a := 15) (b := 5) HJ243 (.inl rfl)
    replace HJ244 := Ft.recol (a := 15) (b := 5) HJ244 (.inl rfl)
    replace HJ245 := Own.recolor (b := 5) HJ245 (by decide)
    replace HJ246 := Own.recol (a := 15) (b := 5) HJ246 (by decide) (by decide)
    replace HJ242 := Bx.recol (a := 15) (b := 5) HJ242 (by decide)
    replace HJ240 := Ft.recol (a := 15) (b := 5) HJ240 (.inl rfl)
    replace HJ241 := Ft.recol (a := 15) (b := 5) HJ241 (.inl rfl)
    replace HJ247 := Bx.recol (a := 15) (b := 5) HJ247 (by decide)
    replace HG248 := Ft.recol (a := 15) (b := 5) HG248 (.inl rfl)
    replace HS236 := Step.recol (a := 15) (b := 5) HS236 hc (by decide)
    replace HX256 := Bx.recol (a := 16) (b := 6) HX256 (by decide)
    replace HJ243 := Ft.recol (a := 16) (b := 6) HJ243 (.inl rfl)
    replace HJ244 := Ft.recol (a := 16) (b := 6) HJ244 (.inl rfl)
    replace HJ245 := Own.recol (a := 16) (b := 6) HJ245 (by decide) (by decide)
    replace HJ246 := Own.recolor (b := 6) HJ246 (by decide)
    replace HJ242 := Bx.recol (a := 16) (b := 6) HJ242 (by decide)
    replace HJ240 := Ft.recol (a := 16) (b := 6) HJ240 (.inl rfl)
    replace HJ241 := Ft.recol (a := 16) (b := 6) HJ241 (.inl rfl)
    replace HJ247 := Bx.recol (a := 16) (b := 6) HJ247 (by decide)
    replace HG248 := Ft.recol (a := 16) (b := 6) HG248 (.inl rfl)
    replace HS236 := Step.recol (a := 16) (b := 6) HS236 hc (by decide)
    simp only [Option.some.injEq, Prod.mk.injEq] at H
    obtain ⟨rfl, rfl, rfl, rfl, rfl⟩ := H
    refine bodyPost_ret (res_tc rfl rfl (load_of (load_agg (cs := [.slice A206 t194.length cp207, .slice A210 t195.length cp211, .slice A214 t196.length cp215, .slice A218 t197.length cp219]) Tryd.underlying41 rfl (by kernel_rfl) (bx_cells (HX256).2 0 rfl)))) rfl ?_
    exact ⟨_, (.pointer none), A206, cp207, A210, cp211, A214, cp215, A218, cp219, rfl, HS236, (ptr_nil _ _ _ _ _), HJ243, HC209, HJ244, HC213, HJ245, HC217, HJ246, HC221⟩
   rw [if_neg c252] at H
   (try rw [(Bool.eq_false_iff.mpr c252)])
   refine wp_cond_false rfl ?_
   refine wp_skip ?_
   (try simp only [ls0, ls1])
   refine hK230 _ _ ?_
   (try clear hK230 K230)
   refine wp_seq_k fun K258 hK258 => ?_
   (try simp only [ls0, ls1])
   refine al_start (lb 5 0) rfl rfl rfl (fun w_ => w_.heap[g222]? = some (.cells (List.toArray ([.slice A206 t194.length cp207, .slice A210 t195.length cp211, .slice A214 t196.length cp215, .slice A218 t197.length cp219])) 41 (0, 0))) (HJ247.drew).2 [4] ?_
   replace HJ237 := HJ237.drew
   replace HJ239 := HJ239.drew
   replace HJ242 := HJ242.drew
   replace HJ240 := HJ240.drew
   replace HJ241 := HJ241.drew
   replace HJ247 := HJ247.drew
   replace HJ243 := HJ243.drew
   replace HJ244 := HJ244.drew
   replace HJ245 := HJ245.drew
   replace HJ246 := HJ246.drew
   replace HG248 := HG248.drew
   replace HS236 := Step.ofDrew HS236
   generalize w235.drew = w259 at *
   refine al_mv 0 (lb 5 1) rfl rfl (by kernel_rfl) (fun _ _ _ => id) rfl ?_
   refine al_take 2 53 (.agg #[.slice A206 t194.length cp207, .slice A210 t195.length cp211, .slice A214 t196.length cp215, .slice A218 t197.length cp219]) (lb 5 5) rfl rfl (by kernel_rfl) (fun _ _ _ => id) rfl (fun w_ hS_ => xr_load _ _ rfl rfl (load_agg (cs := [.slice A206 t194.length cp207, .slice A210 t195.length cp211, .slice A214 t196.length cp215, .slice A218 t197.length cp219]) Tryd.underlying41 rfl (by kernel_rfl) (bx_cells hS_ 0 rfl))) (HJ247).2 ?_
   have HR260 := Ft.recolor (a := 12) (b := 0) (HJ237.ft) [0] rfl
   replace HJ239 := Bx.recol (a := 12) (b := 0) HJ239 (by decide)
   replace HJ242 := Bx.recol (a := 12) (b := 0) HJ242 (by decide)
   replace HJ240 := Ft.recol (a := 12) (b := 0) HJ240 (.inl rfl)
   replace HJ241 := Ft.recol (a := 12) (b := 0) HJ241 (.inl rfl)
   replace HJ247 := Bx.recol (a := 12) (b := 0) HJ247 (by decide)
   replace HJ243 := Ft.recol (a := 12) (b := 0) HJ243 (.inl rfl)
   replace HJ244 := Ft.recol (a := 12) (b := 0) HJ244 (.inl rfl)
   replace HJ245 := Own.recol (a := 12) (b := 0) HJ245 (by decide) (by decide)
   replace HJ246 := Own.recol (a := 12) (b := 0) HJ246 (by decide) (by decide)
   replace HG248 := Ft.recol (a := 12) (b := 0) HG248 (.inl rfl)
   replace HS236 := Step.recol (a := 12) (b := 0) HS236 hc (by decide)
   obtain ⟨t261, A262, H⟩ := bnd H
   refine al_one 1 (lb 5 7) rfl rfl (by kernel_rfl) rfl (fun K_ hK_ => ?_)
   refine goes_ Tryd.func48 (by kernel_rfl) rfl #[v164] rfl rfl rfl (mpe_ rfl) ?_
   refine (irred_New.calls k251 v164 t155 t261  (fun z_ => pal [(0, 0)] ((recol C234 12 0) z_)) w259 (fun _ => pal_lt rfl _) (Ft.arg HR260 rfl) A262).mono ?_
   rintro _ w264 ⟨C265, v267, rfl, hs266, HB268⟩
   refine ⟨_, rfl, ?_⟩
   replace HB268 := Ft.res (U := [(0, 0)]) HB268 hs266 [0] rfl rfl rfl
   replace hs266 := Step.lift (U := [(0, 0)]) hs266 [] rfl rfl
   generalize up (recol C234 12 0) C265 w259.heap.size [(0, 0)] = C265_ at HB268 hs266
   replace HJ239 := HJ239.thru hs266 rfl
   replace HJ242 := HJ242.thru hs266 rfl
   replace HJ240 := HJ240.thru hs266 rfl
   replace HJ241 := HJ241.thru hs266 rfl
   replace HJ247 := HJ247.thru hs266 rfl
   replace HJ243 := HJ243.thru hs266 rfl
   replace HJ244 := HJ244.thru hs266 rfl
   replace HJ245 := HJ245.thru hs266 rfl
   replace HJ246 := HJ246.thru hs266 rfl
   replace HG248 := HG248.thru hs266 rfl
   replace HS236 := HS236.trans hs266 hc rfl
   refine hK_ _ _ (HJ247).2 ?_
   clear hK_ K_
   (try simp only [Act.put, List.setIfInBounds_toArray, ls0, ls1])
   refine al_as 3 (lb 5 15) rfl rfl (by kernel_rfl) (fun _ _ _ => id) rfl ?_
   refine al_last 4 (lb 5 31) rfl rfl (by kernel_rfl) rfl (fun K_ hK_ => ?_)
   refine bx_store_step (C := C265_) (z := 11) (g := g138) (j := 0) (tb := 41) (u := .agg #[.slice A206 t194.length cp207, .slice A210 t195.length cp211, .slice A214 t196.length cp215, .slice A218 t197.length cp219]) (seg := [.slice A206 t194.length cp207, .slice A210 t195.length cp211, .slice A214 t196.length cp215, .slice A218 t197.length cp219]) (xs := [.slice none 0 0, .slice none 0 0, .slice none 0 0, .slice none 0 0]) rfl rfl rfl rfl rfl rfl (by first | kernel_rfl | rfl) (by simp [Value.oneCell']) HJ239 (by simp only [List.length_cons, List.length_nil]; omega) rfl ?_
   intro w269 HX270 hs271
   replace HJ243 := HJ243.thru hs271 rfl
   replace HJ244 := HJ244.thru hs271 rfl
   replace HJ245 := HJ245.thru hs271 rfl
   replace HJ246 := HJ246.thru hs271 rfl
   replace HJ242 := HJ242.thru hs271 rfl
   replace HJ240 := HJ240.thru hs271 rfl
   replace HJ241 := HJ241.thru hs271 rfl
   replace HJ247 := HJ247.thru hs271 rfl
   replace HG248 := HG248.thru hs271 rfl
   replace HB268 := HB268.thru hs271 rfl
   replace HS236 := HS236.trans hs271 hc rfl
   refine hK_ _ _ ?_
   clear hK_ K_
   (try simp only [Act.put, List.setIfInBounds_toArray, ls0, ls1])
   refine al_end (by kernel_rfl) ?_
   (try simp only [ls0, ls1])
   refine hK258 _ _ ?_
   (try clear hK258 K258)
   refine wp_ret ?_
   (try simp only [Exit.inBlock, Exit.then, Exit.noGoto])
   (try simp only [ls0, ls1])
   replace HX270 := Bx.recol (a := 15) (b := 5) HX270 (by decide)
   replace HJ243 := Ft.recol (a := 15) (b := 5) HJ243 (.inl rfl)
   replace HJ244 := Ft.recol (a := 15) (b := 5) HJ244 (.inl rfl)
   replace HJ245 := Own.recolor (b := 5) HJ245 (by decide)
   replace HJ246 := Own.recol (a := 15) (b := 5) HJ246 (by decide) (by decide)
   replace HJ242 := Bx.recol (a := 15) (b := 5) HJ242 (by decide)
   replace HJ240 := Ft.recol (a := 15) (b := 5) HJ240 (.inl rfl)
   replace HJ241 := Ft.recol (a := 15) (b := 5) HJ241 (.inl rfl)
   replace HJ247 := Bx.recol (a := 15) (b := 5) HJ247 (by decide)
   replace HG248 := Ft.recol (a := 15) (b := 5) HG248 (.inl rfl)
   replace HB268 := Ft.recol (a := 15) (b := 5) HB268 (.inl rfl)
   replace HS236 := Step.recol (a := 15) (b := 5) HS236 hc (by decide)
   replace HX270 := Bx.recol (a := 16) (b := 6) HX270 (by decide)
   replace HJ243 := Ft.recol (a := 16) (b := 6) HJ243 (.inl rfl)
   replace HJ244 := Ft.recol (a := 16) (b := 6) HJ244 (.inl rfl)
   replace HJ245 := Own.recol (a := 16) (b := 6) HJ245 (by decide) (by decide)
   replace HJ246 := Own.recolor (b := 6) HJ246 (by decide)
   replace HJ242 := Bx.recol (a := 16) (b := 6) HJ242 (by decide)
   replace HJ240 := Ft.recol (a := 16) (b := 6) HJ240 (.inl rfl)
   replace HJ241 := Ft.recol (a := 16) (b := 6) HJ241 (.inl rfl)
   replace HJ247 := Bx.recol (a := 16) (b := 6) HJ247 (by decide)
   replace HG248 := Ft.recol (a := 16) (b := 6) HG248 (.inl rfl)
   replace HB268 := Ft.recol (a := 16) (b := 6) HB268 (.inl rfl)
   replace HS236 := Step.recol (a := 16) (b := 6) HS236 hc (by decide)
   simp only [Option.some.injEq, Prod.mk.injEq] at H
   obtain ⟨rfl, rfl, rfl, rfl, rfl⟩ := H
   refine bodyPost_ret (res_tc rfl rfl (load_of (load_agg (cs := [.slice A206 t194.length cp207, .slice A210 t195.length cp211, .slice A214 t196.length cp215, .slice A218 t197.length cp219]) Tryd.underlying41 rfl (by kernel_rfl) (bx_cells (HX270).2 0 rfl)))) rfl ?_
   exact ⟨_, v267, A206, cp207, A210, cp211, A214, cp215, A218, cp219, rfl, HS236, HB268, HJ243, HC209, HJ244, HC213, HJ245, HC217, HJ246, HC221⟩
 refine wl_region ?_
 refine mv_ rfl ?_
 refine st (.bool (!decide (t146 = 0))) rfl rfl (xr_bin _ _ _ rfl rfl rfl (B.neq_i64 _ _)) ?_
 refine mv_ rfl ?_
 by_cases c272 : t146 = 0
 ·rw [if_pos c272] at H
  (try rw [(decide_eq_true c272)])
  (try simp only [Bool.not_true, Bool.not_false])
  refine on_guard (guard_on 2 false 46 rfl rfl rfl) ?_
  refine mv_ rfl ?_
  simp only [ls0, ls1]
  refine on_guard (guard_on 2 false 46 rfl rfl rfl) ?_
  refine st (.bool (!decide (t158 = 0))) rfl rfl (xr_bin _ _ _ rfl rfl rfl (B.neq_i64 _ _)) ?_
  refine st (.bool (!decide (t158 = 0))) rfl rfl (xr_pick false _ rfl rfl rfl) ?_
  refine wl_end ?_
  (try simp only [ls0, ls1])
  exact jmp (fun g_ => hj233 _ _ _ (!decide (t158 = 0)) g_ HS (by omega) HB165 HX141 HO178 HR193 HX190 HO208 HO212 HO216 HO220 HX228 HG H) rfl
 rw [if_neg c272] at H
 (try rw [(decide_eq_false c272)])
 (try simp only [Bool.not_true, Bool.not_false])
 refine sk_guard (guard_off 2 false 46 rfl rfl true (by decide) rfl) rfl ?_
 refine sk_guard (guard_off 2 false 46 rfl rfl true (by decide) rfl) rfl ?_
 refine st (.bool true) rfl rfl (xr_pick true _ rfl rfl rfl) ?_
 refine wl_end ?_
 (try simp only [ls0, ls1])
 exact jmp (fun g_ => hj233 _ _ _ (true) g_ HS (by omega) HB165 HX141 HO178 HR193 HX190 HO208 HO212 HO216 HO220 HX228 HG H) rfl

/-! ### irred_Irred_Len: function 42 -/
def irred_Irred_Len.f (x0 : Option S118) : Option (Int) := onOpt x0 (some 0) (fun o15 => (some (o15.f1.length : Int)))
set_option maxHeartbeats 2000000 in
set_option maxRecDepth 100000 in
theorem irred_Irred_Len.calls (v0 : Value) (x0 : Option S118) (r : Int) (c : Nat → Nat) (w : World) (hc : ∀ k, c k < 10) (HP0 : Ft c [0] w (fun w_ => (Kd.ptr 118 k118).K w_ x0 [v0])) (H : irred_Irred_Len.f x0 = some r) :
    Calls Tryd.prog 42 #[v0] w fun e w' => ∃ (c' : Nat → Nat) , e = .returned (.int .i64 r) ∧ Step c w c' w' [] := by
 unfold irred_Irred_Len.f at H
 have HS := Step.refl c w []
 go_enter Tryd.func42, Tryd.ntmps42
 refine wp_seq_k fun K12 hK12 => ?_
 refine wl_region ?_
 refine st (.int .i64 0) rfl rfl (xr_assign _ rfl rfl) ?_
 refine wl_end ?_
 (try simp only [ls0, ls1])
 refine hK12 _ _ ?_
 (try clear hK12 K12)
 refine wp_seq_k fun K13 hK13 => ?_
 refine wp_seq_k fun K14 hK14 => ?_
 refine wl_region ?_
 refine mv_ rfl ?_
 cases x0 with
 | none =>
  (try simp only [onOpt] at H)
  obtain rfl := ptr_none HP0
  refine st (.bool true) rfl rfl (xr_bin (.pointer none) (.pointer none) (.bool true) rfl rfl rfl (B.eql_nn ⟨_, Tryd.underlying60⟩ (⟨0, 0, none⟩ : Addr))) ?_
  refine wl_end ?_
  (try simp only [ls0, ls1])
  refine hK14 _ _ ?_
  (try clear hK14 K14)
  refine wp_cond_true rfl ?_
  refine wp_seq_k fun K16 hK16 => ?_
  refine wl_region ?_
  refine st (.int .i64 0) rfl rfl (xr_assign _ rfl rfl) ?_
  refine wl_end ?_
  (try simp only [ls0, ls1])
  refine hK16 _ _ ?_
  (try clear hK16 K16)
  refine wp_ret ?_
  (try simp only [Exit.inBlock, Exit.then, Exit.noGoto])
  (try simp only [ls0, ls1])
  obtain rfl := Option.some.inj H
  refine bodyPost_ret (results_tmp rfl _ _ _) rfl ?_
  exact ⟨_, rfl, HS⟩
 | some o15 =>
  (try simp only [onOpt] at H)
  obtain ⟨g17, cs18, rfl, HX19, HK20⟩ := ptr_some HP0
  obtain ⟨vq21_0, Aq21_1, cpq21_1, Aq21_2, cpq21_2, rfl, HRq21_0, HCq21_1, HRq21_1, HCq21_2, HRq21_2⟩ := k118_openF HK20
  replace HRq21_0 : Ft c [0] w (fun w_ => (Kd.ptr 107 k107).K w_ o15.f0 [vq21_0]) := HRq21_0
  replace HRq21_1 : Ft c [0] w (fun w_ => (Kd.int .i64).C w_ Aq21_1 o15.f1.length o15.f1) := HRq21_1
  replace HRq21_2 : Ft c [0] w (fun w_ => (Kd.int .u64).C w_ Aq21_2 o15.f2.length o15.f2) := HRq21_2
  refine st (.bool false) rfl rfl (xr_bin (.pointer (some ⟨g17, 0, none⟩)) (.pointer none) (.bool false) rfl rfl rfl (B.eql_pn ⟨_, Tryd.underlying60⟩ ⟨g17, 0, none⟩)) ?_
  refine wl_end ?_
  (try simp only [ls0, ls1])
  refine hK14 _ _ ?_
  (try clear hK14 K14)
  refine wp_cond_false rfl ?_
  refine wp_skip ?_
  (try simp only [ls0, ls1])
  refine hK13 _ _ ?_
  (try clear hK13 K13)
  refine wp_seq_k fun K22 hK22 => ?_
  refine wl_region ?_
  refine mv_ rfl ?_
  refine st (.pointer (some ⟨g17, 0, none⟩)) rfl rfl (xr_nilCheck _ rfl rfl) ?_
  refine st (.pointer (some ⟨g17, 1, none⟩)) rfl rfl (xr_fieldAddr _ _ rfl rfl (bx_field2 Tryd.underlying118 rfl rfl (by kernel_rfl))) ?_
  refine st (.slice Aq21_1 o15.f1.length cpq21_1) rfl rfl (xr_load _ _ rfl rfl (load_cell Tryd.underlying23 rfl (bx_cell (Ft.now HX19) 1 rfl))) ?_
  simp only [ls0, ls1]
  refine st (.int .i64 (o15.f1.length : Int)) rfl rfl (xr_builtin #[.slice Aq21_1 o15.f1.length cpq21_1] (.int .i64 (o15.f1.length : Int)) rfl (mp_ rfl) (by first | rfl | (go_simp; done) | (go_simp; rfl) | (go_simp; exact i64_w _) | (go_simp; exact i32_w _))) ?_
  refine as_ rfl ?_
  refine wl_end ?_
  (try simp only [ls0, ls1])
  refine hK22 _ _ ?_
  (try clear hK22 K22)
  refine wp_ret ?_
  (try simp only [Exit.inBlock, Exit.then, Exit.noGoto])
  (try simp only [ls0, ls1])
  obtain rfl := Option.some.inj H
  refine bodyPost_ret (results_tmp rfl _ _ _) rfl ?_
  exact ⟨_, rfl, HS⟩

end Go.Proofs.YtpfepkkpbampkaaDoor.PIrn
