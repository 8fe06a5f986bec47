-- By cprint.py, a program of this work. Lean checks it.
import Derived.Test.YtpfepkkpbampkaaDoorPLalx0
import Derived.Test.YtpfepkkpbampkaaDoorPLalx1
import Derived.Test.YtpfepkkpbampkaaDoorPLalx2
import Derived.Test.YtpfepkkpbampkaaDoorPLalx3
import Derived.Test.YtpfepkkpbampkaaDoorPLalx4
import Derived.Test.YtpfepkkpbampkaaDoorPLalx5
import Derived.Test.YtpfepkkpbampkaaDoorPLalx7
namespace Go.Proofs.YtpfepkkpbampkaaDoor.PLal
open Go.RowKit Go.Proofs.YtpfepkkpbampkaaDoorW.PrintWords Go.Proofs.YtpfepkkpbampkaaDoorW.PrintLast Go.Proofs.YtpfepkkpbampkaaDoorW.PrintMore
set_option linter.unusedVariables false
set_option linter.unusedSimpArgs false

/-! ### lattice_Lattice_JoinAll: function 19 -/
mutual
def lattice_Lattice_JoinAll.l0 : Nat → (List Int) → Int → Option (Int)
  | 0, _, _ => none
  | k + 1, l1, t158 => if 0 < (l1.length : Int) then ((lattice_Lattice_in.f (none : Option S107) (rd l1 0) (rd l1 0)).bind fun t205 => (if t205 = true then (none) else (some (-1)))) else (some t158)
def lattice_Lattice_JoinAll.l1 : Nat → (List Int) → S107 → Int → Int → Option (Int)
  | 0, _, _, _, _ => none
  | k + 1, l1, o166, x273, x275 => if x275 < (l1.length : Int) then (if 0 ≤ x275 then ((lattice_Lattice_in.f (some (⟨o166.f0, (⟨(⟨o166.f1.f0.f0⟩ : S92), (⟨(⟨o166.f1.f1.f0.f0, o166.f1.f1.f0.f1⟩ : S94)⟩ : S96)⟩ : S98), o166.f2, o166.f3, (⟨o166.f4.f0⟩ : S105)⟩ : S107) : Option S107) (rd l1 x275) (rd l1 x275)).bind fun t298 => (if t298 = true then (if 0 ≤ x273 then (if x273 < 64 then (if 0 ≤ (rd l1 x275) then (if (rd l1 x275) < 64 then (lattice_Lattice_JoinAll.l1 k l1 o166 (wrap64 (List.getD o166.f2 ((x273 : Int).toNat * 64 + (rd l1 x275 : Int).toNat) 0)) (wrap64 (x275 + 1))) else (none)) else (none)) else (none)) else (none)) else (some (-1)))) else (none)) else (some x273)
end
def lattice_Lattice_JoinAll.f (k : Nat) (x0 : Option S107) (l1 : List Int) : Option (Int) := (lattice_Lattice_Bottom.f k x0).bind fun t158 => (onOpt x0 (lattice_Lattice_JoinAll.l0 k l1 t158) (fun o166 => (lattice_Lattice_JoinAll.l1 k l1 o166 t158 0)))

set_option maxHeartbeats 2000000 in
set_option maxRecDepth 100000 in
theorem lattice_Lattice_JoinAll.calls (k : Nat) (v0 : Value) (x0 : Option S107) (A1 : Option Addr) (c1 : Nat) (l1 : List Int) (r : Int) (c : Nat → Nat) (w : World) (hc : ∀ k, c k < 10) (HP0 : Ft c [0] w (fun w_ => (Kd.ptr 107 k107).K w_ x0 [v0])) (HP1 : Ft c [0] w (fun w_ => (Kd.int .i64).C w_ A1 l1.length l1)) (HCP1 : l1.length ≤ c1) (H : lattice_Lattice_JoinAll.f k x0 l1 = some r) :
    Calls Tryd.prog 19 #[v0, .slice A1 l1.length c1] w fun e w' => ∃ (c' : Nat → Nat) , e = .returned (.int .i64 r) ∧ Step c w c' w' [] := by
 unfold lattice_Lattice_JoinAll.f at H
 have HS := Step.refl c w []
 go_enter Tryd.func19, Tryd.ntmps19
 refine wp_seq_k fun K156 hK156 => ?_
 refine wl_region ?_
 refine st (.int .i64 0) rfl rfl (xr_assign _ rfl rfl) ?_
 refine wl_end ?_
 (try simp only [ls0, ls1])
 refine hK156 _ _ ?_
 (try clear hK156 K156)
 refine wp_seq_k fun K157 hK157 => ?_
 refine wl_region ?_
 refine mv_ rfl ?_
 obtain ⟨t158, A159, H⟩ := bnd H
 refine st_call #[v0] rfl rfl Tryd.func26 (by kernel_rfl) rfl rfl (mp_ rfl) ?_
 refine (lattice_Lattice_Bottom.calls k v0 x0 t158  (fun z_ => pal [(0, 0)] (c z_)) w (fun _ => pal_lt rfl _) (Ft.arg HP0 rfl) A159).mono ?_
 rintro _ w161 ⟨C162, rfl, hs163⟩
 refine ⟨_, rfl, ?_⟩
 replace hs163 := Step.lift (U := [(0, 0)]) hs163 [] rfl rfl
 generalize up c C162 w.heap.size [(0, 0)] = C162_ at hs163
 replace HP0 := HP0.thru hs163 rfl
 replace HP1 := HP1.thru hs163 rfl
 replace HS := HS.trans hs163 hc rfl
 (try simp only [ls0, ls1])
 refine as_ rfl ?_
 refine wl_end ?_
 (try simp only [ls0, ls1])
 refine hK157 _ _ ?_
 (try clear hK157 K157)
 refine wp_seq_k fun K164 hK164 => ?_
 refine wp_seq_k fun K165 hK165 => ?_
 refine wl_region ?_
 refine mv_ rfl ?_
 refine st (.int .i64 (l1.length : Int)) rfl rfl (xr_builtin #[.slice A1 l1.length c1] (.int .i64 (l1.length : Int)) rfl (mp_ rfl) (by first | rfl | (go_simp; done) | (go_simp; rfl) | (go_simp; exact i64_w _) | (go_simp; exact i32_w _))) ?_
 refine st (.int .i64 0) rfl rfl (xr_move _ rfl rfl) ?_
 refine wl_end ?_
 (try simp only [ls0, ls1])
 refine hK165 _ _ ?_
 (try clear hK165 K165)
 refine wp_block ?_
 cases x0 with
 | none =>
  (try simp only [onOpt] at H)
  obtain rfl := ptr_none HP0
  (try simp only [ls0, ls1])
  refine wp_looped (looped_fin (fun kq189 a_ w188 => ∃ (C187 : Nat → Nat) (g_ : Nat → Value), a_ = ⟨#[.pointer none, (g_ 1), (g_ 2), (g_ 3), (g_ 4), .int .i64 t158, (g_ 6), (g_ 7), (g_ 8), (g_ 9), .slice A1 l1.length c1, .int .i64 (l1.length : Int), .int .i64 0, (g_ 13), (g_ 14), (g_ 15), (g_ 16), (g_ 17), (g_ 18), (g_ 19), (g_ 20), (g_ 21), (g_ 22), (g_ 23), (g_ 24), (g_ 25), (g_ 26), (g_ 27), (g_ 28), (g_ 29), (g_ 30), (g_ 31)], []⟩ ∧ Step c w C187 w188 [] ∧ kq189 ≤ k ∧ (Ft C187 [0] w188 (fun w_ => (Kd.int .i64).C w_ A1 l1.length l1)) ∧ lattice_Lattice_JoinAll.l0 kq189 l1 t158 = some r) ?step fun hL_ => ?init)
  case init =>
   exact jmpL (fun a_ h_ => hL_ k a_ _ h_) (fun g_ => ⟨_, g_, rfl, HS, Nat.le_refl _, HP1, H⟩) rfl
  case step =>
   intro kq189 ih192 a193 w188 hr194
   obtain ⟨C187, g_, rfl, HS190, hk191, HJ186, H⟩ := hr194
   refine looped_round ?_
   cases kq189 with
   | zero => exact absurd H (by simp [lattice_Lattice_JoinAll.l0])
   | succ k195 =>
    simp only [lattice_Lattice_JoinAll.l0] at H
    refine wp_seq_k fun K196 hK196 => ?_
    refine wl_region ?_
    refine st (.bool (decide (0 < (l1.length : Int)))) rfl rfl (xr_bin _ _ _ rfl rfl rfl (B.lss_i64 _ _)) ?_
    refine wl_end ?_
    (try simp only [ls0, ls1])
    refine hK196 _ _ ?_
    (try clear hK196 K196)
    refine wp_seq_k fun K197 hK197 => ?_
    by_cases c198 : 0 < (l1.length : Int)
    ·rw [if_pos c198] at H
     (try rw [(decide_eq_true c198)])
     refine wp_cond_true rfl ?_
     refine wp_skip ?_
     (try simp only [ls0, ls1])
     refine hK197 _ _ ?_
     (try clear hK197 K197)
     refine wp_seq_k fun K199 hK199 => ?_
     refine wp_block ?_
     refine wp_seq_k fun K200 hK200 => ?_
     refine wl_region ?_
     obtain ⟨ad201, hA202⟩ := c_addr (Ft.now HJ186) (pos_of (j := 0) (by first | assumption | decide) (by first | assumption | omega))
     refine st (.pointer (some (ad201.add ((0 : Int).toNat * 1)))) rfl rfl (xr_indexAddr _ _ _ rfl rfl rfl (index_at Tryd.underlying23 info3 hA202 (by first | assumption | decide | omega) (by first | assumption | decide | omega))) ?_
     refine st (.int .i64 (rd l1 0)) rfl rfl (xr_load _ _ rfl rfl (load_int Tryd.underlying3 rfl hA202 (Ft.now HJ186) (by first | assumption | decide | omega) (by first | assumption | decide | omega))) ?_
     refine as_ rfl ?_
     refine wl_end ?_
     (try simp only [ls0, ls1])
     refine hK200 _ _ ?_
     (try clear hK200 K200)
     refine wp_seq_k fun K203 hK203 => ?_
     refine wp_seq_k fun K204 hK204 => ?_
     refine wl_region ?_
     refine mv_ rfl ?_
     refine mv_ rfl ?_
     refine mv_ rfl ?_
     obtain ⟨t205, A206, H⟩ := bnd H
     refine st_call #[.pointer none, .int .i64 (rd l1 0), .int .i64 (rd l1 0)] rfl rfl Tryd.func62 (by kernel_rfl) rfl rfl (mp_ rfl) ?_
     refine (lattice_Lattice_in.calls (.pointer none) (none : Option S107) (rd l1 0) (rd l1 0) t205  (fun z_ => pal [(0, 0)] (C187 z_)) w188 (fun _ => pal_lt rfl _) (ptr_nil _ _ _ _ _) A206).mono ?_
     rintro _ w208 ⟨C209, rfl, hs210⟩
     refine ⟨_, rfl, ?_⟩
     replace hs210 := Step.lift (U := [(0, 0)]) hs210 [] rfl rfl
     generalize up C187 C209 w188.heap.size [(0, 0)] = C209_ at hs210
     replace HJ186 := HJ186.thru hs210 rfl
     replace HS190 := HS190.trans hs210 hc rfl
     (try simp only [ls0, ls1])
     refine st (.bool (!t205)) rfl rfl (xr_un (.bool t205) _ rfl rfl (by first | rfl | (go_simp; done) | (go_simp; rfl) | (go_simp; exact i64_w _) | (go_simp; exact i32_w _))) ?_
     refine wl_end ?_
     (try simp only [ls0, ls1])
     refine hK204 _ _ ?_
     (try clear hK204 K204)
     by_cases c211 : t205 = true
     ·rw [if_pos c211] at H
      (try rw [c211])
      (try simp only [Bool.not_true, Bool.not_false])
      refine wp_cond_false rfl ?_
      refine wp_skip ?_
      (try simp only [ls0, ls1])
      refine hK203 _ _ ?_
      (try clear hK203 K203)
      refine wl_region ?_
      refine mv_ rfl ?_
      refine mv_ rfl ?_
      refine mv_ rfl ?_
      exact absurd H (by simp)
     rw [if_neg c211] at H
     (try rw [(Bool.eq_false_iff.mpr c211)])
     (try simp only [Bool.not_true, Bool.not_false])
     refine wp_cond_true rfl ?_
     refine wp_seq_k fun K212 hK212 => ?_
     refine wl_region ?_
     refine st (.int .i64 (-1)) rfl rfl (xr_assign _ rfl rfl) ?_
     simp only [ls0, ls1]
     refine wl_end ?_
     (try simp only [ls0, ls1])
     refine hK212 _ _ ?_
     (try clear hK212 K212)
     refine wp_ret ?_
     (try simp only [Exit.inBlock, Exit.then, Exit.noGoto])
     (try simp only [ls0, ls1])
     obtain rfl := Option.some.inj H
     refine bodyPost_ret (results_tmp rfl _ _ _) rfl ?_
     exact ⟨_, rfl, HS190⟩
    rw [if_neg c198] at H
    (try rw [(decide_eq_false c198)])
    refine wp_cond_false rfl ?_
    refine wp_exit ?_
    (try simp only [ls0, ls1])
    refine hK164 _ _ ?_
    (try clear hK164 K164)
    refine wp_seq_k fun K213 hK213 => ?_
    refine wl_region ?_
    refine mv_ rfl ?_
    refine as_ rfl ?_
    refine wl_end ?_
    (try simp only [ls0, ls1])
    refine hK213 _ _ ?_
    (try clear hK213 K213)
    refine wp_ret ?_
    (try simp only [Exit.inBlock, Exit.then, Exit.noGoto])
    (try simp only [ls0, ls1])
    obtain rfl := Option.some.inj H
    refine bodyPost_ret (results_tmp rfl _ _ _) rfl ?_
    exact ⟨_, rfl, HS190⟩
 | some o166 =>
  (try simp only [onOpt] at H)
  obtain ⟨g214, cs215, rfl, HX216, HK217⟩ := ptr_some HP0
  obtain ⟨vq218_0, rfl, HRq218_0, HLq218_4, HLq218_5⟩ := k107_openF HK217
  replace HRq218_0 : Ft C162_ [0] w161 (fun w_ => (Kd.ptr 81 k81).K w_ o166.f0 [vq218_0]) := HRq218_0
  (try simp only [ls0, ls1])
  refine wp_looped (looped_fin (fun kq280 a_ w279 => ∃ (C278 : Nat → Nat) (x273 : Int) (x275 : Int) (g_ : Nat → Value), a_ = ⟨#[.pointer (some ⟨g214, 0, none⟩), (g_ 1), (g_ 2), (g_ 3), (g_ 4), .int .i64 x273, (g_ 6), (g_ 7), (g_ 8), (g_ 9), .slice A1 l1.length c1, .int .i64 (l1.length : Int), .int .i64 x275, (g_ 13), (g_ 14), (g_ 15), (g_ 16), (g_ 17), (g_ 18), (g_ 19), (g_ 20), (g_ 21), (g_ 22), (g_ 23), (g_ 24), (g_ 25), (g_ 26), (g_ 27), (g_ 28), (g_ 29), (g_ 30), (g_ 31)], []⟩ ∧ Step c w C278 w279 [] ∧ kq280 ≤ k ∧ (Ft C278 [0] w279 (fun w_ => (Kd.int .i64).C w_ A1 l1.length l1)) ∧ (Ft C278 [0] w279 (fun w_ => (Kd.ptr 81 k81).K w_ o166.f0 [vq218_0])) ∧ (Ft C278 [0] w279 (fun w_ => w_.heap[g214]? = some (.cells (List.toArray ([vq218_0, .int .u32 o166.f1.f0.f0, .int .i32 o166.f1.f1.f0.f0, .int .u32 o166.f1.f1.f0.f1] ++ (List.map (Value.int .i8) o166.f2 ++ (List.map (Value.int .i8) o166.f3 ++ ([.int .i64 o166.f4.f0]))))) 107 (0, 0)))) ∧ lattice_Lattice_JoinAll.l1 kq280 l1 o166 x273 x275 = some r) ?step fun hL_ => ?init)
  case init =>
   exact jmpL (fun a_ h_ => hL_ k a_ _ h_) (fun g_ => ⟨_, t158, 0, g_, rfl, HS, Nat.le_refl _, HP1, HRq218_0, HX216, H⟩) rfl
  case step =>
   intro kq280 ih283 a284 w279 hr285
   obtain ⟨C278, x273, x275, g_, rfl, HS281, hk282, HJ274, HJ276, HJ277, H⟩ := hr285
   refine looped_round ?_
   cases kq280 with
   | zero => exact absurd H (by simp [lattice_Lattice_JoinAll.l1])
   | succ k286 =>
    simp only [lattice_Lattice_JoinAll.l1] at H
    refine wp_seq_k fun K287 hK287 => ?_
    refine wl_region ?_
    refine st (.bool (decide (x275 < (l1.length : Int)))) rfl rfl (xr_bin _ _ _ rfl rfl rfl (B.lss_i64 _ _)) ?_
    refine wl_end ?_
    (try simp only [ls0, ls1])
    refine hK287 _ _ ?_
    (try clear hK287 K287)
    refine wp_seq_k fun K288 hK288 => ?_
    by_cases c289 : x275 < (l1.length : Int)
    ·rw [if_pos c289] at H
     (try rw [(decide_eq_true c289)])
     refine wp_cond_true rfl ?_
     refine wp_skip ?_
     (try simp only [ls0, ls1])
     refine hK288 _ _ ?_
     (try clear hK288 K288)
     refine wp_seq_k fun K290 hK290 => ?_
     refine wp_block ?_
     refine wp_seq_k fun K291 hK291 => ?_
     refine wl_region ?_
     obtain ⟨c292, H⟩ := if_some H
     obtain ⟨ad293, hA294⟩ := c_addr (Ft.now HJ274) (pos_of (j := x275) (by first | assumption | decide) (by first | assumption | omega))
     refine st (.pointer (some (ad293.add ((x275 : Int).toNat * 1)))) rfl rfl (xr_indexAddr _ _ _ rfl rfl rfl (index_at Tryd.underlying23 info3 hA294 (by first | assumption | decide | omega) (by first | assumption | decide | omega))) ?_
     refine st (.int .i64 (rd l1 x275)) rfl rfl (xr_load _ _ rfl rfl (load_int Tryd.underlying3 rfl hA294 (Ft.now HJ274) (by first | assumption | decide | omega) (by first | assumption | decide | omega))) ?_
     refine as_ rfl ?_
     refine wl_end ?_
     (try simp only [ls0, ls1])
     refine hK291 _ _ ?_
     (try clear hK291 K291)
     refine wp_seq_k fun K295 hK295 => ?_
     refine wp_seq_k fun K296 hK296 => ?_
     refine wl_region ?_
     refine mv_ rfl ?_
     refine mv_ rfl ?_
     refine mv_ rfl ?_
     have HP297 : Ft C278 [0] w279 (fun w_ => (Kd.ptr 107 k107).K w_ (some (⟨o166.f0, (⟨(⟨o166.f1.f0.f0⟩ : S92), (⟨(⟨o166.f1.f1.f0.f0, o166.f1.f1.f0.f1⟩ : S94)⟩ : S96)⟩ : S98), o166.f2, o166.f3, (⟨o166.f4.f0⟩ : S105)⟩ : S107)) [.pointer (some ⟨g214, 0, none⟩)]) := ptr_mk (Ft.more HJ277 rfl) (k107_mkF _ _ (⟨o166.f0, (⟨(⟨o166.f1.f0.f0⟩ : S92), (⟨(⟨o166.f1.f1.f0.f0, o166.f1.f1.f0.f1⟩ : S94)⟩ : S96)⟩ : S98), o166.f2, o166.f3, (⟨o166.f4.f0⟩ : S105)⟩ : S107) (Ft.more HJ276 rfl) HLq218_4 HLq218_5)
     obtain ⟨t298, A299, H⟩ := bnd H
     refine st_call #[.pointer (some ⟨g214, 0, none⟩), .int .i64 (rd l1 x275), .int .i64 (rd l1 x275)] rfl rfl Tryd.func62 (by kernel_rfl) rfl rfl (mp_ rfl) ?_
     refine (lattice_Lattice_in.calls (.pointer (some ⟨g214, 0, none⟩)) (some (⟨o166.f0, (⟨(⟨o166.f1.f0.f0⟩ : S92), (⟨(⟨o166.f1.f1.f0.f0, o166.f1.f1.f0.f1⟩ : S94)⟩ : S96)⟩ : S98), o166.f2, o166.f3, (⟨o166.f4.f0⟩ : S105)⟩ : S107) : Option S107) (rd l1 x275) (rd l1 x275) t298  (fun z_ => pal [(0, 0)] (C278 z_)) w279 (fun _ => pal_lt rfl _) (Ft.arg HP297 rfl) A299).mono ?_
     rintro _ w301 ⟨C302, rfl, hs303⟩
     refine ⟨_, rfl, ?_⟩
     replace hs303 := Step.lift (U := [(0, 0)]) hs303 [] rfl rfl
     generalize up C278 C302 w279.heap.size [(0, 0)] = C302_ at hs303
     replace HJ274 := HJ274.thru hs303 rfl
     replace HJ277 := HJ277.thru hs303 rfl
     replace HJ276 := HJ276.thru hs303 rfl
     replace HS281 := HS281.trans hs303 hc rfl
     (try simp only [ls0, ls1])
     refine st (.bool (!t298)) rfl rfl (xr_un (.bool t298) _ rfl rfl (by first | rfl | (go_simp; done) | (go_simp; rfl) | (go_simp; exact i64_w _) | (go_simp; exact i32_w _))) ?_
     refine wl_end ?_
     (try simp only [ls0, ls1])
     refine hK296 _ _ ?_
     (try clear hK296 K296)
     by_cases c304 : t298 = true
     ·rw [if_pos c304] at H
      (try rw [c304])
      (try simp only [Bool.not_true, Bool.not_false])
      refine wp_cond_false rfl ?_
      refine wp_skip ?_
      (try simp only [ls0, ls1])
      refine hK295 _ _ ?_
      (try clear hK295 K295)
      refine wl_region ?_
      refine mv_ rfl ?_
      refine mv_ rfl ?_
      refine mv_ rfl ?_
      refine st (.pointer (some ⟨g214, 0, none⟩)) rfl rfl (xr_nilCheck _ rfl rfl) ?_
      simp only [ls0, ls1]
      refine st (.pointer (some ⟨g214, 4, none⟩)) rfl rfl (xr_fieldAddr _ _ rfl rfl (bx_field2 Tryd.underlying107 rfl rfl (by kernel_rfl))) ?_
      obtain ⟨c305, H⟩ := if_some H
      obtain ⟨c306, H⟩ := if_some H
      refine st (.pointer (some ⟨g214, 4 + ((x273 : Int).toNat * 64), none⟩)) rfl rfl (xr_indexAddr _ _ _ rfl rfl rfl (arr_index (sz := 64) Tryd.underlying102 (by kernel_rfl) (by first | assumption | decide | omega) (by first | assumption | decide | omega) (by omega))) ?_
      obtain ⟨c307, H⟩ := if_some H
      obtain ⟨c308, H⟩ := if_some H
      refine st (.pointer (some ⟨g214, 4 + ((x273 : Int).toNat * 64 + (rd l1 x275 : Int).toNat), none⟩)) rfl rfl (xr_indexAddr _ _ _ rfl rfl rfl (arr_index (sz := 1) Tryd.underlying100 (by kernel_rfl) (by first | assumption | decide | omega) (by first | assumption | decide | omega) (by omega))) ?_
      refine st (.int .i8 (List.getD o166.f2 ((x273 : Int).toNat * 64 + (rd l1 x275 : Int).toNat) 0)) rfl rfl (xr_load _ _ rfl rfl (arr_load (o := 4) (N := 4096) (pre := [vq218_0, .int .u32 o166.f1.f0.f0, .int .i32 o166.f1.f1.f0.f0, .int .u32 o166.f1.f1.f0.f1]) (post := List.map (Value.int .i8) o166.f3 ++ ([.int .i64 o166.f4.f0])) (enc := (Value.int .i8)) (l := o166.f2) (i := (x273 : Int).toNat * 64 + (rd l1 x275 : Int).toNat) 0 Tryd.underlying99 rfl (Ft.now HJ277) (by first | (simp only [List.append_assoc, List.cons_append, List.nil_append, List.append_nil]; done) | rfl) rfl HLq218_4 (by omega) (by omega))) ?_
      simp only [ls0, ls1]
      refine st (.int .i64 (wrap64 (List.getD o166.f2 ((x273 : Int).toNat * 64 + (rd l1 x275 : Int).toNat) 0))) rfl rfl (xr_conv (.int .i8 (List.getD o166.f2 ((x273 : Int).toNat * 64 + (rd l1 x275 : Int).toNat) 0)) _ rfl rfl (by first | rfl | (go_simp; done) | (go_simp; rfl) | (go_simp; exact i64_w _) | (go_simp; exact i32_w _))) ?_
      refine as_ rfl ?_
      refine wl_end ?_
      (try simp only [ls0, ls1])
      refine hK290 _ _ ?_
      (try clear hK290 K290)
      refine wl_region ?_
      refine st (.int .i64 (wrap64 (x275 + 1))) rfl rfl (xr_bin _ _ _ rfl rfl rfl (B.add_i64 _ _)) ?_
      refine mv_ rfl ?_
      refine wl_end ?_
      (try simp only [ls0, ls1])
      exact jmpL (fun a_ h_ => ih283 k286 (by omega) a_ _ h_) (fun g_ => ⟨_, wrap64 (List.getD o166.f2 ((x273 : Int).toNat * 64 + (rd l1 x275 : Int).toNat) 0), wrap64 (x275 + 1), g_, rfl, HS281, (by omega), HJ274, HJ276, HJ277, H⟩) rfl
     rw [if_neg c304] at H
     (try rw [(Bool.eq_false_iff.mpr c304)])
     (try simp only [Bool.not_true, Bool.not_false])
     refine wp_cond_true rfl ?_
     refine wp_seq_k fun K309 hK309 => ?_
     refine wl_region ?_
     refine st (.int .i64 (-1)) rfl rfl (xr_assign _ rfl rfl) ?_
     refine wl_end ?_
     (try simp only [ls0, ls1])
     refine hK309 _ _ ?_
     (try clear hK309 K309)
     refine wp_ret ?_
     (try simp only [Exit.inBlock, Exit.then, Exit.noGoto])
     (try simp only [ls0, ls1])
     obtain rfl := Option.some.inj H
     refine bodyPost_ret (results_tmp rfl _ _ _) rfl ?_
     exact ⟨_, rfl, HS281⟩
    rw [if_neg c289] at H
    (try rw [(decide_eq_false c289)])
    refine wp_cond_false rfl ?_
    refine wp_exit ?_
    (try simp only [ls0, ls1])
    refine hK164 _ _ ?_
    (try clear hK164 K164)
    refine wp_seq_k fun K310 hK310 => ?_
    refine wl_region ?_
    refine mv_ rfl ?_
    refine as_ rfl ?_
    refine wl_end ?_
    (try simp only [ls0, ls1])
    refine hK310 _ _ ?_
    (try clear hK310 K310)
    refine wp_ret ?_
    (try simp only [Exit.inBlock, Exit.then, Exit.noGoto])
    (try simp only [ls0, ls1])
    obtain rfl := Option.some.inj H
    refine bodyPost_ret (results_tmp rfl _ _ _) rfl ?_
    exact ⟨_, rfl, HS281⟩

/-! ### blazonref14_Lattice_Bottom: function 29 -/
mutual
def blazonref14_Lattice_Bottom.l0 : Nat → (List ByteArray) → (List (List Bool)) → Int → Bool → Int → Option (Int)
  | 0, _, _, _, _, _ => none
  | k + 1, l0_0, l0_1, x828, x964, x965 => if x965 < (l0_0.length : Int) then (if x964 = true then (if 0 ≤ x828 then (if x828 < (l0_1.length : Int) then (if 0 ≤ x965 then (if x965 < ((rd_L20 l0_1 x828).length : Int) then (blazonref14_Lattice_Bottom.l0 k l0_0 l0_1 x828 (rdOf false (rd_L20 l0_1 x828) x965) (wrap64 (x965 + 1))) else (none)) else (none)) else (none)) else (none)) else (blazonref14_Lattice_Bottom.l0 k l0_0 l0_1 x828 false (wrap64 (x965 + 1)))) else (if x964 = true then (some x828) else (blazonref14_Lattice_Bottom.l1 k l0_0 l0_1 (wrap64 (x828 + 1))))
def blazonref14_Lattice_Bottom.l1 : Nat → (List ByteArray) → (List (List Bool)) → Int → Option (Int)
  | 0, _, _, _ => none
  | k + 1, l0_0, l0_1, x828 => if x828 < (l0_0.length : Int) then (blazonref14_Lattice_Bottom.l0 k l0_0 l0_1 x828 true 0) else (some (-1))
end
def blazonref14_Lattice_Bottom.f (k : Nat) (l0_0 : List ByteArray) (l0_1 : List (List Bool)) (l0_2 : List (List Int)) (l0_3 : List (List Int)) : Option (Int) := blazonref14_Lattice_Bottom.l1 k l0_0 l0_1 0

set_option maxHeartbeats 2000000 in
set_option maxRecDepth 100000 in
theorem blazonref14_Lattice_Bottom.calls (k : Nat) (A0_0 : Option Addr) (c0_0 : Nat) (l0_0 : List ByteArray) (A0_1 : Option Addr) (c0_1 : Nat) (l0_1 : List (List Bool)) (A0_2 : Option Addr) (c0_2 : Nat) (l0_2 : List (List Int)) (A0_3 : Option Addr) (c0_3 : Nat) (l0_3 : List (List Int)) (r : Int) (c : Nat → Nat) (w : World) (hc : ∀ k, c k < 10) (HP0_0 : Ft c [0] w (fun w_ => Kd.string.C w_ A0_0 l0_0.length l0_0)) (HCP0_0 : l0_0.length ≤ c0_0) (HP0_1 : Ft c [0] w (fun w_ => (Kd.slice 4 Kd.bool).C w_ A0_1 l0_1.length l0_1)) (HCP0_1 : l0_1.length ≤ c0_1) (HP0_2 : Ft c [0] w (fun w_ => (Kd.slice 3 (Kd.int .i64)).C w_ A0_2 l0_2.length l0_2)) (HCP0_2 : l0_2.length ≤ c0_2) (HP0_3 : Ft c [0] w (fun w_ => (Kd.slice 3 (Kd.int .i64)).C w_ A0_3 l0_3.length l0_3)) (HCP0_3 : l0_3.length ≤ c0_3) (H : blazonref14_Lattice_Bottom.f k l0_0 l0_1 l0_2 l0_3 = some r) :
    Calls Tryd.prog 29 #[.agg #[.slice A0_0 l0_0.length c0_0, .slice A0_1 l0_1.length c0_1, .slice A0_2 l0_2.length c0_2, .slice A0_3 l0_3.length c0_3]] w fun e w' => ∃ (c' : Nat → Nat) , e = .returned (.int .i64 r) ∧ Step c w c' w' [] := by
 unfold blazonref14_Lattice_Bottom.f at H
 have HS := Step.refl c w []
 go_enter Tryd.func29, Tryd.ntmps29
 refine wp_seq_k fun K500 hK500 => ?_
 refine wl_region ?_
 refine bx_new (C := c) 41 ([.slice A0_0 l0_0.length c0_0, .slice A0_1 l0_1.length c0_1, .slice A0_2 l0_2.length c0_2, .slice A0_3 l0_3.length c0_3]) 11 rfl rfl (by first | (go_simp; done) | (go_simp; rfl)) ?_
 intro g501 w502 C503 HX504 hs505
 replace HP0_0 := HP0_0.thru hs505 rfl
 replace HP0_1 := HP0_1.thru hs505 rfl
 replace HP0_2 := HP0_2.thru hs505 rfl
 replace HP0_3 := HP0_3.thru hs505 rfl
 replace HS := HS.trans hs505 hc rfl
 (try simp only [ls0, ls1])
 refine st (.int .i64 0) rfl rfl (xr_assign _ rfl rfl) ?_
 refine wl_end ?_
 (try simp only [ls0, ls1])
 refine hK500 _ _ ?_
 (try clear hK500 K500)
 refine wp_seq_k fun K506 hK506 => ?_
 refine wp_seq_k fun K507 hK507 => ?_
 refine wl_region ?_
 refine st (.int .i64 0) rfl rfl (xr_assign _ rfl rfl) ?_
 refine wl_end ?_
 (try simp only [ls0, ls1])
 refine hK507 _ _ ?_
 (try clear hK507 K507)
 refine wp_block ?_
 (try simp only [ls0, ls1])
 refine wp_looped (looped_fin (fun kq836 a_ w835 => ∃ (C834 : Nat → Nat) (x828 : Int) (g_ : Nat → Value), a_ = ⟨#[(g_ 0), .pointer (some ⟨g501, 0, none⟩), (g_ 2), .int .i64 x828, (g_ 4), (g_ 5), (g_ 6), (g_ 7), (g_ 8), (g_ 9), (g_ 10), (g_ 11), (g_ 12), (g_ 13), (g_ 14), (g_ 15), (g_ 16), (g_ 17), (g_ 18), (g_ 19), (g_ 20), (g_ 21), (g_ 22), (g_ 23), (g_ 24), (g_ 25), (g_ 26), (g_ 27), (g_ 28), (g_ 29), (g_ 30), (g_ 31), (g_ 32), (g_ 33), (g_ 34), (g_ 35)], []⟩ ∧ Step c w C834 w835 [] ∧ kq836 ≤ k ∧ (Ft C834 [0] w835 (fun w_ => Kd.string.C w_ A0_0 l0_0.length l0_0)) ∧ (Ft C834 [0] w835 (fun w_ => (Kd.slice 4 Kd.bool).C w_ A0_1 l0_1.length l0_1)) ∧ (Ft C834 [0] w835 (fun w_ => (Kd.slice 3 (Kd.int .i64)).C w_ A0_2 l0_2.length l0_2)) ∧ (Ft C834 [0] w835 (fun w_ => (Kd.slice 3 (Kd.int .i64)).C w_ A0_3 l0_3.length l0_3)) ∧ (Bx C834 11 w835 g501 41 ([.slice A0_0 l0_0.length c0_0, .slice A0_1 l0_1.length c0_1, .slice A0_2 l0_2.length c0_2, .slice A0_3 l0_3.length c0_3])) ∧ blazonref14_Lattice_Bottom.l1 kq836 l0_0 l0_1 x828 = some r) ?step fun hL_ => ?init)
 case init =>
  exact jmpL (fun a_ h_ => hL_ k a_ _ h_) (fun g_ => ⟨_, 0, g_, rfl, HS, Nat.le_refl _, HP0_0, HP0_1, HP0_2, HP0_3, HX504, H⟩) rfl
 case step =>
  intro kq836 ih839 a840 w835 hr841
  obtain ⟨C834, x828, g_, rfl, HS837, hk838, HJ829, HJ830, HJ831, HJ832, HJ833, H⟩ := hr841
  refine looped_round ?_
  cases kq836 with
  | zero => exact absurd H (by simp [blazonref14_Lattice_Bottom.l1])
  | succ k842 =>
   simp only [blazonref14_Lattice_Bottom.l1] at H
   refine wp_seq_k fun K843 hK843 => ?_
   refine wp_seq_k fun K844 hK844 => ?_
   refine wl_region ?_
   refine mv_ rfl ?_
   refine st (.pointer (some ⟨g501, 0, none⟩)) rfl rfl (xr_fieldAddr _ _ rfl rfl (bx_field2 Tryd.underlying41 rfl rfl (by kernel_rfl))) ?_
   refine st (.pointer (some ⟨g501, 0, none⟩)) rfl rfl (xr_fieldAddr _ _ rfl rfl (bx_field2 Tryd.underlying33 rfl rfl (by kernel_rfl))) ?_
   refine st (.slice A0_0 l0_0.length c0_0) rfl rfl (xr_load _ _ rfl rfl (load_cell Tryd.underlying30 rfl (bx_cell (HJ833).2 0 rfl))) ?_
   simp only [ls0, ls1]
   refine st (.int .i64 (l0_0.length : Int)) rfl rfl (xr_builtin #[.slice A0_0 l0_0.length c0_0] (.int .i64 (l0_0.length : Int)) rfl (mp_ rfl) (by first | rfl | (go_simp; done) | (go_simp; rfl) | (go_simp; exact i64_w _) | (go_simp; exact i32_w _))) ?_
   refine st (.bool (decide (x828 < (l0_0.length : Int)))) rfl rfl (xr_bin _ _ _ rfl rfl rfl (B.lss_i64 _ _)) ?_
   refine wl_end ?_
   (try simp only [ls0, ls1])
   refine hK844 _ _ ?_
   (try clear hK844 K844)
   by_cases c845 : x828 < (l0_0.length : Int)
   ·rw [if_pos c845] at H
    (try rw [(decide_eq_true c845)])
    refine wp_cond_true rfl ?_
    refine wp_skip ?_
    (try simp only [ls0, ls1])
    refine hK843 _ _ ?_
    (try clear hK843 K843)
    refine wp_seq_k fun K846 hK846 => ?_
    refine wp_block ?_
    refine wp_seq_k fun K847 hK847 => ?_
    refine wl_region ?_
    refine st (.bool true) rfl rfl (xr_assign _ rfl rfl) ?_
    refine wl_end ?_
    (try simp only [ls0, ls1])
    refine hK847 _ _ ?_
    (try clear hK847 K847)
    refine wp_seq_k fun K848 hK848 => ?_
    refine wp_seq_k fun K922 hK922 => ?_
    refine wl_region ?_
    refine st (.int .i64 0) rfl rfl (xr_assign _ rfl rfl) ?_
    refine wl_end ?_
    (try simp only [ls0, ls1])
    refine hK922 _ _ ?_
    (try clear hK922 K922)
    refine wp_block ?_
    (try simp only [ls0, ls1])
    refine wp_looped (looped_fin (fun kq973 a_ w972 => ∃ (C971 : Nat → Nat) (x964 : Bool) (x965 : Int) (g_ : Nat → Value), a_ = ⟨#[(g_ 0), .pointer (some ⟨g501, 0, none⟩), (g_ 2), .int .i64 x828, .bool x964, .int .i64 x965, (g_ 6), (g_ 7), (g_ 8), (g_ 9), (g_ 10), (g_ 11), (g_ 12), (g_ 13), (g_ 14), (g_ 15), (g_ 16), (g_ 17), (g_ 18), (g_ 19), (g_ 20), (g_ 21), (g_ 22), (g_ 23), (g_ 24), (g_ 25), (g_ 26), (g_ 27), (g_ 28), (g_ 29), (g_ 30), (g_ 31), (g_ 32), (g_ 33), (g_ 34), (g_ 35)], []⟩ ∧ Step c w C971 w972 [] ∧ kq973 ≤ k842 ∧ (Ft C971 [0] w972 (fun w_ => Kd.string.C w_ A0_0 l0_0.length l0_0)) ∧ (Ft C971 [0] w972 (fun w_ => (Kd.slice 4 Kd.bool).C w_ A0_1 l0_1.length l0_1)) ∧ (Ft C971 [0] w972 (fun w_ => (Kd.slice 3 (Kd.int .i64)).C w_ A0_2 l0_2.length l0_2)) ∧ (Ft C971 [0] w972 (fun w_ => (Kd.slice 3 (Kd.int .i64)).C w_ A0_3 l0_3.length l0_3)) ∧ (Bx C971 11 w972 g501 41 ([.slice A0_0 l0_0.length c0_0, .slice A0_1 l0_1.length c0_1, .slice A0_2 l0_2.length c0_2, .slice A0_3 l0_3.length c0_3])) ∧ blazonref14_Lattice_Bottom.l0 kq973 l0_0 l0_1 x828 x964 x965 = some r) ?step fun hL_ => ?init)
    case init =>
     exact jmpL (fun a_ h_ => hL_ k842 a_ _ h_) (fun g_ => ⟨_, true, 0, g_, rfl, HS837, Nat.le_refl _, HJ829, HJ830, HJ831, HJ832, HJ833, H⟩) rfl
    case step =>
     intro kq973 ih976 a977 w972 hr978
     obtain ⟨C971, x964, x965, g_, rfl, HS974, hk975, HJ966, HJ967, HJ968, HJ969, HJ970, H⟩ := hr978
     refine looped_round ?_
     cases kq973 with
     | zero => exact absurd H (by simp [blazonref14_Lattice_Bottom.l0])
     | succ k979 =>
      simp only [blazonref14_Lattice_Bottom.l0] at H
      refine wp_seq_k fun K980 hK980 => ?_
      refine wp_seq_k fun K981 hK981 => ?_
      refine wl_region ?_
      refine mv_ rfl ?_
      refine st (.pointer (some ⟨g501, 0, none⟩)) rfl rfl (xr_fieldAddr _ _ rfl rfl (bx_field2 Tryd.underlying41 rfl rfl (by kernel_rfl))) ?_
      refine st (.pointer (some ⟨g501, 0, none⟩)) rfl rfl (xr_fieldAddr _ _ rfl rfl (bx_field2 Tryd.underlying33 rfl rfl (by kernel_rfl))) ?_
      refine st (.slice A0_0 l0_0.length c0_0) rfl rfl (xr_load _ _ rfl rfl (load_cell Tryd.underlying30 rfl (bx_cell (HJ970).2 0 rfl))) ?_
      simp only [ls0, ls1]
      refine st (.int .i64 (l0_0.length : Int)) rfl rfl (xr_builtin #[.slice A0_0 l0_0.length c0_0] (.int .i64 (l0_0.length : Int)) rfl (mp_ rfl) (by first | rfl | (go_simp; done) | (go_simp; rfl) | (go_simp; exact i64_w _) | (go_simp; exact i32_w _))) ?_
      refine st (.bool (decide (x965 < (l0_0.length : Int)))) rfl rfl (xr_bin _ _ _ rfl rfl rfl (B.lss_i64 _ _)) ?_
      refine wl_end ?_
      (try simp only [ls0, ls1])
      refine hK981 _ _ ?_
      (try clear hK981 K981)
      by_cases c982 : x965 < (l0_0.length : Int)
      ·rw [if_pos c982] at H
       (try rw [(decide_eq_true c982)])
       refine wp_cond_true rfl ?_
       refine wp_skip ?_
       (try simp only [ls0, ls1])
       refine hK980 _ _ ?_
       (try clear hK980 K980)
       refine wp_seq_k fun K983 hK983 => ?_
       refine wp_block ?_
       refine wl_region ?_
       refine mv_ rfl ?_
       refine mv_ rfl ?_
       by_cases c984 : x964 = true
       ·rw [if_pos c984] at H
        (try rw [c984])
        refine on_guard (guard_on 1 true 23 rfl rfl rfl) ?_
        refine st (.pointer (some ⟨g501, 0, none⟩)) rfl rfl (xr_fieldAddr _ _ rfl rfl (bx_field2 Tryd.underlying41 rfl rfl (by kernel_rfl))) ?_
        refine on_guard (guard_on 1 true 23 rfl rfl rfl) ?_
        refine st (.pointer (some ⟨g501, 1, none⟩)) rfl rfl (xr_fieldAddr _ _ rfl rfl (bx_field2 Tryd.underlying33 rfl rfl (by kernel_rfl))) ?_
        simp only [ls0, ls1]
        refine on_guard (guard_on 1 true 23 rfl rfl rfl) ?_
        refine st (.slice A0_1 l0_1.length c0_1) rfl rfl (xr_load _ _ rfl rfl (load_cell Tryd.underlying31 rfl (bx_cell (HJ970).2 1 rfl))) ?_
        refine on_guard (guard_on 1 true 23 rfl rfl rfl) ?_
        refine mv_ rfl ?_
        refine on_guard (guard_on 1 true 23 rfl rfl rfl) ?_
        obtain ⟨c985, H⟩ := if_some H
        obtain ⟨c986, H⟩ := if_some H
        obtain ⟨ad987, hA988⟩ := c_addr (Ft.now HJ967) (pos_of (j := x828) (by first | assumption | decide) (by first | assumption | omega))
        refine st (.pointer (some (ad987.add ((x828 : Int).toNat * 1)))) rfl rfl (xr_indexAddr _ _ _ rfl rfl rfl (index_at Tryd.underlying31 info74 hA988 (by first | assumption | decide | omega) (by first | assumption | decide | omega))) ?_
        refine on_guard (guard_on 1 true 23 rfl rfl rfl) ?_
        obtain ⟨csq990, _, hKq990, hcq990, hinq990⟩ := Ft.elem HJ967 hA988 [] x828 (by first | assumption | decide | omega) (by first | assumption | decide | omega) (by decide)
        obtain ⟨Aq990_0, cpq990_0, rfl, HCq990_0, HRq990_0⟩ := slice_openF hKq990
        replace HRq990_0 : Ft C971 [0] w972 (fun w_ => Kd.bool.C w_ Aq990_0 (rd_L20 l0_1 x828).length (rd_L20 l0_1 x828)) := HRq990_0
        refine st (.slice Aq990_0 (rd_L20 l0_1 x828).length cpq990_0) rfl rfl (xr_load (.pointer (some (ad987.add ((x828 : Int).toNat * 1)))) (.slice Aq990_0 (rd_L20 l0_1 x828).length cpq990_0) rfl rfl (load_cell Tryd.underlying74 rfl (by have h_ := (hcq990 0 _ rfl); rw [add_zero_] at h_; exact h_))) ?_
        simp only [ls0, ls1]
        refine on_guard (guard_on 1 true 23 rfl rfl rfl) ?_
        refine mv_ rfl ?_
        refine on_guard (guard_on 1 true 23 rfl rfl rfl) ?_
        obtain ⟨c991, H⟩ := if_some H
        obtain ⟨c992, H⟩ := if_some H
        obtain ⟨ad993, hA994⟩ := c_addr (Ft.now HRq990_0) (pos_of (j := x965) (by first | assumption | decide) (by first | assumption | omega))
        refine st (.pointer (some (ad993.add ((x965 : Int).toNat * 1)))) rfl rfl (xr_indexAddr _ _ _ rfl rfl rfl (index_at Tryd.underlying74 info4 hA994 (by first | assumption | decide | omega) (by first | assumption | decide | omega))) ?_
        refine on_guard (guard_on 1 true 23 rfl rfl rfl) ?_
        refine st (.bool (rdOf false (rd_L20 l0_1 x828) x965)) rfl rfl (xr_load _ _ rfl rfl (load_bool Tryd.underlying4 rfl hA994 (Ft.now HRq990_0) (by first | assumption | decide | omega) (by first | assumption | decide | omega))) ?_
        refine st (.bool (rdOf false (rd_L20 l0_1 x828) x965)) rfl rfl (xr_pick true _ rfl rfl rfl) ?_
        simp only [ls0, ls1]
        refine as_ rfl ?_
        refine wl_end ?_
        (try simp only [ls0, ls1])
        refine hK983 _ _ ?_
        (try clear hK983 K983)
        refine wl_region ?_
        refine mv_ rfl ?_
        refine st (.int .i64 (wrap64 (x965 + 1))) rfl rfl (xr_bin _ _ _ rfl rfl rfl (B.add_i64 _ _)) ?_
        refine as_ rfl ?_
        refine wl_end ?_
        (try simp only [ls0, ls1])
        exact jmpL (fun a_ h_ => ih976 k979 (by omega) a_ _ h_) (fun g_ => ⟨_, rdOf false (rd_L20 l0_1 x828) x965, wrap64 (x965 + 1), g_, rfl, HS974, (by omega), HJ966, HJ967, HJ968, HJ969, HJ970, H⟩) rfl
       rw [if_neg c984] at H
       (try rw [(Bool.eq_false_iff.mpr c984)])
       refine sk_guard (guard_off 1 true 23 rfl rfl false (by decide) rfl) rfl ?_
       refine sk_guard (guard_off 1 true 23 rfl rfl false (by decide) rfl) rfl ?_
       refine sk_guard (guard_off 1 true 23 rfl rfl false (by decide) rfl) rfl ?_
       refine sk_guard (guard_off 1 true 23 rfl rfl false (by decide) rfl) rfl ?_
       simp only [ls0, ls1]
       refine sk_guard (guard_off 1 true 23 rfl rfl false (by decide) rfl) rfl ?_
       refine sk_guard (guard_off 1 true 23 rfl rfl false (by decide) rfl) rfl ?_
       refine sk_guard (guard_off 1 true 23 rfl rfl false (by decide) rfl) rfl ?_
       refine sk_guard (guard_off 1 true 23 rfl rfl false (by decide) rfl) rfl ?_
       simp only [ls0, ls1]
       refine sk_guard (guard_off 1 true 23 rfl rfl false (by decide) rfl) rfl ?_
       refine st (.bool false) rfl rfl (xr_pick false _ rfl rfl rfl) ?_
       refine as_ rfl ?_
       refine wl_end ?_
       (try simp only [ls0, ls1])
       refine hK983 _ _ ?_
       (try clear hK983 K983)
       refine wl_region ?_
       refine mv_ rfl ?_
       refine st (.int .i64 (wrap64 (x965 + 1))) rfl rfl (xr_bin _ _ _ rfl rfl rfl (B.add_i64 _ _)) ?_
       refine as_ rfl ?_
       refine wl_end ?_
       (try simp only [ls0, ls1])
       exact jmpL (fun a_ h_ => ih976 k979 (by omega) a_ _ h_) (fun g_ => ⟨_, false, wrap64 (x965 + 1), g_, rfl, HS974, (by omega), HJ966, HJ967, HJ968, HJ969, HJ970, H⟩) rfl
      rw [if_neg c982] at H
      (try rw [(decide_eq_false c982)])
      refine wp_cond_false rfl ?_
      refine wp_exit ?_
      (try simp only [ls0, ls1])
      refine hK848 _ _ ?_
      (try clear hK848 K848)
      refine wp_seq_k fun K995 hK995 => ?_
      refine wl_region ?_
      refine mv_ rfl ?_
      refine wl_end ?_
      (try simp only [ls0, ls1])
      refine hK995 _ _ ?_
      (try clear hK995 K995)
      by_cases c996 : x964 = true
      ·rw [if_pos c996] at H
       (try rw [c996])
       refine wp_cond_true rfl ?_
       refine wp_seq_k fun K997 hK997 => ?_
       refine wl_region ?_
       refine mv_ rfl ?_
       refine as_ rfl ?_
       refine wl_end ?_
       (try simp only [ls0, ls1])
       refine hK997 _ _ ?_
       (try clear hK997 K997)
       refine wp_ret ?_
       (try simp only [Exit.inBlock, Exit.then, Exit.noGoto])
       (try simp only [ls0, ls1])
       obtain rfl := Option.some.inj H
       refine bodyPost_ret (results_tmp rfl _ _ _) rfl ?_
       exact ⟨_, rfl, HS974⟩
      rw [if_neg c996] at H
      (try rw [(Bool.eq_false_iff.mpr c996)])
      refine wp_cond_false rfl ?_
      refine wp_skip ?_
      (try simp only [ls0, ls1])
      refine hK846 _ _ ?_
      (try clear hK846 K846)
      refine wl_region ?_
      refine mv_ rfl ?_
      refine st (.int .i64 (wrap64 (x828 + 1))) rfl rfl (xr_bin _ _ _ rfl rfl rfl (B.add_i64 _ _)) ?_
      refine as_ rfl ?_
      refine wl_end ?_
      (try simp only [ls0, ls1])
      exact jmpL (fun a_ h_ => ih839 k979 (by omega) a_ _ h_) (fun g_ => ⟨_, wrap64 (x828 + 1), g_, rfl, HS974, (by omega), HJ966, HJ967, HJ968, HJ969, HJ970, H⟩) rfl
   rw [if_neg c845] at H
   (try rw [(decide_eq_false c845)])
   refine wp_cond_false rfl ?_
   refine wp_exit ?_
   (try simp only [ls0, ls1])
   refine hK506 _ _ ?_
   (try clear hK506 K506)
   refine wp_seq_k fun K998 hK998 => ?_
   refine wl_region ?_
   refine st (.int .i64 (-1)) rfl rfl (xr_assign _ rfl rfl) ?_
   refine wl_end ?_
   (try simp only [ls0, ls1])
   refine hK998 _ _ ?_
   (try clear hK998 K998)
   refine wp_ret ?_
   (try simp only [Exit.inBlock, Exit.then, Exit.noGoto])
   (try simp only [ls0, ls1])
   obtain rfl := Option.some.inj H
   refine bodyPost_ret (results_tmp rfl _ _ _) rfl ?_
   exact ⟨_, rfl, HS837⟩

/-! ### blazonref14_Lattice_JoinAll: function 20 -/
def blazonref14_Lattice_JoinAll.l0 : Nat → (List (List Int)) → (List Int) → Int → Int → Option (Int)
  | 0, _, _, _, _ => none
  | k + 1, l0_2, l1, x198, x199 => if x199 < (l1.length : Int) then (if 0 ≤ x199 then (if 0 ≤ x198 then (if x198 < (l0_2.length : Int) then (if 0 ≤ (rd l1 x199) then (if (rd l1 x199) < ((rd_L21 l0_2 x198).length : Int) then (blazonref14_Lattice_JoinAll.l0 k l0_2 l1 (rd (rd_L21 l0_2 x198) (rd l1 x199)) (wrap64 (x199 + 1))) else (none)) else (none)) else (none)) else (none)) else (none)) else (some x198)
def blazonref14_Lattice_JoinAll.f (k : Nat) (l0_0 : List ByteArray) (l0_1 : List (List Bool)) (l0_2 : List (List Int)) (l0_3 : List (List Int)) (l1 : List Int) : Option (Int) := (blazonref14_Lattice_Bottom.f k l0_0 l0_1 l0_2 l0_3).bind fun t127 => (blazonref14_Lattice_JoinAll.l0 k l0_2 l1 t127 0)

set_option maxHeartbeats 2000000 in
set_option maxRecDepth 100000 in
theorem blazonref14_Lattice_JoinAll.calls (k : Nat) (A0_0 : Option Addr) (c0_0 : Nat) (l0_0 : List ByteArray) (A0_1 : Option Addr) (c0_1 : Nat) (l0_1 : List (List Bool)) (A0_2 : Option Addr) (c0_2 : Nat) (l0_2 : List (List Int)) (A0_3 : Option Addr) (c0_3 : Nat) (l0_3 : List (List Int)) (A1 : Option Addr) (c1 : Nat) (l1 : List Int) (r : Int) (c : Nat → Nat) (w : World) (hc : ∀ k, c k < 10) (HP0_0 : Ft c [0] w (fun w_ => Kd.string.C w_ A0_0 l0_0.length l0_0)) (HCP0_0 : l0_0.length ≤ c0_0) (HP0_1 : Ft c [0] w (fun w_ => (Kd.slice 4 Kd.bool).C w_ A0_1 l0_1.length l0_1)) (HCP0_1 : l0_1.length ≤ c0_1) (HP0_2 : Ft c [0] w (fun w_ => (Kd.slice 3 (Kd.int .i64)).C w_ A0_2 l0_2.length l0_2)) (HCP0_2 : l0_2.length ≤ c0_2) (HP0_3 : Ft c [0] w (fun w_ => (Kd.slice 3 (Kd.int .i64)).C w_ A0_3 l0_3.length l0_3)) (HCP0_3 : l0_3.length ≤ c0_3) (HP1 : Ft c [0] w (fun w_ => (Kd.int .i64).C w_ A1 l1.length l1)) (HCP1 : l1.length ≤ c1) (H : blazonref14_Lattice_JoinAll.f k l0_0 l0_1 l0_2 l0_3 l1 = some r) :
    Calls Tryd.prog 20 #[.agg #[.slice A0_0 l0_0.length c0_0, .slice A0_1 l0_1.length c0_1, .slice A0_2 l0_2.length c0_2, .slice A0_3 l0_3.length c0_3], .slice A1 l1.length c1] w fun e w' => ∃ (c' : Nat → Nat) , e = .returned (.int .i64 r) ∧ Step c w c' w' [] := by
 unfold blazonref14_Lattice_JoinAll.f at H
 have HS := Step.refl c w []
 go_enter Tryd.func20, Tryd.ntmps20
 refine wp_seq_k fun K120 hK120 => ?_
 refine wl_region ?_
 refine bx_new (C := c) 41 ([.slice A0_0 l0_0.length c0_0, .slice A0_1 l0_1.length c0_1, .slice A0_2 l0_2.length c0_2, .slice A0_3 l0_3.length c0_3]) 11 rfl rfl (by first | (go_simp; done) | (go_simp; rfl)) ?_
 intro g121 w122 C123 HX124 hs125
 replace HP0_0 := HP0_0.thru hs125 rfl
 replace HP0_1 := HP0_1.thru hs125 rfl
 replace HP0_2 := HP0_2.thru hs125 rfl
 replace HP0_3 := HP0_3.thru hs125 rfl
 replace HP1 := HP1.thru hs125 rfl
 replace HS := HS.trans hs125 hc rfl
 (try simp only [ls0, ls1])
 refine st (.int .i64 0) rfl rfl (xr_assign _ rfl rfl) ?_
 refine wl_end ?_
 (try simp only [ls0, ls1])
 refine hK120 _ _ ?_
 (try clear hK120 K120)
 refine wp_seq_k fun K126 hK126 => ?_
 refine wl_region ?_
 refine st (.agg #[.slice A0_0 l0_0.length c0_0, .slice A0_1 l0_1.length c0_1, .slice A0_2 l0_2.length c0_2, .slice A0_3 l0_3.length c0_3]) rfl rfl (xr_load _ _ rfl rfl (load_agg (cs := [.slice A0_0 l0_0.length c0_0, .slice A0_1 l0_1.length c0_1, .slice A0_2 l0_2.length c0_2, .slice A0_3 l0_3.length c0_3]) Tryd.underlying41 rfl (by kernel_rfl) (bx_cells (HX124).2 0 rfl))) ?_
 obtain ⟨t127, A128, H⟩ := bnd H
 refine st_call #[.agg #[.slice A0_0 l0_0.length c0_0, .slice A0_1 l0_1.length c0_1, .slice A0_2 l0_2.length c0_2, .slice A0_3 l0_3.length c0_3]] rfl rfl Tryd.func29 (by kernel_rfl) rfl rfl (mp_ rfl) ?_
 refine (blazonref14_Lattice_Bottom.calls k A0_0 c0_0 l0_0 A0_1 c0_1 l0_1 A0_2 c0_2 l0_2 A0_3 c0_3 l0_3 t127  (fun z_ => pal [(0, 0)] (C123 z_)) w122 (fun _ => pal_lt rfl _) (Ft.arg HP0_0 rfl) HCP0_0 (Ft.arg HP0_1 rfl) HCP0_1 (Ft.arg HP0_2 rfl) HCP0_2 (Ft.arg HP0_3 rfl) HCP0_3 A128).mono ?_
 rintro _ w130 ⟨C131, rfl, hs132⟩
 refine ⟨_, rfl, ?_⟩
 replace hs132 := Step.lift (U := [(0, 0)]) hs132 [] rfl rfl
 generalize up C123 C131 w122.heap.size [(0, 0)] = C131_ at hs132
 replace HP0_0 := HP0_0.thru hs132 rfl
 replace HP0_1 := HP0_1.thru hs132 rfl
 replace HP0_2 := HP0_2.thru hs132 rfl
 replace HP0_3 := HP0_3.thru hs132 rfl
 replace HP1 := HP1.thru hs132 rfl
 replace HX124 := HX124.thru hs132 rfl
 replace HS := HS.trans hs132 hc rfl
 (try simp only [ls0, ls1])
 refine as_ rfl ?_
 refine wl_end ?_
 (try simp only [ls0, ls1])
 refine hK126 _ _ ?_
 (try clear hK126 K126)
 refine wp_seq_k fun K133 hK133 => ?_
 refine wp_seq_k fun K134 hK134 => ?_
 refine wl_region ?_
 refine st (.int .i64 0) rfl rfl (xr_assign _ rfl rfl) ?_
 refine wl_end ?_
 (try simp only [ls0, ls1])
 refine hK134 _ _ ?_
 (try clear hK134 K134)
 refine wp_block ?_
 (try simp only [ls0, ls1])
 refine wp_looped (looped_fin (fun kq207 a_ w206 => ∃ (C205 : Nat → Nat) (x198 : Int) (x199 : Int) (g_ : Nat → Value), a_ = ⟨#[(g_ 0), .slice A1 l1.length c1, .pointer (some ⟨g121, 0, none⟩), (g_ 3), (g_ 4), .int .i64 x198, .int .i64 x199, (g_ 7), (g_ 8), (g_ 9), (g_ 10), (g_ 11), (g_ 12), (g_ 13), (g_ 14), (g_ 15), (g_ 16), (g_ 17), (g_ 18), (g_ 19), (g_ 20), (g_ 21), (g_ 22), (g_ 23), (g_ 24), (g_ 25), (g_ 26)], []⟩ ∧ Step c w C205 w206 [] ∧ kq207 ≤ k ∧ (Ft C205 [0] w206 (fun w_ => (Kd.int .i64).C w_ A1 l1.length l1)) ∧ (Ft C205 [0] w206 (fun w_ => Kd.string.C w_ A0_0 l0_0.length l0_0)) ∧ (Ft C205 [0] w206 (fun w_ => (Kd.slice 4 Kd.bool).C w_ A0_1 l0_1.length l0_1)) ∧ (Ft C205 [0] w206 (fun w_ => (Kd.slice 3 (Kd.int .i64)).C w_ A0_2 l0_2.length l0_2)) ∧ (Ft C205 [0] w206 (fun w_ => (Kd.slice 3 (Kd.int .i64)).C w_ A0_3 l0_3.length l0_3)) ∧ (Bx C205 11 w206 g121 41 ([.slice A0_0 l0_0.length c0_0, .slice A0_1 l0_1.length c0_1, .slice A0_2 l0_2.length c0_2, .slice A0_3 l0_3.length c0_3])) ∧ blazonref14_Lattice_JoinAll.l0 kq207 l0_2 l1 x198 x199 = some r) ?step fun hL_ => ?init)
 case init =>
  exact jmpL (fun a_ h_ => hL_ k a_ _ h_) (fun g_ => ⟨_, t127, 0, g_, rfl, HS, Nat.le_refl _, HP1, HP0_0, HP0_1, HP0_2, HP0_3, HX124, H⟩) rfl
 case step =>
  intro kq207 ih210 a211 w206 hr212
  obtain ⟨C205, x198, x199, g_, rfl, HS208, hk209, HJ197, HJ200, HJ201, HJ202, HJ203, HJ204, H⟩ := hr212
  refine looped_round ?_
  cases kq207 with
  | zero => exact absurd H (by simp [blazonref14_Lattice_JoinAll.l0])
  | succ k213 =>
   simp only [blazonref14_Lattice_JoinAll.l0] at H
   refine wp_seq_k fun K214 hK214 => ?_
   refine wp_seq_k fun K215 hK215 => ?_
   refine wl_region ?_
   refine mv_ rfl ?_
   refine mv_ rfl ?_
   refine st (.int .i64 (l1.length : Int)) rfl rfl (xr_builtin #[.slice A1 l1.length c1] (.int .i64 (l1.length : Int)) rfl (mp_ rfl) (by first | rfl | (go_simp; done) | (go_simp; rfl) | (go_simp; exact i64_w _) | (go_simp; exact i32_w _))) ?_
   refine st (.bool (decide (x199 < (l1.length : Int)))) rfl rfl (xr_bin _ _ _ rfl rfl rfl (B.lss_i64 _ _)) ?_
   simp only [ls0, ls1]
   refine wl_end ?_
   (try simp only [ls0, ls1])
   refine hK215 _ _ ?_
   (try clear hK215 K215)
   by_cases c216 : x199 < (l1.length : Int)
   ·rw [if_pos c216] at H
    (try rw [(decide_eq_true c216)])
    refine wp_cond_true rfl ?_
    refine wp_skip ?_
    (try simp only [ls0, ls1])
    refine hK214 _ _ ?_
    (try clear hK214 K214)
    refine wp_seq_k fun K217 hK217 => ?_
    refine wp_block ?_
    have HQ218 := Ft.same C205 [0] w206
    have HQ219 := Ft.same C205 [0] w206
    have HQ220 := Ft.same C205 [0] w206
    (try simp only [ls0, ls1])
    refine al_start (lb 12 0) rfl rfl rfl (fun w_ => (Kd.int .i64).C w_ A1 l1.length l1 ∧ Kd.string.C w_ A0_0 l0_0.length l0_0 ∧ (Kd.slice 4 Kd.bool).C w_ A0_1 l0_1.length l0_1 ∧ (Kd.slice 3 (Kd.int .i64)).C w_ A0_2 l0_2.length l0_2 ∧ (Kd.slice 3 (Kd.int .i64)).C w_ A0_3 l0_3.length l0_3 ∧ w_.heap[g121]? = some (.cells (List.toArray ([.slice A0_0 l0_0.length c0_0, .slice A0_1 l0_1.length c0_1, .slice A0_2 l0_2.length c0_2, .slice A0_3 l0_3.length c0_3])) 41 (0, 0)) ∧ (∀ k_, C205 k_ ∈ [0] → k_ < (w206).drew.heap.size → w_.heap[k_]? = (w206).drew.heap[k_]?) ∧ (∀ k_, C205 k_ ∈ [0] → k_ < (w206).drew.heap.size → w_.heap[k_]? = (w206).drew.heap[k_]?) ∧ (∀ k_, C205 k_ ∈ [0] → k_ < (w206).drew.heap.size → w_.heap[k_]? = (w206).drew.heap[k_]?)) ⟨(Ft.now (HJ197).drew), (Ft.now (HJ200).drew), (Ft.now (HJ201).drew), (Ft.now (HJ202).drew), (Ft.now (HJ203).drew), (HJ204.drew).2, (Ft.now (HQ218.drew)), (Ft.now (HQ219.drew)), (Ft.now (HQ220.drew))⟩ [] ?_
    replace HJ197 := HJ197.drew
    replace HJ204 := HJ204.drew
    replace HJ200 := HJ200.drew
    replace HJ201 := HJ201.drew
    replace HJ202 := HJ202.drew
    replace HJ203 := HJ203.drew
    replace HQ218 := HQ218.drew
    replace HQ219 := HQ219.drew
    replace HQ220 := HQ220.drew
    replace HS208 := Step.ofDrew HS208
    replace HQ218 := Ft.same C205 [0] (w206.drew)
    replace HQ219 := Ft.same C205 [0] (w206.drew)
    replace HQ220 := Ft.same C205 [0] (w206.drew)
    generalize w206.drew = w221 at *
    have HZ222 := HJ201
    have HZ223 := HJ202
    have HZ224 := HJ203
    refine al_pure 0 15 (.pointer (some ⟨g121, 2, none⟩)) (lb 12 1) rfl rfl (by kernel_rfl) (fun _ _ _ => id) rfl (fun w_ => xr_fieldAddr _ _ rfl rfl (bx_field2 Tryd.underlying41 rfl rfl (by kernel_rfl))) ?_
    refine al_mv 2 (lb 12 5) rfl rfl (by kernel_rfl) (fun _ _ _ => id) rfl ?_
    refine al_mv 5 (lb 12 37) rfl rfl (by kernel_rfl) (fun _ _ _ => id) rfl ?_
    refine al_mv 6 (lb 12 101) rfl rfl (by kernel_rfl) (fun _ _ _ => id) rfl ?_
    simp only [ls0, ls1]
    obtain ⟨c225, H⟩ := if_some H
    obtain ⟨ad226, hA227⟩ := c_addr (Ft.now HJ197) (pos_of (j := x199) (by first | assumption | decide) (by first | assumption | omega))
    refine al_pure 7 22 (.pointer (some (ad226.add ((x199 : Int).toNat * 1)))) (lb 12 229) rfl rfl (by kernel_rfl) (fun _ _ _ => id) rfl (fun w_ => xr_indexAddr _ _ _ rfl rfl rfl (index_at Tryd.underlying23 info3 hA227 (by first | assumption | decide | omega) (by first | assumption | decide | omega))) ?_
    refine al_take 1 16 (.slice A0_2 l0_2.length c0_2) (lb 12 231) rfl rfl (by kernel_rfl) (fun _ _ _ => id) rfl (fun w_ hS_ => xr_load _ _ rfl rfl (load_cell Tryd.underlying39 rfl (bx_cell hS_.2.2.2.2.2.1 2 rfl))) ⟨(Ft.now HJ197), (Ft.now HJ200), (Ft.now HJ201), (Ft.now HJ202), (Ft.now HJ203), (HJ204).2, (Ft.now (HQ218)), (Ft.now (HQ219)), (Ft.now (HQ220))⟩ ?_
    obtain ⟨c228, H⟩ := if_some H
    obtain ⟨c229, H⟩ := if_some H
    obtain ⟨ad230, hA231⟩ := c_addr (Ft.now HJ202) (pos_of (j := x198) (by first | assumption | decide) (by first | assumption | omega))
    refine al_pure 3 18 (.pointer (some (ad230.add ((x198 : Int).toNat * 1)))) (lb 12 239) rfl rfl (by kernel_rfl) (fun _ _ _ => id) rfl (fun w_ => xr_indexAddr _ _ _ rfl rfl rfl (index_at Tryd.underlying39 info23 hA231 (by first | assumption | decide | omega) (by first | assumption | decide | omega))) ?_
    obtain ⟨csq233, _, hKq233, hcq233, hinq233⟩ := Ft.elem HJ202 hA231 [] x198 (by first | assumption | decide | omega) (by first | assumption | decide | omega) (by decide)
    obtain ⟨Aq233_0, cpq233_0, rfl, HCq233_0, HRq233_0⟩ := slice_openF hKq233
    replace HRq233_0 : Ft C205 [0] w221 (fun w_ => (Kd.int .i64).C w_ Aq233_0 (rd_L21 l0_2 x198).length (rd_L21 l0_2 x198)) := HRq233_0
    have HNq233 : Ft C205 [0] w221 (fun w_ => (Kd.int .i64).C w_ Aq233_0 (rd_L21 l0_2 x198).length (rd_L21 l0_2 x198)) := HRq233_0
    refine al_take 4 19 (.slice Aq233_0 (rd_L21 l0_2 x198).length cpq233_0) (lb 12 255) rfl rfl (by kernel_rfl) (fun _ _ _ => id) rfl (fun w_ hS_ => xr_load (.pointer (some (ad230.add ((x198 : Int).toNat * 1)))) (.slice Aq233_0 (rd_L21 l0_2 x198).length cpq233_0) rfl rfl (load_cell Tryd.underlying23 rfl (by have h_ := (same_cell hS_.2.2.2.2.2.2.2.1 hinq233 (add2_block _ _ _) (hcq233 0 _ rfl)); rw [add_zero_] at h_; exact h_))) ⟨(Ft.now HJ197), (Ft.now HJ200), (Ft.now HJ201), (Ft.now HJ202), (Ft.now HJ203), (HJ204).2, (Ft.now (HQ218)), (Ft.now (HQ219)), (Ft.now (HQ220))⟩ ?_
    simp only [ls0, ls1]
    refine al_take 8 23 (.int .i64 (rd l1 x199)) (lb 12 511) rfl rfl (by kernel_rfl) (fun _ _ _ => id) rfl (fun w_ hS_ => xr_load _ _ rfl rfl (load_int Tryd.underlying3 rfl hA227 hS_.1 (by first | assumption | decide | omega) (by first | assumption | decide | omega))) ⟨(Ft.now HJ197), (Ft.now HJ200), (Ft.now HJ201), (Ft.now HJ202), (Ft.now HJ203), (HJ204).2, (Ft.now (HQ218)), (Ft.now (HQ219)), (Ft.now (HQ220))⟩ ?_
    obtain ⟨c234, H⟩ := if_some H
    obtain ⟨c235, H⟩ := if_some H
    obtain ⟨ad236, hA237⟩ := c_addr (Ft.now HRq233_0) (pos_of (j := (rd l1 x199)) (by first | assumption | decide) (by first | assumption | omega))
    refine al_pure 9 24 (.pointer (some (ad236.add ((rd l1 x199 : Int).toNat * 1)))) (lb 12 1023) rfl rfl (by kernel_rfl) (fun _ _ _ => id) rfl (fun w_ => xr_indexAddr _ _ _ rfl rfl rfl (index_at Tryd.underlying23 info3 hA237 (by first | assumption | decide | omega) (by first | assumption | decide | omega))) ?_
    refine al_take 10 25 (.int .i64 (rd (rd_L21 l0_2 x198) (rd l1 x199))) (lb 12 2047) rfl rfl (by kernel_rfl) (fun _ _ _ => id) rfl (fun w_ hS_ => xr_load _ _ rfl rfl (load_int Tryd.underlying3 rfl hA237 (HNq233 _ (hS_.2.2.2.2.2.2.2.1)) (by first | assumption | decide | omega) (by first | assumption | decide | omega))) ⟨(Ft.now HJ197), (Ft.now HJ200), (Ft.now HJ201), (Ft.now HJ202), (Ft.now HJ203), (HJ204).2, (Ft.now (HQ218)), (Ft.now (HQ219)), (Ft.now (HQ220))⟩ ?_
    refine al_as 11 (lb 12 4095) rfl rfl (by kernel_rfl) (fun _ _ _ => id) rfl ?_
    simp only [ls0, ls1]
    refine al_end (by kernel_rfl) ?_
    (try simp only [ls0, ls1])
    refine hK217 _ _ ?_
    (try clear hK217 K217)
    refine wl_region ?_
    refine mv_ rfl ?_
    refine st (.int .i64 (wrap64 (x199 + 1))) rfl rfl (xr_bin _ _ _ rfl rfl rfl (B.add_i64 _ _)) ?_
    refine as_ rfl ?_
    refine wl_end ?_
    (try simp only [ls0, ls1])
    exact jmpL (fun a_ h_ => ih210 k213 (by omega) a_ _ h_) (fun g_ => ⟨_, rd (rd_L21 l0_2 x198) (rd l1 x199), wrap64 (x199 + 1), g_, rfl, HS208, (by omega), HJ197, HJ200, HJ201, HJ202, HJ203, HJ204, H⟩) rfl
   rw [if_neg c216] at H
   (try rw [(decide_eq_false c216)])
   refine wp_cond_false rfl ?_
   refine wp_exit ?_
   (try simp only [ls0, ls1])
   refine hK133 _ _ ?_
   (try clear hK133 K133)
   refine wp_seq_k fun K238 hK238 => ?_
   refine wl_region ?_
   refine mv_ rfl ?_
   refine as_ rfl ?_
   refine wl_end ?_
   (try simp only [ls0, ls1])
   refine hK238 _ _ ?_
   (try clear hK238 K238)
   refine wp_ret ?_
   (try simp only [Exit.inBlock, Exit.then, Exit.noGoto])
   (try simp only [ls0, ls1])
   obtain rfl := Option.some.inj H
   refine bodyPost_ret (results_tmp rfl _ _ _) rfl ?_
   exact ⟨_, rfl, HS208⟩

/-! ### blazonlaw14_LatticeAlls: function 3 -/
mutual
def blazonlaw14_LatticeAlls.j0 : Nat → (List Int) → (Option S107) → (List ByteArray) → (List (List Bool)) → (List (List Int)) → (List (List Int)) → Bool → Option (Bool)
  | 0, _, _, _, _, _, _, _ => none
  | k + 1, l1, t673, t686, t687, t688, t689, x1059 => if x1059 = true then (some false) else ((lattice_Lattice_JoinAll.f k t673 l1).bind fun t1076 => ((blazonref14_Lattice_JoinAll.f k t686 t687 t688 t689 l1).bind fun t1082 => (if t1076 = t1082 then ((blazonlaw14_awake.f k).bind fun t1089 => (some t1089)) else (some false))))
def blazonlaw14_LatticeAlls.l0 : Nat → Bool → (List Int) → (List ByteArray) → (Option S107) → (List ByteArray) → (List (List Bool)) → (List (List Int)) → (List (List Int)) → Bool → Int → Option (Bool)
  | 0, _, _, _, _, _, _, _, _, _, _ => none
  | k + 1, a2, l1, t647, t673, t686, t687, t688, t689, x916, x917 => if x917 < (l1.length : Int) then (if x916 = true then (if 0 ≤ x917 then (if (rd l1 x917) ≥ 0 then (blazonlaw14_LatticeAlls.l0 k a2 l1 t647 t673 t686 t687 t688 t689 (decide ((rd l1 x917) < (t647.length : Int))) (wrap64 (x917 + 1))) else (blazonlaw14_LatticeAlls.l0 k a2 l1 t647 t673 t686 t687 t688 t689 false (wrap64 (x917 + 1)))) else (none)) else (blazonlaw14_LatticeAlls.l0 k a2 l1 t647 t673 t686 t687 t688 t689 false (wrap64 (x917 + 1)))) else (if x916 = true then (if a2 = true then ((some ([(-1)] : List Int)).bind fun y1096 => (if y1096.length + l1.length < 17592186044416 then ((some (y1096 ++ l1 : List Int)).bind fun y1106 => ((lattice_Lattice_JoinAll.f k t673 y1106).bind fun t1115 => (blazonlaw14_LatticeAlls.j0 k l1 t673 t686 t687 t688 t689 (!decide (t1115 = (-1)))))) else (none))) else (blazonlaw14_LatticeAlls.j0 k l1 t673 t686 t687 t688 t689 false)) else ((lattice_Lattice_JoinAll.f k t673 l1).bind fun t1122 => (if t1122 = (-1) then ((blazonlaw14_awake.f k).bind fun t1129 => (some t1129)) else (some false))))
def blazonlaw14_LatticeAlls.j1 : Nat → Bool → (List Int) → (List ByteArray) → (Option S107) → (List ByteArray) → (List (List Bool)) → (List (List Int)) → (List (List Int)) → Bool → Option (Bool)
  | 0, _, _, _, _, _, _, _, _, _ => none
  | k + 1, a2, l1, t647, t673, t686, t687, t688, t689, x761 => if x761 = true then ((blazonlaw14_awake.f k).bind fun t776 => (some t776)) else (blazonlaw14_LatticeAlls.l0 k a2 l1 t647 t673 t686 t687 t688 t689 true 0)
def blazonlaw14_LatticeAlls.j2 : Nat → Bool → (List (S53)) → (List Int) → Bool → Option (Bool)
  | 0, _, _, _, _ => none
  | k + 1, a2, l0, l1, x622 => if x622 = true then ((blazonlaw14_awake.f k).bind fun t629 => (some t629)) else ((order_New.f k l0).bind fun bt636 => ((blazonref13_New.f k l0).bind fun bt647 => ((lattice_New.f k bt636.1).bind fun bt673 => ((blazonref14_New.f k bt647.1 bt647.2.1).bind fun bt686 => (if bt636.2.2 = 0 then (blazonlaw14_LatticeAlls.j1 k a2 l1 bt647.1 bt673.1 bt686.1 bt686.2.1 bt686.2.2.1 bt686.2.2.2.1 (!decide (bt673.2.2.2 = 0))) else (blazonlaw14_LatticeAlls.j1 k a2 l1 bt647.1 bt673.1 bt686.1 bt686.2.1 bt686.2.2.1 bt686.2.2.2.1 true))))))
end
def blazonlaw14_LatticeAlls.f (k : Nat) (l0 : List (S53)) (l1 : List Int) (a2 : Bool) : Option (Bool) := (blazonref13_Great.f k l0 12).bind fun t1136 => (if t1136 = true then (blazonlaw14_LatticeAlls.j2 k a2 l0 l1 true) else (blazonlaw14_LatticeAlls.j2 k a2 l0 l1 (decide ((l1.length : Int) > 60))))

set_option maxHeartbeats 2000000 in
set_option maxRecDepth 100000 in
theorem blazonlaw14_LatticeAlls.calls (k : Nat) (A0 : Option Addr) (c0 : Nat) (l0 : List (S53)) (A1 : Option Addr) (c1 : Nat) (l1 : List Int) (a2 : Bool) (r : Bool) (c : Nat → Nat) (w : World) (hc : ∀ k, c k < 10) (HG : Ft c [0] w GTab) (HP0 : Ft c [0] w (fun w_ => k53.C w_ A0 l0.length l0)) (HCP0 : l0.length ≤ c0) (HP1 : Ft c [0] w (fun w_ => (Kd.int .i64).C w_ A1 l1.length l1)) (HCP1 : l1.length ≤ c1) (H : blazonlaw14_LatticeAlls.f k l0 l1 a2 = some r) :
    Calls Tryd.prog 3 #[.slice A0 l0.length c0, .slice A1 l1.length c1, .bool a2] w fun e w' => ∃ (c' : Nat → Nat) , e = .returned (.bool r) ∧ Step c w c' w' [] := by
 unfold blazonlaw14_LatticeAlls.f at H
 have HS := Step.refl c w []
 go_enter Tryd.func3, Tryd.ntmps3
 refine wp_seq_k fun K572 hK572 => ?_
 refine wl_region ?_
 refine st (.bool false) rfl rfl (xr_assign _ rfl rfl) ?_
 refine wl_end ?_
 (try simp only [ls0, ls1])
 refine hK572 _ _ ?_
 (try clear hK572 K572)
 refine wp_seq_k fun K573 hK573 => ?_
 refine wp_seq_k fun K608 hK608 => ?_
 have hj616 : ∀ (kq624 : Nat) (C617 : Nat → Nat) (w618 : World) (x622 : Bool) (g_ : Nat → Value), Step c w C617 w618 [] → kq624 ≤ k → (Ft C617 [0] w618 (fun w_ => k53.C w_ A0 l0.length l0)) → (Ft C617 [0] w618 (fun w_ => (Kd.int .i64).C w_ A1 l1.length l1)) → (Ft C617 [0] w618 GTab) → blazonlaw14_LatticeAlls.j2 kq624 a2 l0 l1 x622 = some r → K608 ⟨#[.slice A0 l0.length c0, .slice A1 l1.length c1, .bool a2, (g_ 3), (g_ 4), (g_ 5), (g_ 6), (g_ 7), (g_ 8), (g_ 9), (g_ 10), (g_ 11), (g_ 12), (g_ 13), (g_ 14), (g_ 15), (g_ 16), (g_ 17), (g_ 18), (g_ 19), (g_ 20), (g_ 21), (g_ 22), (g_ 23), (g_ 24), (g_ 25), (g_ 26), (g_ 27), (g_ 28), .bool x622, (g_ 30), (g_ 31), (g_ 32), (g_ 33), (g_ 34), (g_ 35), (g_ 36), (g_ 37), (g_ 38), (g_ 39), (g_ 40), (g_ 41), (g_ 42), (g_ 43), (g_ 44), (g_ 45), (g_ 46), (g_ 47), (g_ 48), (g_ 49), (g_ 50), (g_ 51), (g_ 52), (g_ 53), (g_ 54), (g_ 55), (g_ 56), (g_ 57), (g_ 58), (g_ 59), (g_ 60), (g_ 61), (g_ 62), (g_ 63), (g_ 64), (g_ 65), (g_ 66), (g_ 67), (g_ 68), (g_ 69), (g_ 70), (g_ 71), (g_ 72), (g_ 73), (g_ 74), (g_ 75), (g_ 76), (g_ 77), (g_ 78), (g_ 79), (g_ 80), (g_ 81), (g_ 82), (g_ 83), (g_ 84), (g_ 85), (g_ 86), (g_ 87), (g_ 88), (g_ 89), (g_ 90), (g_ 91), (g_ 92), (g_ 93), (g_ 94), (g_ 95), (g_ 96), (g_ 97), (g_ 98), (g_ 99), (g_ 100), (g_ 101), (g_ 102), (g_ 103), (g_ 104), (g_ 105), (g_ 106), (g_ 107), (g_ 108), (g_ 109), (g_ 110), (g_ 111), (g_ 112), (g_ 113), (g_ 114), (g_ 115)], []⟩ w618 := by
  intro kq624 C617 w618 x622 g_ HS619 hk625 HJ620 HJ621 HG623 H
  cases kq624 with
  | zero => exact absurd H (by simp [blazonlaw14_LatticeAlls.j2])
  | succ k626 =>
   simp only [blazonlaw14_LatticeAlls.j2] at H
   refine hK608 _ _ ?_
   (try clear hK608)
   by_cases c627 : x622 = true
   ·rw [if_pos c627] at H
    (try rw [c627])
    refine wp_cond_true rfl ?_
    refine wp_seq_k fun K628 hK628 => ?_
    refine wl_region ?_
    obtain ⟨t629, A630, H⟩ := bnd H
    refine st_call #[] rfl rfl Tryd.func14 (by kernel_rfl) rfl rfl (mp_ rfl) ?_
    refine (blazonlaw14_awake.calls k626 t629  (fun z_ => pal [(0, 0)] (C617 z_)) w618 (fun _ => pal_lt rfl _) (Ft.arg HG623 rfl) A630).mono ?_
    rintro _ w632 ⟨C633, rfl, hs634⟩
    refine ⟨_, rfl, ?_⟩
    replace hs634 := Step.lift (U := [(0, 0)]) hs634 [] rfl rfl
    generalize up C617 C633 w618.heap.size [(0, 0)] = C633_ at hs634
    replace HG623 := HG623.thru hs634 rfl
    replace HS619 := HS619.trans hs634 hc rfl
    (try simp only [ls0, ls1])
    refine as_ rfl ?_
    refine wl_end ?_
    (try simp only [ls0, ls1])
    refine hK628 _ _ ?_
    (try clear hK628 K628)
    refine wp_ret ?_
    (try simp only [Exit.inBlock, Exit.then, Exit.noGoto])
    (try simp only [ls0, ls1])
    obtain rfl := Option.some.inj H
    refine bodyPost_ret (results_tmp rfl _ _ _) rfl ?_
    exact ⟨_, rfl, HS619⟩
   rw [if_neg c627] at H
   (try rw [(Bool.eq_false_iff.mpr c627)])
   refine wp_cond_false rfl ?_
   refine wp_skip ?_
   (try simp only [ls0, ls1])
   refine hK573 _ _ ?_
   (try clear hK573 K573)
   refine wp_seq_k fun K635 hK635 => ?_
   refine wl_region ?_
   refine mv_ rfl ?_
   obtain ⟨⟨t636, t637, t638⟩, A639, H⟩ := bnd H
   (try dsimp only at H)
   refine st_call #[.slice A0 l0.length c0] rfl rfl Tryd.func15 (by kernel_rfl) rfl rfl (mp_ rfl) ?_
   refine (order_New.calls k626 A0 c0 l0 t636 t637 t638  (fun z_ => pal [(0, 0)] (C617 z_)) w618 (fun _ => pal_lt rfl _) (Ft.arg HJ620 rfl) HCP0 A639).mono ?_
   rintro _ w641 ⟨C642, v644, rfl, hs643, HB645⟩
   refine ⟨_, rfl, ?_⟩
   replace HB645 := Ft.res (U := [(0, 0)]) HB645 hs643 [0] rfl rfl rfl
   replace hs643 := Step.lift (U := [(0, 0)]) hs643 [] rfl rfl
   generalize up C617 C642 w618.heap.size [(0, 0)] = C642_ at HB645 hs643
   replace HJ620 := HJ620.thru hs643 rfl
   replace HJ621 := HJ621.thru hs643 rfl
   replace HG623 := HG623.thru hs643 rfl
   replace HS619 := HS619.trans hs643 hc rfl
   (try simp only [ls0, ls1])
   refine mv_ rfl ?_
   refine st (v644) rfl rfl (xr_extract (.tuple #[v644, .int .i64 t637, .int .i64 t638]) _ rfl rfl rfl) ?_
   refine st (.int .i64 t637) rfl rfl (xr_extract (.tuple #[v644, .int .i64 t637, .int .i64 t638]) _ rfl rfl rfl) ?_
   refine st (.int .i64 t638) rfl rfl (xr_extract (.tuple #[v644, .int .i64 t637, .int .i64 t638]) _ rfl rfl rfl) ?_
   simp only [ls0, ls1]
   refine as_ rfl ?_
   refine as_ rfl ?_
   refine as_ rfl ?_
   refine wl_end ?_
   (try simp only [ls0, ls1])
   refine hK635 _ _ ?_
   (try clear hK635 K635)
   refine wp_seq_k fun K646 hK646 => ?_
   refine wl_region ?_
   refine mv_ rfl ?_
   obtain ⟨⟨t647, t648, t649, t650⟩, A651, H⟩ := bnd H
   (try dsimp only at H)
   refine st_call #[.slice A0 l0.length c0] rfl rfl Tryd.func16 (by kernel_rfl) rfl rfl (mp_ rfl) ?_
   refine (blazonref13_New.calls k626 A0 c0 l0 t647 t648 t649 t650  (fun z_ => pal [(0, 0)] (C642_ z_)) w641 (fun _ => pal_lt rfl _) (Ft.arg HJ620 rfl) HCP0 A651).mono ?_
   rintro _ w653 ⟨C654, A656, cp657, A660, cp661, rfl, hs655, HO658, HC659, HO662, HC663⟩
   refine ⟨_, rfl, ?_⟩
   replace HO658 := Ft.res (U := [(0, 0), (6, 11)]) HO658 hs655 [0] rfl rfl rfl
   replace HO662 := Own.res (U := [(0, 0), (6, 11)]) (j := 11) HO662 hs655 (by rfl) (by decide) rfl rfl
   replace hs655 := Step.lift (U := [(0, 0), (6, 11)]) hs655 [] rfl rfl
   generalize up C642_ C654 w641.heap.size [(0, 0), (6, 11)] = C654_ at HO658 HO662 hs655
   replace HJ621 := HJ621.thru hs655 rfl
   replace HG623 := HG623.thru hs655 rfl
   replace HB645 := HB645.thru hs655 rfl
   replace HS619 := HS619.trans hs655 hc rfl
   (try simp only [ls0, ls1])
   refine mv_ rfl ?_
   refine st (.agg #[.slice A656 t647.length cp657, .slice A660 t648.length cp661]) rfl rfl (xr_extract (.tuple #[.agg #[.slice A656 t647.length cp657, .slice A660 t648.length cp661], .int .i64 t649, .int .i64 t650]) _ rfl rfl rfl) ?_
   refine st (.int .i64 t649) rfl rfl (xr_extract (.tuple #[.agg #[.slice A656 t647.length cp657, .slice A660 t648.length cp661], .int .i64 t649, .int .i64 t650]) _ rfl rfl rfl) ?_
   refine st (.int .i64 t650) rfl rfl (xr_extract (.tuple #[.agg #[.slice A656 t647.length cp657, .slice A660 t648.length cp661], .int .i64 t649, .int .i64 t650]) _ rfl rfl rfl) ?_
   simp only [ls0, ls1]
   refine bx_new (C := C654_) 33 ([.slice none 0 0, .slice none 0 0]) 12 rfl rfl (by first | (go_simp; done) | (go_simp; rfl)) ?_
   intro g664 w665 C666 HX667 hs668
   replace HJ621 := HJ621.thru hs668 rfl
   replace HG623 := HG623.thru hs668 rfl
   replace HB645 := HB645.thru hs668 rfl
   replace HO658 := HO658.thru hs668 rfl
   replace HO662 := HO662.thru hs668 rfl
   replace HS619 := HS619.trans hs668 hc rfl
   (try simp only [ls0, ls1])
   refine bx_store (C := C666) (z := 12) (g := g664) (j := 0) (tb := 33) (u := .agg #[.slice A656 t647.length cp657, .slice A660 t648.length cp661]) (seg := [.slice A656 t647.length cp657, .slice A660 t648.length cp661]) (xs := [.slice none 0 0, .slice none 0 0]) rfl rfl rfl rfl rfl rfl (by first | kernel_rfl | rfl) (by simp [Value.oneCell']) HX667 (by simp only [List.length_cons, List.length_nil]; omega) rfl ?_
   intro w669 HX670 hs671
   replace HJ621 := HJ621.thru hs671 rfl
   replace HG623 := HG623.thru hs671 rfl
   replace HB645 := HB645.thru hs671 rfl
   replace HO658 := HO658.thru hs671 rfl
   replace HO662 := HO662.thru hs671 rfl
   replace HS619 := HS619.trans hs671 hc rfl
   (try simp only [ls0, ls1])
   refine as_ rfl ?_
   refine as_ rfl ?_
   refine wl_end ?_
   (try simp only [ls0, ls1])
   refine hK646 _ _ ?_
   (try clear hK646 K646)
   refine wp_seq_k fun K672 hK672 => ?_
   refine wl_region ?_
   refine mv_ rfl ?_
   obtain ⟨⟨t673, t674, t675, t676⟩, A677, H⟩ := bnd H
   (try dsimp only at H)
   refine st_call #[v644] rfl rfl Tryd.func17 (by kernel_rfl) rfl rfl (mp_ rfl) ?_
   refine (lattice_New.calls k626 v644 t636 t673 t674 t675 t676  (fun z_ => pal [(0, 0)] (C666 z_)) w669 (fun _ => pal_lt rfl _) (Ft.arg HG623 rfl) (Ft.arg HB645 rfl) A677).mono ?_
   rintro _ w679 ⟨C680, v682, rfl, hs681, HB683⟩
   refine ⟨_, rfl, ?_⟩
   replace HB683 := OwnPt.res (U := [(0, 0), (5, 13)]) (j := 13) HB683 hs681 (by rfl) (by rfl) (by decide) rfl rfl
   replace hs681 := Step.lift (U := [(0, 0), (5, 13)]) hs681 [] rfl rfl
   generalize up C666 C680 w669.heap.size [(0, 0), (5, 13)] = C680_ at HB683 hs681
   replace HJ621 := HJ621.thru hs681 rfl
   replace HG623 := HG623.thru hs681 rfl
   replace HO658 := HO658.thru hs681 rfl
   replace HO662 := HO662.thru hs681 rfl
   replace HX670 := HX670.thru hs681 rfl
   replace HS619 := HS619.trans hs681 hc rfl
   (try simp only [ls0, ls1])
   refine mv_ rfl ?_
   refine st (v682) rfl rfl (xr_extract (.tuple #[v682, .int .i64 t674, .int .i64 t675, .int .i64 t676]) _ rfl rfl rfl) ?_
   refine st (.int .i64 t674) rfl rfl (xr_extract (.tuple #[v682, .int .i64 t674, .int .i64 t675, .int .i64 t676]) _ rfl rfl rfl) ?_
   refine st (.int .i64 t675) rfl rfl (xr_extract (.tuple #[v682, .int .i64 t674, .int .i64 t675, .int .i64 t676]) _ rfl rfl rfl) ?_
   simp only [ls0, ls1]
   refine st (.int .i64 t676) rfl rfl (xr_extract (.tuple #[v682, .int .i64 t674, .int .i64 t675, .int .i64 t676]) _ rfl rfl rfl) ?_
   refine as_ rfl ?_
   refine as_ rfl ?_
   refine as_ rfl ?_
   simp only [ls0, ls1]
   refine as_ rfl ?_
   refine wl_end ?_
   (try simp only [ls0, ls1])
   refine hK672 _ _ ?_
   (try clear hK672 K672)
   refine wp_seq_k fun K684 hK684 => ?_
   refine wl_region ?_
   refine st (.agg #[.slice A656 t647.length cp657, .slice A660 t648.length cp661]) rfl rfl (xr_load _ _ rfl rfl (load_agg (cs := [.slice A656 t647.length cp657, .slice A660 t648.length cp661]) Tryd.underlying33 rfl (by kernel_rfl) (bx_cells (HX670).2 0 rfl))) ?_
   replace HJ621 := Ft.recol (a := 11) (b := 0) HJ621 (.inl rfl)
   replace HG623 := Ft.recol (a := 11) (b := 0) HG623 (.inl rfl)
   replace HO658 := Ft.recol (a := 11) (b := 0) HO658 (.inl rfl)
   have HR685 := Ft.recolor (a := 11) (b := 0) (HO662.ft) [0] rfl
   replace HX670 := Bx.recol (a := 11) (b := 0) HX670 (by decide)
   replace HB683 := OwnPt.recol (a := 11) (b := 0) HB683 (by decide) (by decide)
   replace HS619 := Step.recol (a := 11) (b := 0) HS619 hc (by decide)
   obtain ⟨⟨t686, t687, t688, t689, t690, t691, t692⟩, A693, H⟩ := bnd H
   (try dsimp only at H)
   refine st_call #[.agg #[.slice A656 t647.length cp657, .slice A660 t648.length cp661]] rfl rfl Tryd.func18 (by kernel_rfl) rfl rfl (mp_ rfl) ?_
   refine (blazonref14_New.calls k626 A656 cp657 t647 A660 cp661 t648 t686 t687 t688 t689 t690 t691 t692  (fun z_ => pal [(0, 0)] ((recol C680_ 11 0) z_)) w679 (fun _ => pal_lt rfl _) (Ft.arg HO658 rfl) HC659 (Ft.arg HR685 rfl) HC663 A693).mono ?_
   rintro _ w695 ⟨C696, A698, cp699, A702, cp703, A706, cp707, A710, cp711, rfl, hs697, HO700, HC701, HO704, HC705, HO708, HC709, HO712, HC713⟩
   refine ⟨_, rfl, ?_⟩
   replace HO700 := Ft.res (U := [(0, 0), (7, 14), (8, 15)]) HO700 hs697 [0] rfl rfl rfl
   replace HO704 := Ft.res (U := [(0, 0), (7, 14), (8, 15)]) HO704 hs697 [0] rfl rfl rfl
   replace HO708 := Own.res (U := [(0, 0), (7, 14), (8, 15)]) (j := 14) HO708 hs697 (by rfl) (by decide) rfl rfl
   replace HO712 := Own.res (U := [(0, 0), (7, 14), (8, 15)]) (j := 15) HO712 hs697 (by rfl) (by decide) rfl rfl
   replace hs697 := Step.lift (U := [(0, 0), (7, 14), (8, 15)]) hs697 [] rfl rfl
   generalize up (recol C680_ 11 0) C696 w679.heap.size [(0, 0), (7, 14), (8, 15)] = C696_ at HO700 HO704 HO708 HO712 hs697
   replace HJ621 := HJ621.thru hs697 rfl
   replace HG623 := HG623.thru hs697 rfl
   replace HO658 := HO658.thru hs697 rfl
   replace HR685 := HR685.thru hs697 rfl
   replace HX670 := HX670.thru hs697 rfl
   replace HB683 := HB683.thru hs697 rfl
   replace HS619 := HS619.trans hs697 hc rfl
   (try simp only [ls0, ls1])
   refine mv_ rfl ?_
   refine st (.agg #[.slice A698 t686.length cp699, .slice A702 t687.length cp703, .slice A706 t688.length cp707, .slice A710 t689.length cp711]) rfl rfl (xr_extract (.tuple #[.agg #[.slice A698 t686.length cp699, .slice A702 t687.length cp703, .slice A706 t688.length cp707, .slice A710 t689.length cp711], .int .i64 t690, .int .i64 t691, .int .i64 t692]) _ rfl rfl rfl) ?_
   refine st (.int .i64 t690) rfl rfl (xr_extract (.tuple #[.agg #[.slice A698 t686.length cp699, .slice A702 t687.length cp703, .slice A706 t688.length cp707, .slice A710 t689.length cp711], .int .i64 t690, .int .i64 t691, .int .i64 t692]) _ rfl rfl rfl) ?_
   refine st (.int .i64 t691) rfl rfl (xr_extract (.tuple #[.agg #[.slice A698 t686.length cp699, .slice A702 t687.length cp703, .slice A706 t688.length cp707, .slice A710 t689.length cp711], .int .i64 t690, .int .i64 t691, .int .i64 t692]) _ rfl rfl rfl) ?_
   simp only [ls0, ls1]
   refine st (.int .i64 t692) rfl rfl (xr_extract (.tuple #[.agg #[.slice A698 t686.length cp699, .slice A702 t687.length cp703, .slice A706 t688.length cp707, .slice A710 t689.length cp711], .int .i64 t690, .int .i64 t691, .int .i64 t692]) _ rfl rfl rfl) ?_
   refine bx_new (C := C696_) 41 ([.slice none 0 0, .slice none 0 0, .slice none 0 0, .slice none 0 0]) 16 rfl rfl (by first | (go_simp; done) | (go_simp; rfl)) ?_
   intro g714 w715 C716 HX717 hs718
   replace HJ621 := HJ621.thru hs718 rfl
   replace HG623 := HG623.thru hs718 rfl
   replace HO658 := HO658.thru hs718 rfl
   replace HR685 := HR685.thru hs718 rfl
   replace HX670 := HX670.thru hs718 rfl
   replace HB683 := HB683.thru hs718 rfl
   replace HO700 := HO700.thru hs718 rfl
   replace HO704 := HO704.thru hs718 rfl
   replace HO708 := HO708.thru hs718 rfl
   replace HO712 := HO712.thru hs718 rfl
   replace HS619 := HS619.trans hs718 hc rfl
   (try simp only [ls0, ls1])
   refine bx_store (C := C716) (z := 16) (g := g714) (j := 0) (tb := 41) (u := .agg #[.slice A698 t686.length cp699, .slice A702 t687.length cp703, .slice A706 t688.length cp707, .slice A710 t689.length cp711]) (seg := [.slice A698 t686.length cp699, .slice A702 t687.length cp703, .slice A706 t688.length cp707, .slice A710 t689.length cp711]) (xs := [.slice none 0 0, .slice none 0 0, .slice none 0 0, .slice none 0 0]) rfl rfl rfl rfl rfl rfl (by first | kernel_rfl | rfl) (by simp [Value.oneCell']) HX717 (by simp only [List.length_cons, List.length_nil]; omega) rfl ?_
   intro w719 HX720 hs721
   replace HJ621 := HJ621.thru hs721 rfl
   replace HG623 := HG623.thru hs721 rfl
   replace HO658 := HO658.thru hs721 rfl
   replace HR685 := HR685.thru hs721 rfl
   replace HX670 := HX670.thru hs721 rfl
   replace HB683 := HB683.thru hs721 rfl
   replace HO700 := HO700.thru hs721 rfl
   replace HO704 := HO704.thru hs721 rfl
   replace HO708 := HO708.thru hs721 rfl
   replace HO712 := HO712.thru hs721 rfl
   replace HS619 := HS619.trans hs721 hc rfl
   (try simp only [ls0, ls1])
   refine as_ rfl ?_
   refine as_ rfl ?_
   refine as_ rfl ?_
   refine wl_end ?_
   (try simp only [ls0, ls1])
   refine hK684 _ _ ?_
   (try clear hK684 K684)
   refine wp_seq_k fun K722 hK722 => ?_
   refine wp_seq_k fun K753 hK753 => ?_
   have hj755 : ∀ (kq771 : Nat) (C756 : Nat → Nat) (w757 : World) (x761 : Bool) (g_ : Nat → Value), Step c w C756 w757 [] → kq771 ≤ k626 → (Ft C756 [0] w757 (fun w_ => (Kd.int .i64).C w_ A1 l1.length l1)) → (OwnPt C756 13 w757 107 k107 v682 t673) → (Ft C756 [0] w757 (fun w_ => Kd.string.C w_ A656 t647.length t647)) → (Ft C756 [0] w757 (fun w_ => (Kd.slice 4 Kd.bool).C w_ A660 t648.length t648)) → (Bx C756 12 w757 g664 33 ([.slice A656 t647.length cp657, .slice A660 t648.length cp661])) → (Ft C756 [0] w757 (fun w_ => Kd.string.C w_ A698 t686.length t686)) → (Ft C756 [0] w757 (fun w_ => (Kd.slice 4 Kd.bool).C w_ A702 t687.length t687)) → (Own C756 14 w757 (Kd.slice 3 (Kd.int .i64)) 23 (.slice A706 t688.length cp707) t688) → (Own C756 15 w757 (Kd.slice 3 (Kd.int .i64)) 23 (.slice A710 t689.length cp711) t689) → (Bx C756 16 w757 g714 41 ([.slice A698 t686.length cp699, .slice A702 t687.length cp703, .slice A706 t688.length cp707, .slice A710 t689.length cp711])) → (Ft C756 [0] w757 GTab) → blazonlaw14_LatticeAlls.j1 kq771 a2 l1 t647 t673 t686 t687 t688 t689 x761 = some r → K753 ⟨#[(g_ 0), .slice A1 l1.length c1, .bool a2, (g_ 3), (g_ 4), (g_ 5), (g_ 6), (g_ 7), (g_ 8), (g_ 9), .pointer (some ⟨g664, 0, none⟩), (g_ 11), (g_ 12), v682, (g_ 14), (g_ 15), (g_ 16), .pointer (some ⟨g714, 0, none⟩), (g_ 18), (g_ 19), (g_ 20), (g_ 21), (g_ 22), (g_ 23), (g_ 24), (g_ 25), (g_ 26), (g_ 27), (g_ 28), (g_ 29), (g_ 30), (g_ 31), (g_ 32), (g_ 33), (g_ 34), (g_ 35), (g_ 36), (g_ 37), (g_ 38), (g_ 39), (g_ 40), (g_ 41), (g_ 42), (g_ 43), (g_ 44), (g_ 45), (g_ 46), (g_ 47), (g_ 48), (g_ 49), (g_ 50), (g_ 51), (g_ 52), (g_ 53), (g_ 54), (g_ 55), (g_ 56), (g_ 57), (g_ 58), (g_ 59), (g_ 60), (g_ 61), .bool x761, (g_ 63), (g_ 64), (g_ 65), (g_ 66), (g_ 67), (g_ 68), (g_ 69), (g_ 70), (g_ 71), (g_ 72), (g_ 73), (g_ 74), (g_ 75), (g_ 76), (g_ 77), (g_ 78), (g_ 79), (g_ 80), (g_ 81), (g_ 82), (g_ 83), (g_ 84), (g_ 85), (g_ 86), (g_ 87), (g_ 88), (g_ 89), (g_ 90), (g_ 91), (g_ 92), (g_ 93), (g_ 94), (g_ 95), (g_ 96), (g_ 97), (g_ 98), (g_ 99), (g_ 100), (g_ 101), (g_ 102), (g_ 103), (g_ 104), (g_ 105), (g_ 106), (g_ 107), (g_ 108), (g_ 109), (g_ 110), (g_ 111), (g_ 112), (g_ 113), (g_ 114), (g_ 115)], []⟩ w757 := by
    intro kq771 C756 w757 x761 g_ HS758 hk772 HJ759 HJ760 HJ762 HJ763 HJ764 HJ765 HJ766 HJ767 HJ768 HJ769 HG770 H
    cases kq771 with
    | zero => exact absurd H (by simp [blazonlaw14_LatticeAlls.j1])
    | succ k773 =>
     simp only [blazonlaw14_LatticeAlls.j1] at H
     refine hK753 _ _ ?_
     (try clear hK753)
     by_cases c774 : x761 = true
     ·rw [if_pos c774] at H
      (try rw [c774])
      refine wp_cond_true rfl ?_
      refine wp_seq_k fun K775 hK775 => ?_
      refine wl_region ?_
      obtain ⟨t776, A777, H⟩ := bnd H
      refine st_call #[] rfl rfl Tryd.func14 (by kernel_rfl) rfl rfl (mp_ rfl) ?_
      refine (blazonlaw14_awake.calls k773 t776  (fun z_ => pal [(0, 0)] (C756 z_)) w757 (fun _ => pal_lt rfl _) (Ft.arg HG770 rfl) A777).mono ?_
      rintro _ w779 ⟨C780, rfl, hs781⟩
      refine ⟨_, rfl, ?_⟩
      replace hs781 := Step.lift (U := [(0, 0)]) hs781 [] rfl rfl
      generalize up C756 C780 w757.heap.size [(0, 0)] = C780_ at hs781
      replace HJ764 := HJ764.thru hs781 rfl
      replace HJ762 := HJ762.thru hs781 rfl
      replace HJ763 := HJ763.thru hs781 rfl
      replace HJ769 := HJ769.thru hs781 rfl
      replace HJ765 := HJ765.thru hs781 rfl
      replace HJ766 := HJ766.thru hs781 rfl
      replace HJ767 := HJ767.thru hs781 rfl
      replace HJ768 := HJ768.thru hs781 rfl
      replace HG770 := HG770.thru hs781 rfl
      replace HS758 := HS758.trans hs781 hc rfl
      (try simp only [ls0, ls1])
      refine as_ rfl ?_
      refine wl_end ?_
      (try simp only [ls0, ls1])
      refine hK775 _ _ ?_
      (try clear hK775 K775)
      refine wp_ret ?_
      (try simp only [Exit.inBlock, Exit.then, Exit.noGoto])
      (try simp only [ls0, ls1])
      obtain rfl := Option.some.inj H
      refine bodyPost_ret (results_tmp rfl _ _ _) rfl ?_
      exact ⟨_, rfl, HS758⟩
     rw [if_neg c774] at H
     (try rw [(Bool.eq_false_iff.mpr c774)])
     refine wp_cond_false rfl ?_
     refine wp_skip ?_
     (try simp only [ls0, ls1])
     refine hK722 _ _ ?_
     (try clear hK722 K722)
     refine wp_seq_k fun K782 hK782 => ?_
     refine wl_region ?_
     refine st (.bool true) rfl rfl (xr_assign _ rfl rfl) ?_
     refine wl_end ?_
     (try simp only [ls0, ls1])
     refine hK782 _ _ ?_
     (try clear hK782 K782)
     refine wp_seq_k fun K783 hK783 => ?_
     refine wp_seq_k fun K866 hK866 => ?_
     refine wl_region ?_
     refine st (.int .i64 0) rfl rfl (xr_assign _ rfl rfl) ?_
     refine wl_end ?_
     (try simp only [ls0, ls1])
     refine hK866 _ _ ?_
     (try clear hK866 K866)
     refine wp_block ?_
     (try simp only [ls0, ls1])
     refine wp_looped (looped_fin (fun kq929 a_ w928 => ∃ (C927 : Nat → Nat) (x916 : Bool) (x917 : Int) (g_ : Nat → Value), a_ = ⟨#[(g_ 0), .slice A1 l1.length c1, .bool a2, (g_ 3), (g_ 4), (g_ 5), (g_ 6), (g_ 7), (g_ 8), (g_ 9), .pointer (some ⟨g664, 0, none⟩), (g_ 11), (g_ 12), v682, (g_ 14), (g_ 15), (g_ 16), .pointer (some ⟨g714, 0, none⟩), (g_ 18), (g_ 19), (g_ 20), .bool x916, .int .i64 x917, (g_ 23), (g_ 24), (g_ 25), (g_ 26), (g_ 27), (g_ 28), (g_ 29), (g_ 30), (g_ 31), (g_ 32), (g_ 33), (g_ 34), (g_ 35), (g_ 36), (g_ 37), (g_ 38), (g_ 39), (g_ 40), (g_ 41), (g_ 42), (g_ 43), (g_ 44), (g_ 45), (g_ 46), (g_ 47), (g_ 48), (g_ 49), (g_ 50), (g_ 51), (g_ 52), (g_ 53), (g_ 54), (g_ 55), (g_ 56), (g_ 57), (g_ 58), (g_ 59), (g_ 60), (g_ 61), (g_ 62), (g_ 63), (g_ 64), (g_ 65), (g_ 66), (g_ 67), (g_ 68), (g_ 69), (g_ 70), (g_ 71), (g_ 72), (g_ 73), (g_ 74), (g_ 75), (g_ 76), (g_ 77), (g_ 78), (g_ 79), (g_ 80), (g_ 81), (g_ 82), (g_ 83), (g_ 84), (g_ 85), (g_ 86), (g_ 87), (g_ 88), (g_ 89), (g_ 90), (g_ 91), (g_ 92), (g_ 93), (g_ 94), (g_ 95), (g_ 96), (g_ 97), (g_ 98), (g_ 99), (g_ 100), (g_ 101), (g_ 102), (g_ 103), (g_ 104), (g_ 105), (g_ 106), (g_ 107), (g_ 108), (g_ 109), (g_ 110), (g_ 111), (g_ 112), (g_ 113), (g_ 114), (g_ 115)], []⟩ ∧ Step c w C927 w928 [] ∧ kq929 ≤ k773 ∧ (Ft C927 [0] w928 (fun w_ => (Kd.int .i64).C w_ A1 l1.length l1)) ∧ (OwnPt C927 13 w928 107 k107 v682 t673) ∧ (Ft C927 [0] w928 (fun w_ => Kd.string.C w_ A656 t647.length t647)) ∧ (Ft C927 [0] w928 (fun w_ => (Kd.slice 4 Kd.bool).C w_ A660 t648.length t648)) ∧ (Bx C927 12 w928 g664 33 ([.slice A656 t647.length cp657, .slice A660 t648.length cp661])) ∧ (Ft C927 [0] w928 (fun w_ => Kd.string.C w_ A698 t686.length t686)) ∧ (Ft C927 [0] w928 (fun w_ => (Kd.slice 4 Kd.bool).C w_ A702 t687.length t687)) ∧ (Own C927 14 w928 (Kd.slice 3 (Kd.int .i64)) 23 (.slice A706 t688.length cp707) t688) ∧ (Own C927 15 w928 (Kd.slice 3 (Kd.int .i64)) 23 (.slice A710 t689.length cp711) t689) ∧ (Bx C927 16 w928 g714 41 ([.slice A698 t686.length cp699, .slice A702 t687.length cp703, .slice A706 t688.length cp707, .slice A710 t689.length cp711])) ∧ (Ft C927 [0] w928 GTab) ∧ blazonlaw14_LatticeAlls.l0 kq929 a2 l1 t647 t673 t686 t687 t688 t689 x916 x917 = some r) ?step fun hL_ => ?init)
     case init =>
      exact jmpL (fun a_ h_ => hL_ k773 a_ _ h_) (fun g_ => ⟨_, true, 0, g_, rfl, HS758, Nat.le_refl _, HJ759, HJ760, HJ762, HJ763, HJ764, HJ765, HJ766, HJ767, HJ768, HJ769, HG770, H⟩) rfl
     case step =>
      intro kq929 ih932 a933 w928 hr934
      obtain ⟨C927, x916, x917, g_, rfl, HS930, hk931, HJ914, HJ915, HJ918, HJ919, HJ920, HJ921, HJ922, HJ923, HJ924, HJ925, HG926, H⟩ := hr934
      refine looped_round ?_
      cases kq929 with
      | zero => exact absurd H (by simp [blazonlaw14_LatticeAlls.l0])
      | succ k935 =>
       simp only [blazonlaw14_LatticeAlls.l0] at H
       refine wp_seq_k fun K936 hK936 => ?_
       refine wp_seq_k fun K937 hK937 => ?_
       refine wl_region ?_
       refine mv_ rfl ?_
       refine mv_ rfl ?_
       refine st (.int .i64 (l1.length : Int)) rfl rfl (xr_builtin #[.slice A1 l1.length c1] (.int .i64 (l1.length : Int)) rfl (mp_ rfl) (by first | rfl | (go_simp; done) | (go_simp; rfl) | (go_simp; exact i64_w _) | (go_simp; exact i32_w _))) ?_
       refine st (.bool (decide (x917 < (l1.length : Int)))) rfl rfl (xr_bin _ _ _ rfl rfl rfl (B.lss_i64 _ _)) ?_
       simp only [ls0, ls1]
       refine wl_end ?_
       (try simp only [ls0, ls1])
       refine hK937 _ _ ?_
       (try clear hK937 K937)
       by_cases c938 : x917 < (l1.length : Int)
       ·rw [if_pos c938] at H
        (try rw [(decide_eq_true c938)])
        refine wp_cond_true rfl ?_
        refine wp_skip ?_
        (try simp only [ls0, ls1])
        refine hK936 _ _ ?_
        (try clear hK936 K936)
        refine wp_seq_k fun K939 hK939 => ?_
        refine wp_block ?_
        (try simp only [ls0, ls1])
        refine al_start (lb 19 0) rfl rfl rfl (fun w_ => (Kd.int .i64).C w_ A1 l1.length l1 ∧ w_.heap[g664]? = some (.cells (List.toArray ([.slice A656 t647.length cp657, .slice A660 t648.length cp661])) 33 (0, 0))) ⟨(Ft.now (HJ914).drew), (HJ920.drew).2⟩ [] ?_
        replace HJ914 := HJ914.drew
        replace HJ915 := HJ915.drew
        replace HJ920 := HJ920.drew
        replace HJ918 := HJ918.drew
        replace HJ919 := HJ919.drew
        replace HJ925 := HJ925.drew
        replace HJ921 := HJ921.drew
        replace HJ922 := HJ922.drew
        replace HJ923 := HJ923.drew
        replace HJ924 := HJ924.drew
        replace HG926 := HG926.drew
        replace HS930 := Step.ofDrew HS930
        generalize w928.drew = w940 at *
        refine al_mv 0 (lb 19 1) rfl rfl (by kernel_rfl) (fun _ _ _ => id) rfl ?_
        refine al_mv 1 (lb 19 3) rfl rfl (by kernel_rfl) (fun _ _ _ => id) rfl ?_
        by_cases c941 : x916 = true
        ·rw [if_pos c941] at H
         (try rw [c941])
         refine al_mv 2 (lb 19 7) rfl rfl (by kernel_rfl) (fun _ _ _ => id) (guard_on 1 true 71 rfl rfl rfl) ?_
         refine al_mv 3 (lb 19 15) rfl rfl (by kernel_rfl) (fun _ _ _ => id) (guard_on 1 true 71 rfl rfl rfl) ?_
         simp only [ls0, ls1]
         obtain ⟨c942, H⟩ := if_some H
         obtain ⟨ad943, hA944⟩ := c_addr (Ft.now HJ914) (pos_of (j := x917) (by first | assumption | decide) (by first | assumption | omega))
         refine al_pure 4 74 (.pointer (some (ad943.add ((x917 : Int).toNat * 1)))) (lb 19 31) rfl rfl (by kernel_rfl) (fun _ _ _ => id) (guard_on 1 true 71 rfl rfl rfl) (fun w_ => xr_indexAddr _ _ _ rfl rfl rfl (index_at Tryd.underlying23 info3 hA944 (by first | assumption | decide | omega) (by first | assumption | decide | omega))) ?_
         refine al_take 5 75 (.int .i64 (rd l1 x917)) (lb 19 63) rfl rfl (by kernel_rfl) (fun _ _ _ => id) (guard_on 1 true 71 rfl rfl rfl) (fun w_ hS_ => xr_load _ _ rfl rfl (load_int Tryd.underlying3 rfl hA944 hS_.1 (by first | assumption | decide | omega) (by first | assumption | decide | omega))) ⟨(Ft.now HJ914), (HJ920).2⟩ ?_
         refine al_pure 6 76 (.bool (decide ((rd l1 x917) ≥ 0))) (lb 19 127) rfl rfl (by kernel_rfl) (fun _ _ _ => id) (guard_on 1 true 71 rfl rfl rfl) (fun w_ => xr_bin _ _ _ rfl rfl rfl (B.geq_i64 _ _)) ?_
         refine al_pure 7 77 (.bool (decide ((rd l1 x917) ≥ 0))) (lb 19 255) rfl rfl (by kernel_rfl) (fun _ _ _ => id) rfl (fun w_ => xr_pick true _ rfl rfl rfl) ?_
         simp only [ls0, ls1]
         refine al_mv 8 (lb 19 511) rfl rfl (by kernel_rfl) (fun _ _ _ => id) rfl ?_
         by_cases c945 : (rd l1 x917) ≥ 0
         ·rw [if_pos c945] at H
          (try rw [(decide_eq_true c945)])
          refine al_mv 9 (lb 19 1023) rfl rfl (by kernel_rfl) (fun _ _ _ => id) (guard_on 8 true 78 rfl rfl rfl) ?_
          refine al_mv 10 (lb 19 2047) rfl rfl (by kernel_rfl) (fun _ _ _ => id) (guard_on 8 true 78 rfl rfl rfl) ?_
          obtain ⟨ad946, hA947⟩ := c_addr (Ft.now HJ914) (pos_of (j := x917) (by first | assumption | decide) (by first | assumption | omega))
          refine al_pure 11 81 (.pointer (some (ad946.add ((x917 : Int).toNat * 1)))) (lb 19 4095) rfl rfl (by kernel_rfl) (fun _ _ _ => id) (guard_on 8 true 78 rfl rfl rfl) (fun w_ => xr_indexAddr _ _ _ rfl rfl rfl (index_at Tryd.underlying23 info3 hA947 (by first | assumption | decide | omega) (by first | assumption | decide | omega))) ?_
          simp only [ls0, ls1]
          refine al_pure 13 83 (.pointer (some ⟨g664, 0, none⟩)) (lb 19 12287) rfl rfl (by kernel_rfl) (fun _ _ _ => id) (guard_on 8 true 78 rfl rfl rfl) (fun w_ => xr_fieldAddr _ _ rfl rfl (bx_field2 Tryd.underlying33 rfl rfl (by kernel_rfl))) ?_
          refine al_take 12 82 (.int .i64 (rd l1 x917)) (lb 19 16383) rfl rfl (by kernel_rfl) (fun _ _ _ => id) (guard_on 8 true 78 rfl rfl rfl) (fun w_ hS_ => xr_load _ _ rfl rfl (load_int Tryd.underlying3 rfl hA947 hS_.1 (by first | assumption | decide | omega) (by first | assumption | decide | omega))) ⟨(Ft.now HJ914), (HJ920).2⟩ ?_
          refine al_take 14 84 (.slice A656 t647.length cp657) (lb 19 32767) rfl rfl (by kernel_rfl) (fun _ _ _ => id) (guard_on 8 true 78 rfl rfl rfl) (fun w_ hS_ => xr_load _ _ rfl rfl (load_cell Tryd.underlying30 rfl (bx_cell hS_.2 0 rfl))) ⟨(Ft.now HJ914), (HJ920).2⟩ ?_
          refine al_pure 15 85 (.int .i64 (t647.length : Int)) (lb 19 65535) rfl rfl (by kernel_rfl) (fun _ _ _ => id) (guard_on 8 true 78 rfl rfl rfl) (fun w_ => xr_builtin #[.slice A656 t647.length cp657] (.int .i64 (t647.length : Int)) rfl (mp_ rfl) (by first | rfl | (go_simp; done) | (go_simp; rfl) | (go_simp; exact i64_w _) | (go_simp; exact i32_w _))) ?_
          simp only [ls0, ls1]
          refine al_pure 16 86 (.bool (decide ((rd l1 x917) < (t647.length : Int)))) (lb 19 131071) rfl rfl (by kernel_rfl) (fun _ _ _ => id) (guard_on 8 true 78 rfl rfl rfl) (fun w_ => xr_bin _ _ _ rfl rfl rfl (B.lss_i64 _ _)) ?_
          refine al_pure 17 87 (.bool (decide ((rd l1 x917) < (t647.length : Int)))) (lb 19 262143) rfl rfl (by kernel_rfl) (fun _ _ _ => id) rfl (fun w_ => xr_pick true _ rfl rfl rfl) ?_
          refine al_as 18 (lb 19 524287) rfl rfl (by kernel_rfl) (fun _ _ _ => id) rfl ?_
          refine al_end (by kernel_rfl) ?_
          (try simp only [ls0, ls1])
          refine hK939 _ _ ?_
          (try clear hK939 K939)
          refine wl_region ?_
          refine mv_ rfl ?_
          refine st (.int .i64 (wrap64 (x917 + 1))) rfl rfl (xr_bin _ _ _ rfl rfl rfl (B.add_i64 _ _)) ?_
          refine as_ rfl ?_
          refine wl_end ?_
          (try simp only [ls0, ls1])
          exact jmpL (fun a_ h_ => ih932 k935 (by omega) a_ _ h_) (fun g_ => ⟨_, decide ((rd l1 x917) < (t647.length : Int)), wrap64 (x917 + 1), g_, rfl, HS930, (by omega), HJ914, HJ915, HJ918, HJ919, HJ920, HJ921, HJ922, HJ923, HJ924, HJ925, HG926, H⟩) rfl
         rw [if_neg c945] at H
         (try rw [(decide_eq_false c945)])
         refine al_off 9 79 (lb 19 1023) rfl rfl (by kernel_rfl) (fun _ _ _ => id) (guard_off 8 true 78 rfl rfl false (by decide) rfl) ?_
         refine al_off 10 80 (lb 19 2047) rfl rfl (by kernel_rfl) (fun _ _ _ => id) (guard_off 8 true 78 rfl rfl false (by decide) rfl) ?_
         refine al_off 11 81 (lb 19 4095) rfl rfl (by kernel_rfl) (fun _ _ _ => id) (guard_off 8 true 78 rfl rfl false (by decide) rfl) ?_
         refine al_off 12 82 (lb 19 8191) rfl rfl (by kernel_rfl) (fun _ _ _ => id) (guard_off 8 true 78 rfl rfl false (by decide) rfl) ?_
         simp only [ls0, ls1]
         refine al_off 13 83 (lb 19 16383) rfl rfl (by kernel_rfl) (fun _ _ _ => id) (guard_off 8 true 78 rfl rfl false (by decide) rfl) ?_
         refine al_off 14 84 (lb 19 32767) rfl rfl (by kernel_rfl) (fun _ _ _ => id) (guard_off 8 true 78 rfl rfl false (by decide) rfl) ?_
         refine al_off 15 85 (lb 19 65535) rfl rfl (by kernel_rfl) (fun _ _ _ => id) (guard_off 8 true 78 rfl rfl false (by decide) rfl) ?_
         refine al_off 16 86 (lb 19 131071) rfl rfl (by kernel_rfl) (fun _ _ _ => id) (guard_off 8 true 78 rfl rfl false (by decide) rfl) ?_
         simp only [ls0, ls1]
         refine al_pure 17 87 (.bool false) (lb 19 262143) rfl rfl (by kernel_rfl) (fun _ _ _ => id) rfl (fun w_ => xr_pick false _ rfl rfl rfl) ?_
         refine al_as 18 (lb 19 524287) rfl rfl (by kernel_rfl) (fun _ _ _ => id) rfl ?_
         refine al_end (by kernel_rfl) ?_
         (try simp only [ls0, ls1])
         refine hK939 _ _ ?_
         (try clear hK939 K939)
         refine wl_region ?_
         refine mv_ rfl ?_
         refine st (.int .i64 (wrap64 (x917 + 1))) rfl rfl (xr_bin _ _ _ rfl rfl rfl (B.add_i64 _ _)) ?_
         refine as_ rfl ?_
         refine wl_end ?_
         (try simp only [ls0, ls1])
         exact jmpL (fun a_ h_ => ih932 k935 (by omega) a_ _ h_) (fun g_ => ⟨_, false, wrap64 (x917 + 1), g_, rfl, HS930, (by omega), HJ914, HJ915, HJ918, HJ919, HJ920, HJ921, HJ922, HJ923, HJ924, HJ925, HG926, H⟩) rfl
        rw [if_neg c941] at H
        (try rw [(Bool.eq_false_iff.mpr c941)])
        refine al_off 2 72 (lb 19 7) rfl rfl (by kernel_rfl) (fun _ _ _ => id) (guard_off 1 true 71 rfl rfl false (by decide) rfl) ?_
        refine al_off 3 73 (lb 19 15) rfl rfl (by kernel_rfl) (fun _ _ _ => id) (guard_off 1 true 71 rfl rfl false (by decide) rfl) ?_
        refine al_off 4 74 (lb 19 31) rfl rfl (by kernel_rfl) (fun _ _ _ => id) (guard_off 1 true 71 rfl rfl false (by decide) rfl) ?_
        refine al_off 5 75 (lb 19 63) rfl rfl (by kernel_rfl) (fun _ _ _ => id) (guard_off 1 true 71 rfl rfl false (by decide) rfl) ?_
        simp only [ls0, ls1]
        refine al_off 6 76 (lb 19 127) rfl rfl (by kernel_rfl) (fun _ _ _ => id) (guard_off 1 true 71 rfl rfl false (by decide) rfl) ?_
        refine al_pure 7 77 (.bool false) (lb 19 255) rfl rfl (by kernel_rfl) (fun _ _ _ => id) rfl (fun w_ => xr_pick false _ rfl rfl rfl) ?_
        refine al_mv 8 (lb 19 511) rfl rfl (by kernel_rfl) (fun _ _ _ => id) rfl ?_
        refine al_off 9 79 (lb 19 1023) rfl rfl (by kernel_rfl) (fun _ _ _ => id) (guard_off 8 true 78 rfl rfl false (by decide) rfl) ?_
        simp only [ls0, ls1]
        refine al_off 10 80 (lb 19 2047) rfl rfl (by kernel_rfl) (fun _ _ _ => id) (guard_off 8 true 78 rfl rfl false (by decide) rfl) ?_
        refine al_off 11 81 (lb 19 4095) rfl rfl (by kernel_rfl) (fun _ _ _ => id) (guard_off 8 true 78 rfl rfl false (by decide) rfl) ?_
        refine al_off 12 82 (lb 19 8191) rfl rfl (by kernel_rfl) (fun _ _ _ => id) (guard_off 8 true 78 rfl rfl false (by decide) rfl) ?_
        refine al_off 13 83 (lb 19 16383) rfl rfl (by kernel_rfl) (fun _ _ _ => id) (guard_off 8 true 78 rfl rfl false (by decide) rfl) ?_
        simp only [ls0, ls1]
        refine al_off 14 84 (lb 19 32767) rfl rfl (by kernel_rfl) (fun _ _ _ => id) (guard_off 8 true 78 rfl rfl false (by decide) rfl) ?_
        refine al_off 15 85 (lb 19 65535) rfl rfl (by kernel_rfl) (fun _ _ _ => id) (guard_off 8 true 78 rfl rfl false (by decide) rfl) ?_
        refine al_off 16 86 (lb 19 131071) rfl rfl (by kernel_rfl) (fun _ _ _ => id) (guard_off 8 true 78 rfl rfl false (by decide) rfl) ?_
        refine al_pure 17 87 (.bool false) (lb 19 262143) rfl rfl (by kernel_rfl) (fun _ _ _ => id) rfl (fun w_ => xr_pick false _ rfl rfl rfl) ?_
        simp only [ls0, ls1]
        refine al_as 18 (lb 19 524287) rfl rfl (by kernel_rfl) (fun _ _ _ => id) rfl ?_
        refine al_end (by kernel_rfl) ?_
        (try simp only [ls0, ls1])
        refine hK939 _ _ ?_
        (try clear hK939 K939)
        refine wl_region ?_
        refine mv_ rfl ?_
        refine st (.int .i64 (wrap64 (x917 + 1))) rfl rfl (xr_bin _ _ _ rfl rfl rfl (B.add_i64 _ _)) ?_
        refine as_ rfl ?_
        refine wl_end ?_
        (try simp only [ls0, ls1])
        exact jmpL (fun a_ h_ => ih932 k935 (by omega) a_ _ h_) (fun g_ => ⟨_, false, wrap64 (x917 + 1), g_, rfl, HS930, (by omega), HJ914, HJ915, HJ918, HJ919, HJ920, HJ921, HJ922, HJ923, HJ924, HJ925, HG926, H⟩) rfl
       rw [if_neg c938] at H
       (try rw [(decide_eq_false c938)])
       refine wp_cond_false rfl ?_
       refine wp_exit ?_
       (try simp only [ls0, ls1])
       refine hK783 _ _ ?_
       (try clear hK783 K783)
       refine wp_seq_k fun K948 hK948 => ?_
       refine wp_seq_k fun K949 hK949 => ?_
       refine wl_region ?_
       refine mv_ rfl ?_
       refine st (.bool (!x916)) rfl rfl (xr_un (.bool x916) _ rfl rfl (by first | rfl | (go_simp; done) | (go_simp; rfl) | (go_simp; exact i64_w _) | (go_simp; exact i32_w _))) ?_
       refine wl_end ?_
       (try simp only [ls0, ls1])
       refine hK949 _ _ ?_
       (try clear hK949 K949)
       by_cases c950 : x916 = true
       ·rw [if_pos c950] at H
        (try rw [c950])
        (try simp only [Bool.not_true, Bool.not_false])
        refine wp_cond_false rfl ?_
        refine wp_skip ?_
        (try simp only [ls0, ls1])
        refine hK948 _ _ ?_
        (try clear hK948 K948)
        refine wp_seq_k fun K951 hK951 => ?_
        refine wp_seq_k fun K1026 hK1026 => ?_
        have hj1053 : ∀ (kq1069 : Nat) (C1054 : Nat → Nat) (w1055 : World) (x1059 : Bool) (g_ : Nat → Value), Step c w C1054 w1055 [] → kq1069 ≤ k935 → (Ft C1054 [0] w1055 (fun w_ => (Kd.int .i64).C w_ A1 l1.length l1)) → (OwnPt C1054 13 w1055 107 k107 v682 t673) → (Ft C1054 [0] w1055 (fun w_ => Kd.string.C w_ A656 t647.length t647)) → (Ft C1054 [0] w1055 (fun w_ => (Kd.slice 4 Kd.bool).C w_ A660 t648.length t648)) → (Bx C1054 12 w1055 g664 33 ([.slice A656 t647.length cp657, .slice A660 t648.length cp661])) → (Ft C1054 [0] w1055 (fun w_ => Kd.string.C w_ A698 t686.length t686)) → (Ft C1054 [0] w1055 (fun w_ => (Kd.slice 4 Kd.bool).C w_ A702 t687.length t687)) → (Own C1054 14 w1055 (Kd.slice 3 (Kd.int .i64)) 23 (.slice A706 t688.length cp707) t688) → (Own C1054 15 w1055 (Kd.slice 3 (Kd.int .i64)) 23 (.slice A710 t689.length cp711) t689) → (Bx C1054 16 w1055 g714 41 ([.slice A698 t686.length cp699, .slice A702 t687.length cp703, .slice A706 t688.length cp707, .slice A710 t689.length cp711])) → (Ft C1054 [0] w1055 GTab) → blazonlaw14_LatticeAlls.j0 kq1069 l1 t673 t686 t687 t688 t689 x1059 = some r → K1026 ⟨#[(g_ 0), .slice A1 l1.length c1, (g_ 2), (g_ 3), (g_ 4), (g_ 5), (g_ 6), (g_ 7), (g_ 8), (g_ 9), (g_ 10), (g_ 11), (g_ 12), v682, (g_ 14), (g_ 15), (g_ 16), .pointer (some ⟨g714, 0, none⟩), (g_ 18), (g_ 19), (g_ 20), (g_ 21), (g_ 22), (g_ 23), (g_ 24), (g_ 25), (g_ 26), (g_ 27), (g_ 28), (g_ 29), (g_ 30), (g_ 31), (g_ 32), (g_ 33), (g_ 34), (g_ 35), (g_ 36), (g_ 37), (g_ 38), (g_ 39), (g_ 40), (g_ 41), (g_ 42), (g_ 43), (g_ 44), (g_ 45), (g_ 46), (g_ 47), (g_ 48), (g_ 49), (g_ 50), (g_ 51), (g_ 52), (g_ 53), (g_ 54), (g_ 55), (g_ 56), (g_ 57), (g_ 58), (g_ 59), (g_ 60), (g_ 61), (g_ 62), (g_ 63), (g_ 64), (g_ 65), (g_ 66), (g_ 67), (g_ 68), (g_ 69), (g_ 70), (g_ 71), (g_ 72), (g_ 73), (g_ 74), (g_ 75), (g_ 76), (g_ 77), (g_ 78), (g_ 79), (g_ 80), (g_ 81), (g_ 82), (g_ 83), (g_ 84), (g_ 85), (g_ 86), (g_ 87), (g_ 88), (g_ 89), (g_ 90), (g_ 91), (g_ 92), (g_ 93), (g_ 94), (g_ 95), (g_ 96), (g_ 97), (g_ 98), (g_ 99), (g_ 100), (g_ 101), (g_ 102), (g_ 103), (g_ 104), .bool x1059, (g_ 106), (g_ 107), (g_ 108), (g_ 109), (g_ 110), (g_ 111), (g_ 112), (g_ 113), (g_ 114), (g_ 115)], []⟩ w1055 := by
         intro kq1069 C1054 w1055 x1059 g_ HS1056 hk1070 HJ1057 HJ1058 HJ1060 HJ1061 HJ1062 HJ1063 HJ1064 HJ1065 HJ1066 HJ1067 HG1068 H
         cases kq1069 with
         | zero => exact absurd H (by simp [blazonlaw14_LatticeAlls.j0])
         | succ k1071 =>
          simp only [blazonlaw14_LatticeAlls.j0] at H
          refine hK1026 _ _ ?_
          (try clear hK1026)
          by_cases c1072 : x1059 = true
          ·rw [if_pos c1072] at H
           (try rw [c1072])
           refine wp_cond_true rfl ?_
           refine wp_seq_k fun K1073 hK1073 => ?_
           refine wl_region ?_
           refine st (.bool false) rfl rfl (xr_assign _ rfl rfl) ?_
           refine wl_end ?_
           (try simp only [ls0, ls1])
           refine hK1073 _ _ ?_
           (try clear hK1073 K1073)
           refine wp_ret ?_
           (try simp only [Exit.inBlock, Exit.then, Exit.noGoto])
           (try simp only [ls0, ls1])
           obtain rfl := Option.some.inj H
           refine bodyPost_ret (results_tmp rfl _ _ _) rfl ?_
           exact ⟨_, rfl, HS1056⟩
          rw [if_neg c1072] at H
          (try rw [(Bool.eq_false_iff.mpr c1072)])
          refine wp_cond_false rfl ?_
          refine wp_skip ?_
          (try simp only [ls0, ls1])
          refine hK951 _ _ ?_
          (try clear hK951 K951)
          refine wp_seq_k fun K1074 hK1074 => ?_
          (try simp only [ls0, ls1])
          refine al_start (lb 11 0) rfl rfl rfl (fun w_ => w_.heap[g714]? = some (.cells (List.toArray ([.slice A698 t686.length cp699, .slice A702 t687.length cp703, .slice A706 t688.length cp707, .slice A710 t689.length cp711])) 41 (0, 0))) (HJ1067.drew).2 [] ?_
          replace HJ1057 := HJ1057.drew
          replace HJ1058 := HJ1058.drew
          replace HJ1062 := HJ1062.drew
          replace HJ1060 := HJ1060.drew
          replace HJ1061 := HJ1061.drew
          replace HJ1067 := HJ1067.drew
          replace HJ1063 := HJ1063.drew
          replace HJ1064 := HJ1064.drew
          replace HJ1065 := HJ1065.drew
          replace HJ1066 := HJ1066.drew
          replace HG1068 := HG1068.drew
          replace HS1056 := Step.ofDrew HS1056
          generalize w1055.drew = w1075 at *
          refine al_mv 0 (lb 11 1) rfl rfl (by kernel_rfl) (fun _ _ _ => id) rfl ?_
          refine al_mv 1 (lb 11 3) rfl rfl (by kernel_rfl) (fun _ _ _ => id) rfl ?_
          refine al_mv 4 (lb 11 19) rfl rfl (by kernel_rfl) (fun _ _ _ => id) rfl ?_
          refine al_take 3 109 (.agg #[.slice A698 t686.length cp699, .slice A702 t687.length cp703, .slice A706 t688.length cp707, .slice A710 t689.length cp711]) (lb 11 27) rfl rfl (by kernel_rfl) (fun _ _ _ => id) rfl (fun w_ hS_ => xr_load _ _ rfl rfl (load_agg (cs := [.slice A698 t686.length cp699, .slice A702 t687.length cp703, .slice A706 t688.length cp707, .slice A710 t689.length cp711]) Tryd.underlying41 rfl (by kernel_rfl) (bx_cells hS_ 0 rfl))) (HJ1067).2 ?_
          simp only [ls0, ls1]
          obtain ⟨t1076, A1077, H⟩ := bnd H
          refine al_one 2 (lb 11 31) rfl rfl (by kernel_rfl) rfl (fun K_ hK_ => ?_)
          refine goes_ Tryd.func19 (by kernel_rfl) rfl #[v682, .slice A1 l1.length c1] rfl rfl rfl (mpe_ rfl) ?_
          refine (lattice_Lattice_JoinAll.calls k1071 v682 t673 A1 c1 l1 t1076  (fun z_ => pal [(0, 0), (13, 0)] (C1054 z_)) w1075 (fun _ => pal_lt rfl _) (Ft.arg (HJ1058.ft) rfl) (Ft.arg HJ1057 rfl) HCP1 A1077).mono ?_
          rintro _ w1079 ⟨C1080, rfl, hs1081⟩
          refine ⟨_, rfl, ?_⟩
          replace hs1081 := Step.lift (U := [(0, 0)]) hs1081 [] rfl rfl
          generalize up C1054 C1080 w1075.heap.size [(0, 0)] = C1080_ at hs1081
          replace HJ1057 := HJ1057.thru hs1081 rfl
          replace HJ1062 := HJ1062.thru hs1081 rfl
          replace HJ1060 := HJ1060.thru hs1081 rfl
          replace HJ1061 := HJ1061.thru hs1081 rfl
          replace HJ1067 := HJ1067.thru hs1081 rfl
          replace HJ1063 := HJ1063.thru hs1081 rfl
          replace HJ1064 := HJ1064.thru hs1081 rfl
          replace HJ1065 := HJ1065.thru hs1081 rfl
          replace HJ1066 := HJ1066.thru hs1081 rfl
          replace HG1068 := HG1068.thru hs1081 rfl
          replace HS1056 := HS1056.trans hs1081 hc rfl
          refine hK_ _ _ (HJ1067).2 ?_
          clear hK_ K_
          (try simp only [Act.put, List.setIfInBounds_toArray, ls0, ls1])
          obtain ⟨t1082, A1083, H⟩ := bnd H
          refine al_one 5 (lb 11 63) rfl rfl (by kernel_rfl) rfl (fun K_ hK_ => ?_)
          refine goes_ Tryd.func20 (by kernel_rfl) rfl #[.agg #[.slice A698 t686.length cp699, .slice A702 t687.length cp703, .slice A706 t688.length cp707, .slice A710 t689.length cp711], .slice A1 l1.length c1] rfl rfl rfl (mpe_ rfl) ?_
          refine (blazonref14_Lattice_JoinAll.calls k1071 A698 cp699 t686 A702 cp703 t687 A706 cp707 t688 A710 cp711 t689 A1 c1 l1 t1082  (fun z_ => pal [(0, 0), (14, 0), (15, 0)] (C1080_ z_)) w1079 (fun _ => pal_lt rfl _) (Ft.arg HJ1063 rfl) HC701 (Ft.arg HJ1064 rfl) HC705 (Ft.arg (HJ1065.ft) rfl) HC709 (Ft.arg (HJ1066.ft) rfl) HC713 (Ft.arg HJ1057 rfl) HCP1 A1083).mono ?_
          rintro _ w1085 ⟨C1086, rfl, hs1087⟩
          refine ⟨_, rfl, ?_⟩
          replace hs1087 := Step.lift (U := [(0, 0)]) hs1087 [] rfl rfl
          generalize up C1080_ C1086 w1079.heap.size [(0, 0)] = C1086_ at hs1087
          replace HJ1062 := HJ1062.thru hs1087 rfl
          replace HJ1060 := HJ1060.thru hs1087 rfl
          replace HJ1061 := HJ1061.thru hs1087 rfl
          replace HJ1067 := HJ1067.thru hs1087 rfl
          replace HJ1063 := HJ1063.thru hs1087 rfl
          replace HJ1064 := HJ1064.thru hs1087 rfl
          replace HJ1065 := HJ1065.thru hs1087 rfl
          replace HJ1066 := HJ1066.thru hs1087 rfl
          replace HG1068 := HG1068.thru hs1087 rfl
          replace HS1056 := HS1056.trans hs1087 hc rfl
          refine hK_ _ _ (HJ1067).2 ?_
          clear hK_ K_
          (try simp only [Act.put, List.setIfInBounds_toArray, ls0, ls1])
          refine al_pure 6 112 (.bool (decide (t1076 = t1082))) (lb 11 127) rfl rfl (by kernel_rfl) (fun _ _ _ => id) rfl (fun w_ => xr_bin _ _ _ rfl rfl rfl (B.eql_i64 _ _)) ?_
          refine al_mv 7 (lb 11 255) rfl rfl (by kernel_rfl) (fun _ _ _ => id) rfl ?_
          by_cases c1088 : t1076 = t1082
          ·rw [if_pos c1088] at H
           (try rw [(decide_eq_true c1088)])
           obtain ⟨t1089, A1090, H⟩ := bnd H
           refine al_one 8 (lb 11 511) rfl rfl (by kernel_rfl) rfl (fun K_ hK_ => ?_)
           refine goes_ Tryd.func14 (by kernel_rfl) rfl #[] (guard_on 7 true 113 rfl rfl rfl) rfl rfl (mpe_ rfl) ?_
           refine (blazonlaw14_awake.calls k1071 t1089  (fun z_ => pal [(0, 0)] (C1086_ z_)) w1085 (fun _ => pal_lt rfl _) (Ft.arg HG1068 rfl) A1090).mono ?_
           rintro _ w1092 ⟨C1093, rfl, hs1094⟩
           refine ⟨_, rfl, ?_⟩
           replace hs1094 := Step.lift (U := [(0, 0)]) hs1094 [] rfl rfl
           generalize up C1086_ C1093 w1085.heap.size [(0, 0)] = C1093_ at hs1094
           replace HJ1062 := HJ1062.thru hs1094 rfl
           replace HJ1060 := HJ1060.thru hs1094 rfl
           replace HJ1061 := HJ1061.thru hs1094 rfl
           replace HJ1067 := HJ1067.thru hs1094 rfl
           replace HJ1063 := HJ1063.thru hs1094 rfl
           replace HJ1064 := HJ1064.thru hs1094 rfl
           replace HJ1065 := HJ1065.thru hs1094 rfl
           replace HJ1066 := HJ1066.thru hs1094 rfl
           replace HG1068 := HG1068.thru hs1094 rfl
           replace HS1056 := HS1056.trans hs1094 hc rfl
           refine hK_ _ _ (HJ1067).2 ?_
           clear hK_ K_
           (try simp only [Act.put, List.setIfInBounds_toArray, ls0, ls1])
           refine al_pure 9 115 (.bool t1089) (lb 11 1023) rfl rfl (by kernel_rfl) (fun _ _ _ => id) rfl (fun w_ => xr_pick true _ rfl rfl rfl) ?_
           refine al_as 10 (lb 11 2047) rfl rfl (by kernel_rfl) (fun _ _ _ => id) rfl ?_
           refine al_end (by kernel_rfl) ?_
           (try simp only [ls0, ls1])
           refine hK1074 _ _ ?_
           (try clear hK1074 K1074)
           refine wp_ret ?_
           (try simp only [Exit.inBlock, Exit.then, Exit.noGoto])
           (try simp only [ls0, ls1])
           obtain rfl := Option.some.inj H
           refine bodyPost_ret (results_tmp rfl _ _ _) rfl ?_
           exact ⟨_, rfl, HS1056⟩
          rw [if_neg c1088] at H
          (try rw [(decide_eq_false c1088)])
          refine al_off 8 114 (lb 11 511) rfl rfl (by kernel_rfl) (fun _ _ _ => id) (guard_off 7 true 113 rfl rfl false (by decide) rfl) ?_
          refine al_pure 9 115 (.bool false) (lb 11 1023) rfl rfl (by kernel_rfl) (fun _ _ _ => id) rfl (fun w_ => xr_pick false _ rfl rfl rfl) ?_
          refine al_as 10 (lb 11 2047) rfl rfl (by kernel_rfl) (fun _ _ _ => id) rfl ?_
          refine al_end (by kernel_rfl) ?_
          (try simp only [ls0, ls1])
          refine hK1074 _ _ ?_
          (try clear hK1074 K1074)
          refine wp_ret ?_
          (try simp only [Exit.inBlock, Exit.then, Exit.noGoto])
          (try simp only [ls0, ls1])
          obtain rfl := Option.some.inj H
          refine bodyPost_ret (results_tmp rfl _ _ _) rfl ?_
          exact ⟨_, rfl, HS1056⟩
        refine wl_region ?_
        refine mv_ rfl ?_
        refine mv_ rfl ?_
        by_cases c1095 : a2 = true
        ·rw [if_pos c1095] at H
         (try rw [c1095])
         refine on_guard (guard_on 1 true 98 rfl rfl rfl) ?_
         refine mv_ rfl ?_
         refine on_guard (guard_on 1 true 98 rfl rfl rfl) ?_
         obtain ⟨y1096, A1097, H⟩ := bnd H
         refine Own.lit (Kd.int .i64) (C := C927) (i := 17) rfl 3 rfl (xs := [(-1)]) (inner := [.int .i64 (-1)]) (by first | (go_simp; done) | (go_simp; rfl)) (reps_cons (fk_int .i64 _ _ (-1)) rfl (Reps.none _ _)) (by simp only [List.length_cons, List.length_nil]; omega) (Option.some.inj A1097) ?_
         intro A1098 cp1099 w1100 C1101 HO1102 HC1103 hs1104
         replace HJ914 := HJ914.thru hs1104 rfl
         replace HJ915 := HJ915.thru hs1104 rfl
         replace HJ920 := HJ920.thru hs1104 rfl
         replace HJ918 := HJ918.thru hs1104 rfl
         replace HJ919 := HJ919.thru hs1104 rfl
         replace HJ925 := HJ925.thru hs1104 rfl
         replace HJ921 := HJ921.thru hs1104 rfl
         replace HJ922 := HJ922.thru hs1104 rfl
         replace HJ923 := HJ923.thru hs1104 rfl
         replace HJ924 := HJ924.thru hs1104 rfl
         replace HG926 := HG926.thru hs1104 rfl
         replace HS930 := HS930.trans hs1104 hc rfl
         (try simp only [ls0, ls1])
         refine on_guard (guard_on 1 true 98 rfl rfl rfl) ?_
         refine mv_ rfl ?_
         refine on_guard (guard_on 1 true 98 rfl rfl rfl) ?_
         obtain ⟨c1105, H⟩ := if_some H
         obtain ⟨y1106, A1107, H⟩ := bnd H
         refine Own.append_rows (Kd.int .i64) (C := C1101) (i := 17) rfl (.tmp 100) (.tmp 101) 23 3 (.int .i64 0) 8 rfl Tryd.underlying23 info3 rfl (by decide) (by decide) (.slice A1098 y1096.length cp1099) y1096 l1 A1 l1.length c1 rfl rfl HO1102 HJ914 (by decide) (by omega) (Option.some.inj A1107) ?_
         intro A1108 cp1109 w1110 C1111 HO1112 HC1113 hs1114
         replace HJ914 := HJ914.thru hs1114 rfl
         replace HJ915 := HJ915.thru hs1114 rfl
         replace HJ920 := HJ920.thru hs1114 rfl
         replace HJ918 := HJ918.thru hs1114 rfl
         replace HJ919 := HJ919.thru hs1114 rfl
         replace HJ925 := HJ925.thru hs1114 rfl
         replace HJ921 := HJ921.thru hs1114 rfl
         replace HJ922 := HJ922.thru hs1114 rfl
         replace HJ923 := HJ923.thru hs1114 rfl
         replace HJ924 := HJ924.thru hs1114 rfl
         replace HG926 := HG926.thru hs1114 rfl
         replace HS930 := HS930.trans hs1114 hc rfl
         (try simp only [ls0, ls1])
         refine on_guard (guard_on 1 true 98 rfl rfl rfl) ?_
         obtain ⟨t1115, A1116, H⟩ := bnd H
         refine st_call #[v682, .slice A1108 y1106.length cp1109] rfl rfl Tryd.func19 (by kernel_rfl) rfl rfl (mp_ rfl) ?_
         refine (lattice_Lattice_JoinAll.calls k935 v682 t673 A1108 cp1109 y1106 t1115  (fun z_ => pal [(0, 0), (13, 0), (17, 0)] (C1111 z_)) w1110 (fun _ => pal_lt rfl _) (Ft.arg (HJ915.ft) rfl) (Ft.arg (HO1112.ft) rfl) HC1113 A1116).mono ?_
         rintro _ w1118 ⟨C1119, rfl, hs1120⟩
         refine ⟨_, rfl, ?_⟩
         replace hs1120 := Step.lift (U := [(0, 0)]) hs1120 [] rfl rfl
         generalize up C1111 C1119 w1110.heap.size [(0, 0)] = C1119_ at hs1120
         replace HJ914 := HJ914.thru hs1120 rfl
         replace HJ915 := HJ915.thru hs1120 rfl
         replace HJ920 := HJ920.thru hs1120 rfl
         replace HJ918 := HJ918.thru hs1120 rfl
         replace HJ919 := HJ919.thru hs1120 rfl
         replace HJ925 := HJ925.thru hs1120 rfl
         replace HJ921 := HJ921.thru hs1120 rfl
         replace HJ922 := HJ922.thru hs1120 rfl
         replace HJ923 := HJ923.thru hs1120 rfl
         replace HJ924 := HJ924.thru hs1120 rfl
         replace HG926 := HG926.thru hs1120 rfl
         replace HS930 := HS930.trans hs1120 hc rfl
         (try simp only [ls0, ls1])
         refine on_guard (guard_on 1 true 98 rfl rfl rfl) ?_
         refine st (.bool (!decide (t1115 = (-1)))) rfl rfl (xr_bin _ _ _ rfl rfl rfl (B.neq_i64 _ _)) ?_
         refine st (.bool (!decide (t1115 = (-1)))) rfl rfl (xr_pick true _ rfl rfl rfl) ?_
         refine wl_end ?_
         (try simp only [ls0, ls1])
         exact jmp (fun g_ => hj1053 _ _ _ (!decide (t1115 = (-1))) g_ HS930 (by omega) HJ914 HJ915 HJ918 HJ919 HJ920 HJ921 HJ922 HJ923 HJ924 HJ925 HG926 H) rfl
        rw [if_neg c1095] at H
        (try rw [(Bool.eq_false_iff.mpr c1095)])
        refine sk_guard (guard_off 1 true 98 rfl rfl false (by decide) rfl) rfl ?_
        refine sk_guard (guard_off 1 true 98 rfl rfl false (by decide) rfl) rfl ?_
        refine sk_guard (guard_off 1 true 98 rfl rfl false (by decide) rfl) rfl ?_
        refine sk_guard (guard_off 1 true 98 rfl rfl false (by decide) rfl) rfl ?_
        simp only [ls0, ls1]
        refine sk_guard (guard_off 1 true 98 rfl rfl false (by decide) rfl) rfl ?_
        refine sk_guard (guard_off 1 true 98 rfl rfl false (by decide) rfl) rfl ?_
        refine st (.bool false) rfl rfl (xr_pick false _ rfl rfl rfl) ?_
        refine wl_end ?_
        (try simp only [ls0, ls1])
        exact jmp (fun g_ => hj1053 _ _ _ (false) g_ HS930 (by omega) HJ914 HJ915 HJ918 HJ919 HJ920 HJ921 HJ922 HJ923 HJ924 HJ925 HG926 H) rfl
       rw [if_neg c950] at H
       (try rw [(Bool.eq_false_iff.mpr c950)])
       (try simp only [Bool.not_true, Bool.not_false])
       refine wp_cond_true rfl ?_
       refine wp_seq_k fun K1121 hK1121 => ?_
       refine wl_region ?_
       refine mv_ rfl ?_
       refine mv_ rfl ?_
       obtain ⟨t1122, A1123, H⟩ := bnd H
       refine st_call #[v682, .slice A1 l1.length c1] rfl rfl Tryd.func19 (by kernel_rfl) rfl rfl (mp_ rfl) ?_
       refine (lattice_Lattice_JoinAll.calls k935 v682 t673 A1 c1 l1 t1122  (fun z_ => pal [(0, 0), (13, 0)] (C927 z_)) w928 (fun _ => pal_lt rfl _) (Ft.arg (HJ915.ft) rfl) (Ft.arg HJ914 rfl) HCP1 A1123).mono ?_
       rintro _ w1125 ⟨C1126, rfl, hs1127⟩
       refine ⟨_, rfl, ?_⟩
       replace hs1127 := Step.lift (U := [(0, 0)]) hs1127 [] rfl rfl
       generalize up C927 C1126 w928.heap.size [(0, 0)] = C1126_ at hs1127
       replace HJ920 := HJ920.thru hs1127 rfl
       replace HJ918 := HJ918.thru hs1127 rfl
       replace HJ919 := HJ919.thru hs1127 rfl
       replace HJ925 := HJ925.thru hs1127 rfl
       replace HJ921 := HJ921.thru hs1127 rfl
       replace HJ922 := HJ922.thru hs1127 rfl
       replace HJ923 := HJ923.thru hs1127 rfl
       replace HJ924 := HJ924.thru hs1127 rfl
       replace HG926 := HG926.thru hs1127 rfl
       replace HS930 := HS930.trans hs1127 hc rfl
       (try simp only [ls0, ls1])
       refine st (.bool (decide (t1122 = (-1)))) rfl rfl (xr_bin _ _ _ rfl rfl rfl (B.eql_i64 _ _)) ?_
       refine mv_ rfl ?_
       by_cases c1128 : t1122 = (-1)
       ·rw [if_pos c1128] at H
        (try rw [(decide_eq_true c1128)])
        refine on_guard (guard_on 4 true 94 rfl rfl rfl) ?_
        obtain ⟨t1129, A1130, H⟩ := bnd H
        refine st_call #[] rfl rfl Tryd.func14 (by kernel_rfl) rfl rfl (mp_ rfl) ?_
        refine (blazonlaw14_awake.calls k935 t1129  (fun z_ => pal [(0, 0)] (C1126_ z_)) w1125 (fun _ => pal_lt rfl _) (Ft.arg HG926 rfl) A1130).mono ?_
        rintro _ w1132 ⟨C1133, rfl, hs1134⟩
        refine ⟨_, rfl, ?_⟩
        replace hs1134 := Step.lift (U := [(0, 0)]) hs1134 [] rfl rfl
        generalize up C1126_ C1133 w1125.heap.size [(0, 0)] = C1133_ at hs1134
        replace HJ920 := HJ920.thru hs1134 rfl
        replace HJ918 := HJ918.thru hs1134 rfl
        replace HJ919 := HJ919.thru hs1134 rfl
        replace HJ925 := HJ925.thru hs1134 rfl
        replace HJ921 := HJ921.thru hs1134 rfl
        replace HJ922 := HJ922.thru hs1134 rfl
        replace HJ923 := HJ923.thru hs1134 rfl
        replace HJ924 := HJ924.thru hs1134 rfl
        replace HG926 := HG926.thru hs1134 rfl
        replace HS930 := HS930.trans hs1134 hc rfl
        (try simp only [ls0, ls1])
        refine st (.bool t1129) rfl rfl (xr_pick true _ rfl rfl rfl) ?_
        refine as_ rfl ?_
        refine wl_end ?_
        (try simp only [ls0, ls1])
        refine hK1121 _ _ ?_
        (try clear hK1121 K1121)
        refine wp_ret ?_
        (try simp only [Exit.inBlock, Exit.then, Exit.noGoto])
        (try simp only [ls0, ls1])
        obtain rfl := Option.some.inj H
        refine bodyPost_ret (results_tmp rfl _ _ _) rfl ?_
        exact ⟨_, rfl, HS930⟩
       rw [if_neg c1128] at H
       (try rw [(decide_eq_false c1128)])
       refine sk_guard (guard_off 4 true 94 rfl rfl false (by decide) rfl) rfl ?_
       refine st (.bool false) rfl rfl (xr_pick false _ rfl rfl rfl) ?_
       refine as_ rfl ?_
       refine wl_end ?_
       (try simp only [ls0, ls1])
       refine hK1121 _ _ ?_
       (try clear hK1121 K1121)
       refine wp_ret ?_
       (try simp only [Exit.inBlock, Exit.then, Exit.noGoto])
       (try simp only [ls0, ls1])
       obtain rfl := Option.some.inj H
       refine bodyPost_ret (results_tmp rfl _ _ _) rfl ?_
       exact ⟨_, rfl, HS930⟩
   refine wl_region ?_
   refine mv_ rfl ?_
   refine st (.bool (!decide (t638 = 0))) rfl rfl (xr_bin _ _ _ rfl rfl rfl (B.neq_i64 _ _)) ?_
   refine mv_ rfl ?_
   by_cases c1135 : t638 = 0
   ·rw [if_pos c1135] at H
    (try rw [(decide_eq_true c1135)])
    (try simp only [Bool.not_true, Bool.not_false])
    refine on_guard (guard_on 2 false 59 rfl rfl rfl) ?_
    refine mv_ rfl ?_
    simp only [ls0, ls1]
    refine on_guard (guard_on 2 false 59 rfl rfl rfl) ?_
    refine st (.bool (!decide (t676 = 0))) rfl rfl (xr_bin _ _ _ rfl rfl rfl (B.neq_i64 _ _)) ?_
    refine st (.bool (!decide (t676 = 0))) rfl rfl (xr_pick false _ rfl rfl rfl) ?_
    refine wl_end ?_
    (try simp only [ls0, ls1])
    exact jmp (fun g_ => hj755 _ _ _ (!decide (t676 = 0)) g_ HS619 (by omega) HJ621 HB683 HO658 HR685 HX670 HO700 HO704 HO708 HO712 HX720 HG623 H) rfl
   rw [if_neg c1135] at H
   (try rw [(decide_eq_false c1135)])
   (try simp only [Bool.not_true, Bool.not_false])
   refine sk_guard (guard_off 2 false 59 rfl rfl true (by decide) rfl) rfl ?_
   refine sk_guard (guard_off 2 false 59 rfl rfl true (by decide) rfl) rfl ?_
   refine st (.bool true) rfl rfl (xr_pick true _ rfl rfl rfl) ?_
   refine wl_end ?_
   (try simp only [ls0, ls1])
   exact jmp (fun g_ => hj755 _ _ _ (true) g_ HS619 (by omega) HJ621 HB683 HO658 HR685 HX670 HO700 HO704 HO708 HO712 HX720 HG623 H) rfl
 refine wl_region ?_
 refine mv_ rfl ?_
 obtain ⟨t1136, A1137, H⟩ := bnd H
 refine st_call #[.slice A0 l0.length c0, .int .i64 12] rfl rfl Tryd.func13 (by kernel_rfl) rfl rfl (mp_ rfl) ?_
 refine (blazonref13_Great.calls k A0 c0 l0 12 t1136  (fun z_ => pal [(0, 0)] (c z_)) w (fun _ => pal_lt rfl _) (Ft.arg HP0 rfl) HCP0 A1137).mono ?_
 rintro _ w1139 ⟨C1140, rfl, hs1141⟩
 refine ⟨_, rfl, ?_⟩
 replace hs1141 := Step.lift (U := [(0, 0)]) hs1141 [] rfl rfl
 generalize up c C1140 w.heap.size [(0, 0)] = C1140_ at hs1141
 replace HG := HG.thru hs1141 rfl
 replace HP0 := HP0.thru hs1141 rfl
 replace HP1 := HP1.thru hs1141 rfl
 replace HS := HS.trans hs1141 hc rfl
 (try simp only [ls0, ls1])
 refine mv_ rfl ?_
 by_cases c1142 : t1136 = true
 ·rw [if_pos c1142] at H
  (try rw [c1142])
  refine sk_guard (guard_off 2 false 25 rfl rfl true (by decide) rfl) rfl ?_
  refine sk_guard (guard_off 2 false 25 rfl rfl true (by decide) rfl) rfl ?_
  refine sk_guard (guard_off 2 false 25 rfl rfl true (by decide) rfl) rfl ?_
  simp only [ls0, ls1]
  refine st (.bool true) rfl rfl (xr_pick true _ rfl rfl rfl) ?_
  refine wl_end ?_
  (try simp only [ls0, ls1])
  exact jmp (fun g_ => hj616 _ _ _ (true) g_ HS (by omega) HP0 HP1 HG H) rfl
 rw [if_neg c1142] at H
 (try rw [(Bool.eq_false_iff.mpr c1142)])
 refine on_guard (guard_on 2 false 25 rfl rfl rfl) ?_
 refine mv_ rfl ?_
 refine on_guard (guard_on 2 false 25 rfl rfl rfl) ?_
 refine st (.int .i64 (l1.length : Int)) rfl rfl (xr_builtin #[.slice A1 l1.length c1] (.int .i64 (l1.length : Int)) rfl (mp_ rfl) (by first | rfl | (go_simp; done) | (go_simp; rfl) | (go_simp; exact i64_w _) | (go_simp; exact i32_w _))) ?_
 refine on_guard (guard_on 2 false 25 rfl rfl rfl) ?_
 refine st (.bool (decide ((l1.length : Int) > 60))) rfl rfl (xr_bin _ _ _ rfl rfl rfl (B.gtr_i64 _ _)) ?_
 refine st (.bool (decide ((l1.length : Int) > 60))) rfl rfl (xr_pick false _ rfl rfl rfl) ?_
 simp only [ls0, ls1]
 refine wl_end ?_
 (try simp only [ls0, ls1])
 exact jmp (fun g_ => hj616 _ _ _ (decide ((l1.length : Int) > 60)) g_ HS (by omega) HP0 HP1 HG H) rfl
/-- THE ONE PURE STATEMENT of blazonlaw14_LatticeAlls. -/
def blazonlaw14_LatticeAlls.Pure : Prop := ∀ (l0 : List (S53)) (l1 : List Int) (a2 : Bool), l0.length ≤ maxLen → l0.length * 40 ≤ 140737488351232 → (∀ x_ ∈ l0, Ok53 x_) → l1.length ≤ maxLen → l1.length * 8 ≤ 140737488351232 → (∀ x_ ∈ l1, (Lit.int .i64 x_).wf = true) → ∃ k, blazonlaw14_LatticeAlls.f k l0 l1 a2 = some true

end Go.Proofs.YtpfepkkpbampkaaDoor.PLal
