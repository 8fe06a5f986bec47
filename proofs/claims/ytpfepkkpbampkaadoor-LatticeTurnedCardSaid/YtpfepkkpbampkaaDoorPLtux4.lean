-- By cprint.py, a program of this work. Lean checks it.
import Derived.Test.YtpfepkkpbampkaaDoorPLtux0
import Derived.Test.YtpfepkkpbampkaaDoorPLtux1
import Derived.Test.YtpfepkkpbampkaaDoorPLtux2
import Derived.Test.YtpfepkkpbampkaaDoorPLtux3
namespace Go.Proofs.YtpfepkkpbampkaaDoor.PLtu
open Go.RowKit Go.Proofs.YtpfepkkpbampkaaDoorW.PrintWords Go.Proofs.YtpfepkkpbampkaaDoorW.PrintLast Go.Proofs.YtpfepkkpbampkaaDoorW.PrintMore
set_option linter.unusedVariables false
set_option linter.unusedSimpArgs false

/-! ### lattice_Lattice_Join: function 22 -/
def lattice_Lattice_Join.f (m0_0 : Option S81) (a0_1 : Int) (a0_2 : Int) (a0_3 : Int) (a0_4 : List Int) (a0_5 : List Int) (a0_6 : Int) (a1 : Int) (a2 : Int) : Option (Int × Int) := (some (wrap64 (a0_6 + 1) : Int)).bind fun y40 => ((lattice_Lattice_in.f (some (⟨m0_0, (⟨(⟨a0_1⟩ : S92), (⟨(⟨a0_2, a0_3⟩ : S94)⟩ : S96)⟩ : S98), a0_4, a0_5, (⟨y40⟩ : S105)⟩ : S107) : Option S107) a1 a2).bind fun t48 => (if t48 = true then (if 0 ≤ a1 then (if a1 < 64 then (if 0 ≤ a2 then (if a2 < 64 then (some (wrap64 (List.getD a0_4 ((a1 : Int).toNat * 64 + (a2 : Int).toNat) 0), y40)) else (none)) else (none)) else (none)) else (none)) else (some ((-1), y40))))
set_option maxHeartbeats 2000000 in
set_option maxRecDepth 100000 in
theorem lattice_Lattice_Join.calls (g0 : Nat) (v0_0 : Value) (m0_0 : Option S81) (a0_1 : Int) (a0_2 : Int) (a0_3 : Int) (a0_4 : List Int) (a0_5 : List Int) (a0_6 : Int) (a1 : Int) (a2 : Int) (r1 : Int) (r2 : Int) (c : Nat → Nat) (w : World) (hc : ∀ k, c k < 10) (HP0 : Bx c 1 w g0 107 ([v0_0, .int .u32 a0_1, .int .i32 a0_2, .int .u32 a0_3] ++ (List.map (Value.int .i8) a0_4 ++ (List.map (Value.int .i8) a0_5 ++ ([.int .i64 a0_6]))))) (HP0_0 : Ft c [0] w (fun w_ => (Kd.ptr 81 k81).K w_ m0_0 [v0_0])) (HL0_4 : a0_4.length = 4096) (HL0_5 : a0_5.length = 4096) (H : lattice_Lattice_Join.f m0_0 a0_1 a0_2 a0_3 a0_4 a0_5 a0_6 a1 a2 = some (r1, r2)) :
    Calls Tryd.prog 22 #[.pointer (some ⟨g0, 0, none⟩), .int .i64 a1, .int .i64 a2] w fun e w' => ∃ (c' : Nat → Nat) , e = .returned (.int .i64 r1) ∧ Step c w c' w' [1] ∧ Bx c' 1 w' g0 107 ([v0_0, .int .u32 a0_1, .int .i32 a0_2, .int .u32 a0_3] ++ (List.map (Value.int .i8) a0_4 ++ (List.map (Value.int .i8) a0_5 ++ ([.int .i64 r2])))) := by
 unfold lattice_Lattice_Join.f at H
 have HS := Step.refl c w [1]
 go_enter Tryd.func22, Tryd.ntmps22
 refine wp_seq_k fun K31 hK31 => ?_
 refine wl_region ?_
 refine st (.int .i64 0) rfl rfl (xr_assign _ rfl rfl) ?_
 refine wl_end ?_
 (try simp only [ls0, ls1])
 refine hK31 _ _ ?_
 (try clear hK31 K31)
 refine wp_seq_k fun K32 hK32 => ?_
 refine wp_seq_k fun K39 hK39 => ?_
 refine wl_region ?_
 refine mv_ rfl ?_
 refine st (.bool true) rfl rfl (xr_bin (.pointer (some ⟨g0, 0, none⟩)) (.pointer none) (.bool true) rfl rfl rfl (B.neq_pn ⟨_, Tryd.underlying36⟩ ⟨g0, 0, none⟩)) ?_
 refine wl_end ?_
 (try simp only [ls0, ls1])
 refine hK39 _ _ ?_
 (try clear hK39 K39)
 refine wp_cond_true rfl ?_
 refine wl_region ?_
 refine mv_ rfl ?_
 refine st (.pointer (some ⟨g0, 0, none⟩)) rfl rfl (xr_nilCheck _ rfl rfl) ?_
 refine st (.pointer (some ⟨g0, 8196, none⟩)) rfl rfl (xr_fieldAddr _ _ rfl rfl (bx_field2 Tryd.underlying107 rfl rfl (by kernel_rfl))) ?_
 obtain ⟨y40, A41, H⟩ := bnd H
 refine st_call #[.pointer (some ⟨g0, 8196, none⟩), .int .i64 1] rfl rfl Tryd.func63 (by kernel_rfl) rfl rfl (mp_ rfl) ?_
 refine atomic_add (C := c) (pre := [v0_0, .int .u32 a0_1, .int .i32 a0_2, .int .u32 a0_3] ++ (List.map (Value.int .i8) a0_4 ++ (List.map (Value.int .i8) a0_5))) (post := []) (old := a0_6) (y := 1) HP0 (by first | (simp only [List.append_assoc, List.cons_append, List.nil_append, List.append_nil]; done) | rfl) (by simp [HL0_4, HL0_5]) (r := y40) (Option.some.inj A41) (xs' := [v0_0, .int .u32 a0_1, .int .i32 a0_2, .int .u32 a0_3] ++ (List.map (Value.int .i8) a0_4 ++ (List.map (Value.int .i8) a0_5 ++ ([.int .i64 y40])))) (by first | (simp only [List.append_assoc, List.cons_append, List.nil_append, List.append_nil]; done) | rfl) ?_
 intro w42 HX43 hs44
 replace HP0_0 := HP0_0.thru hs44 rfl
 replace HS := HS.trans hs44 hc rfl
 (try simp only [ls0, ls1])
 refine wl_end ?_
 (try simp only [ls0, ls1])
 refine hK32 _ _ ?_
 (try clear hK32 K32)
 refine wp_seq_k fun K45 hK45 => ?_
 refine wp_seq_k fun K46 hK46 => ?_
 refine wl_region ?_
 refine mv_ rfl ?_
 refine mv_ rfl ?_
 refine mv_ rfl ?_
 have HP47 : Ft c [0, 1] w42 (fun w_ => (Kd.ptr 107 k107).K w_ (some (⟨m0_0, (⟨(⟨a0_1⟩ : S92), (⟨(⟨a0_2, a0_3⟩ : S94)⟩ : S96)⟩ : S98), a0_4, a0_5, (⟨y40⟩ : S105)⟩ : S107)) [.pointer (some ⟨g0, 0, none⟩)]) := ptr_mk (Ft.more (HX43.ft) rfl) (k107_mkF _ _ (⟨m0_0, (⟨(⟨a0_1⟩ : S92), (⟨(⟨a0_2, a0_3⟩ : S94)⟩ : S96)⟩ : S98), a0_4, a0_5, (⟨y40⟩ : S105)⟩ : S107) (Ft.more HP0_0 rfl) HL0_4 HL0_5)
 obtain ⟨t48, A49, H⟩ := bnd H
 refine st_call #[.pointer (some ⟨g0, 0, none⟩), .int .i64 a1, .int .i64 a2] rfl rfl Tryd.func62 (by kernel_rfl) rfl rfl (mp_ rfl) ?_
 refine (lattice_Lattice_in.calls (.pointer (some ⟨g0, 0, none⟩)) (some (⟨m0_0, (⟨(⟨a0_1⟩ : S92), (⟨(⟨a0_2, a0_3⟩ : S94)⟩ : S96)⟩ : S98), a0_4, a0_5, (⟨y40⟩ : S105)⟩ : S107) : Option S107) a1 a2 t48  (fun z_ => pal [(0, 0), (1, 0)] (c z_)) w42 (fun _ => pal_lt rfl _) (Ft.arg HP47 rfl) A49).mono ?_
 rintro _ w51 ⟨C52, rfl, hs53⟩
 refine ⟨_, rfl, ?_⟩
 replace hs53 := Step.lift (U := [(0, 0)]) hs53 [] rfl rfl
 generalize up c C52 w42.heap.size [(0, 0)] = C52_ at hs53
 replace HX43 := HX43.thru hs53 rfl
 replace HP0_0 := HP0_0.thru hs53 rfl
 replace HS := HS.trans hs53 hc rfl
 (try simp only [ls0, ls1])
 refine st (.bool (!t48)) rfl rfl (xr_un (.bool t48) _ rfl rfl (by first | rfl | (go_simp; done) | (go_simp; rfl) | (go_simp; exact i64_w _) | (go_simp; exact i32_w _))) ?_
 refine wl_end ?_
 (try simp only [ls0, ls1])
 refine hK46 _ _ ?_
 (try clear hK46 K46)
 by_cases c54 : t48 = true
 ·rw [if_pos c54] at H
  (try rw [c54])
  (try simp only [Bool.not_true, Bool.not_false])
  refine wp_cond_false rfl ?_
  refine wp_skip ?_
  (try simp only [ls0, ls1])
  refine hK45 _ _ ?_
  (try clear hK45 K45)
  refine wp_seq_k fun K55 hK55 => ?_
  refine wl_region ?_
  refine mv_ rfl ?_
  refine mv_ rfl ?_
  refine mv_ rfl ?_
  refine st (.pointer (some ⟨g0, 0, none⟩)) rfl rfl (xr_nilCheck _ rfl rfl) ?_
  simp only [ls0, ls1]
  refine st (.pointer (some ⟨g0, 4, none⟩)) rfl rfl (xr_fieldAddr _ _ rfl rfl (bx_field2 Tryd.underlying107 rfl rfl (by kernel_rfl))) ?_
  obtain ⟨c56, H⟩ := if_some H
  obtain ⟨c57, H⟩ := if_some H
  refine st (.pointer (some ⟨g0, 4 + ((a1 : Int).toNat * 64), none⟩)) rfl rfl (xr_indexAddr _ _ _ rfl rfl rfl (arr_index (sz := 64) Tryd.underlying102 (by kernel_rfl) (by first | assumption | decide | omega) (by first | assumption | decide | omega) (by omega))) ?_
  obtain ⟨c58, H⟩ := if_some H
  obtain ⟨c59, H⟩ := if_some H
  refine st (.pointer (some ⟨g0, 4 + ((a1 : Int).toNat * 64 + (a2 : Int).toNat), none⟩)) rfl rfl (xr_indexAddr _ _ _ rfl rfl rfl (arr_index (sz := 1) Tryd.underlying100 (by kernel_rfl) (by first | assumption | decide | omega) (by first | assumption | decide | omega) (by omega))) ?_
  refine st (.int .i8 (List.getD a0_4 ((a1 : Int).toNat * 64 + (a2 : Int).toNat) 0)) rfl rfl (xr_load _ _ rfl rfl (arr_load (o := 4) (N := 4096) (pre := [v0_0, .int .u32 a0_1, .int .i32 a0_2, .int .u32 a0_3]) (post := List.map (Value.int .i8) a0_5 ++ ([.int .i64 y40])) (enc := (Value.int .i8)) (l := a0_4) (i := (a1 : Int).toNat * 64 + (a2 : Int).toNat) 0 Tryd.underlying99 rfl (HX43).2 (by first | (simp only [List.append_assoc, List.cons_append, List.nil_append, List.append_nil]; done) | rfl) rfl HL0_4 (by omega) (by omega))) ?_
  simp only [ls0, ls1]
  refine st (.int .i64 (wrap64 (List.getD a0_4 ((a1 : Int).toNat * 64 + (a2 : Int).toNat) 0))) rfl rfl (xr_conv (.int .i8 (List.getD a0_4 ((a1 : Int).toNat * 64 + (a2 : Int).toNat) 0)) _ rfl rfl (by first | rfl | (go_simp; done) | (go_simp; rfl) | (go_simp; exact i64_w _) | (go_simp; exact i32_w _))) ?_
  refine as_ rfl ?_
  refine wl_end ?_
  (try simp only [ls0, ls1])
  refine hK55 _ _ ?_
  (try clear hK55 K55)
  refine wp_ret ?_
  (try simp only [Exit.inBlock, Exit.then, Exit.noGoto])
  (try simp only [ls0, ls1])
  simp only [Option.some.injEq, Prod.mk.injEq] at H
  obtain ⟨rfl, rfl⟩ := H
  refine bodyPost_ret (results_tmp rfl _ _ _) rfl ?_
  exact ⟨_, rfl, HS, HX43⟩
 rw [if_neg c54] at H
 (try rw [(Bool.eq_false_iff.mpr c54)])
 (try simp only [Bool.not_true, Bool.not_false])
 refine wp_cond_true rfl ?_
 refine wp_seq_k fun K60 hK60 => ?_
 refine wl_region ?_
 refine st (.int .i64 (-1)) rfl rfl (xr_assign _ rfl rfl) ?_
 refine wl_end ?_
 (try simp only [ls0, ls1])
 refine hK60 _ _ ?_
 (try clear hK60 K60)
 refine wp_ret ?_
 (try simp only [Exit.inBlock, Exit.then, Exit.noGoto])
 (try simp only [ls0, ls1])
 simp only [Option.some.injEq, Prod.mk.injEq] at H
 obtain ⟨rfl, rfl⟩ := H
 refine bodyPost_ret (results_tmp rfl _ _ _) rfl ?_
 exact ⟨_, rfl, HS, HX43⟩

/-! ### blazonlaw14_square: function 49 -/
def blazonlaw14_square.f  : Option ((List (S53))) := (some ([(⟨(⟨#[98, 111, 116]⟩ : ByteArray), (⟨#[108]⟩ : ByteArray), 0⟩ : S53), (⟨(⟨#[98, 111, 116]⟩ : ByteArray), (⟨#[114]⟩ : ByteArray), 0⟩ : S53), (⟨(⟨#[108]⟩ : ByteArray), (⟨#[116, 111, 112]⟩ : ByteArray), 0⟩ : S53), (⟨(⟨#[114]⟩ : ByteArray), (⟨#[116, 111, 112]⟩ : ByteArray), 0⟩ : S53)] : List (S53))).bind fun y14 => (some y14)
set_option maxHeartbeats 2000000 in
set_option maxRecDepth 100000 in
theorem blazonlaw14_square.calls  (r : List (S53)) (c : Nat → Nat) (w : World) (hc : ∀ k, c k < 10)  (H : blazonlaw14_square.f = some r) :
    Calls Tryd.prog 49 #[] w fun e w' => ∃ (c' : Nat → Nat) (A_r : Option Addr) (c_r : Nat), e = .returned (.slice A_r r.length c_r) ∧ Step c w c' w' [] ∧ Own c' 5 w' k53 53 (.slice A_r r.length c_r) r ∧ r.length ≤ c_r := by
 unfold blazonlaw14_square.f at H
 have HS := Step.refl c w []
 go_enter Tryd.func49, Tryd.ntmps49
 refine wp_seq_k fun K12 hK12 => ?_
 refine wl_region ?_
 refine st (.slice none 0 0) rfl rfl (xr_assign _ rfl rfl) ?_
 refine wl_end ?_
 (try simp only [ls0, ls1])
 refine hK12 _ _ ?_
 (try clear hK12 K12)
 refine wp_seq_k fun K13 hK13 => ?_
 refine wl_region ?_
 refine st (.agg #[.string (⟨#[98, 111, 116]⟩ : ByteArray), .string (⟨#[108]⟩ : ByteArray), .int .i64 0]) rfl rfl (xr_build #[(0, .string (⟨#[98, 111, 116]⟩ : ByteArray)), (1, .string (⟨#[108]⟩ : ByteArray))] (.agg #[.string (⟨#[98, 111, 116]⟩ : ByteArray), .string (⟨#[108]⟩ : ByteArray), .int .i64 0]) rfl (mp_ rfl) (by first | rfl | (go_simp; done) | (go_simp; rfl) | (go_simp; exact i64_w _) | (go_simp; exact i32_w _))) ?_
 refine st (.agg #[.string (⟨#[98, 111, 116]⟩ : ByteArray), .string (⟨#[114]⟩ : ByteArray), .int .i64 0]) rfl rfl (xr_build #[(0, .string (⟨#[98, 111, 116]⟩ : ByteArray)), (1, .string (⟨#[114]⟩ : ByteArray))] (.agg #[.string (⟨#[98, 111, 116]⟩ : ByteArray), .string (⟨#[114]⟩ : ByteArray), .int .i64 0]) rfl (mp_ rfl) (by first | rfl | (go_simp; done) | (go_simp; rfl) | (go_simp; exact i64_w _) | (go_simp; exact i32_w _))) ?_
 refine st (.agg #[.string (⟨#[108]⟩ : ByteArray), .string (⟨#[116, 111, 112]⟩ : ByteArray), .int .i64 0]) rfl rfl (xr_build #[(0, .string (⟨#[108]⟩ : ByteArray)), (1, .string (⟨#[116, 111, 112]⟩ : ByteArray))] (.agg #[.string (⟨#[108]⟩ : ByteArray), .string (⟨#[116, 111, 112]⟩ : ByteArray), .int .i64 0]) rfl (mp_ rfl) (by first | rfl | (go_simp; done) | (go_simp; rfl) | (go_simp; exact i64_w _) | (go_simp; exact i32_w _))) ?_
 refine st (.agg #[.string (⟨#[114]⟩ : ByteArray), .string (⟨#[116, 111, 112]⟩ : ByteArray), .int .i64 0]) rfl rfl (xr_build #[(0, .string (⟨#[114]⟩ : ByteArray)), (1, .string (⟨#[116, 111, 112]⟩ : ByteArray))] (.agg #[.string (⟨#[114]⟩ : ByteArray), .string (⟨#[116, 111, 112]⟩ : ByteArray), .int .i64 0]) rfl (mp_ rfl) (by first | rfl | (go_simp; done) | (go_simp; rfl) | (go_simp; exact i64_w _) | (go_simp; exact i32_w _))) ?_
 simp only [ls0, ls1]
 obtain ⟨y14, A15, H⟩ := bnd H
 refine Own.lit k53 (C := c) (i := 11) rfl 53 rfl (xs := [(⟨(⟨#[98, 111, 116]⟩ : ByteArray), (⟨#[108]⟩ : ByteArray), 0⟩ : S53), (⟨(⟨#[98, 111, 116]⟩ : ByteArray), (⟨#[114]⟩ : ByteArray), 0⟩ : S53), (⟨(⟨#[108]⟩ : ByteArray), (⟨#[116, 111, 112]⟩ : ByteArray), 0⟩ : S53), (⟨(⟨#[114]⟩ : ByteArray), (⟨#[116, 111, 112]⟩ : ByteArray), 0⟩ : S53)]) (inner := [.string (⟨#[98, 111, 116]⟩ : ByteArray), .string (⟨#[108]⟩ : ByteArray), .int .i64 0, .string (⟨#[98, 111, 116]⟩ : ByteArray), .string (⟨#[114]⟩ : ByteArray), .int .i64 0, .string (⟨#[108]⟩ : ByteArray), .string (⟨#[116, 111, 112]⟩ : ByteArray), .int .i64 0, .string (⟨#[114]⟩ : ByteArray), .string (⟨#[116, 111, 112]⟩ : ByteArray), .int .i64 0]) (by first | (go_simp; done) | (go_simp; rfl)) (reps_cons (k53_mkF _ _ (⟨(⟨#[98, 111, 116]⟩ : ByteArray), (⟨#[108]⟩ : ByteArray), 0⟩ : S53)) rfl (reps_cons (k53_mkF _ _ (⟨(⟨#[98, 111, 116]⟩ : ByteArray), (⟨#[114]⟩ : ByteArray), 0⟩ : S53)) rfl (reps_cons (k53_mkF _ _ (⟨(⟨#[108]⟩ : ByteArray), (⟨#[116, 111, 112]⟩ : ByteArray), 0⟩ : S53)) rfl (reps_cons (k53_mkF _ _ (⟨(⟨#[114]⟩ : ByteArray), (⟨#[116, 111, 112]⟩ : ByteArray), 0⟩ : S53)) rfl (Reps.none _ _))))) (by simp only [List.length_cons, List.length_nil]; omega) (Option.some.inj A15) ?_
 intro A16 cp17 w18 C19 HO20 HC21 hs22
 replace HS := HS.trans hs22 hc rfl
 (try simp only [ls0, ls1])
 refine as_ rfl ?_
 refine wl_end ?_
 (try simp only [ls0, ls1])
 refine hK13 _ _ ?_
 (try clear hK13 K13)
 refine wp_ret ?_
 (try simp only [Exit.inBlock, Exit.then, Exit.noGoto])
 (try simp only [ls0, ls1])
 replace HO20 := Own.recolor (b := 5) HO20 (by decide)
 replace HS := Step.recol (a := 11) (b := 5) HS hc (by decide)
 obtain rfl := Option.some.inj H
 refine bodyPost_ret (results_tmp rfl _ _ _) rfl ?_
 exact ⟨_, A16, cp17, rfl, HS, HO20, HC21⟩

/-! ### blazonlaw14_awake: function 14 -/
def blazonlaw14_awake.f (k : Nat)  : Option (Bool) := (blazonlaw14_square.f).bind fun t88 => ((order_New.f k t88).bind fun bt99 => ((lattice_New.f k bt99.1).bind fun bt110 => ((some ([(⟨(⟨#[97]⟩ : ByteArray), (⟨#[]⟩ : ByteArray), 0⟩ : S53), (⟨(⟨#[98]⟩ : ByteArray), (⟨#[]⟩ : ByteArray), 0⟩ : S53)] : List (S53))).bind fun y122 => ((order_New.f k y122).bind fun bt132 => ((lattice_New.f k bt132.1).bind fun bt143 => (onOpt bt110.1 (none) (fun o154 => (if bt110.2.2.2 = 0 then ((lattice_Lattice_Join.f o154.f0 o154.f1.f0.f0 o154.f1.f1.f0.f0 o154.f1.f1.f0.f1 o154.f2 o154.f3 o154.f4.f0 1 2).bind fun bt162 => (if bt162.1 = 3 then (some (decide (bt143.2.2.2 = 17))) else (some false))) else (some false)))))))))

set_option maxHeartbeats 2000000 in
set_option maxRecDepth 100000 in
theorem blazonlaw14_awake.calls (k : Nat)  (r : Bool) (c : Nat → Nat) (w : World) (hc : ∀ k, c k < 10) (HG : Ft c [0] w GTab) (H : blazonlaw14_awake.f k = some r) :
    Calls Tryd.prog 14 #[] w fun e w' => ∃ (c' : Nat → Nat) , e = .returned (.bool r) ∧ Step c w c' w' [] := by
 unfold blazonlaw14_awake.f at H
 have HS := Step.refl c w []
 go_enter Tryd.func14, Tryd.ntmps14
 refine wp_seq_k fun K86 hK86 => ?_
 refine wl_region ?_
 refine st (.bool false) rfl rfl (xr_assign _ rfl rfl) ?_
 refine wl_end ?_
 (try simp only [ls0, ls1])
 refine hK86 _ _ ?_
 (try clear hK86 K86)
 refine wp_seq_k fun K87 hK87 => ?_
 refine wl_region ?_
 obtain ⟨t88, A89, H⟩ := bnd H
 refine st_call #[] rfl rfl Tryd.func49 (by kernel_rfl) rfl rfl (mp_ rfl) ?_
 refine (blazonlaw14_square.calls t88  (fun z_ => pal [(0, 0)] (c z_)) w (fun _ => pal_lt rfl _) A89).mono ?_
 rintro _ w91 ⟨C92, A94, cp95, rfl, hs93, HO96, HC97⟩
 refine ⟨_, rfl, ?_⟩
 replace HO96 := Own.res (U := [(0, 0), (5, 11)]) (j := 11) HO96 hs93 (by rfl) (by decide) rfl rfl
 replace hs93 := Step.lift (U := [(0, 0), (5, 11)]) hs93 [] rfl rfl
 generalize up c C92 w.heap.size [(0, 0), (5, 11)] = C92_ at HO96 hs93
 replace HG := HG.thru hs93 rfl
 replace HS := HS.trans hs93 hc rfl
 (try simp only [ls0, ls1])
 replace HG := Ft.recol (a := 11) (b := 0) HG (.inl rfl)
 have HR98 := Ft.recolor (a := 11) (b := 0) (HO96.ft) [0] rfl
 replace HS := Step.recol (a := 11) (b := 0) HS hc (by decide)
 obtain ⟨⟨t99, t100, t101⟩, A102, H⟩ := bnd H
 (try dsimp only at H)
 refine st_call #[.slice A94 t88.length cp95] rfl rfl Tryd.func15 (by kernel_rfl) rfl rfl (mp_ rfl) ?_
 refine (order_New.calls k A94 cp95 t88 t99 t100 t101  (fun z_ => pal [(0, 0)] ((recol C92_ 11 0) z_)) w91 (fun _ => pal_lt rfl _) (Ft.arg HR98 rfl) HC97 A102).mono ?_
 rintro _ w104 ⟨C105, v107, rfl, hs106, HB108⟩
 refine ⟨_, rfl, ?_⟩
 replace HB108 := Ft.res (U := [(0, 0)]) HB108 hs106 [0] rfl rfl rfl
 replace hs106 := Step.lift (U := [(0, 0)]) hs106 [] rfl rfl
 generalize up (recol C92_ 11 0) C105 w91.heap.size [(0, 0)] = C105_ at HB108 hs106
 replace HG := HG.thru hs106 rfl
 replace HS := HS.trans hs106 hc rfl
 (try simp only [ls0, ls1])
 refine mv_ rfl ?_
 refine st (v107) rfl rfl (xr_extract (.tuple #[v107, .int .i64 t100, .int .i64 t101]) _ rfl rfl rfl) ?_
 refine st (.int .i64 t100) rfl rfl (xr_extract (.tuple #[v107, .int .i64 t100, .int .i64 t101]) _ rfl rfl rfl) ?_
 refine st (.int .i64 t101) rfl rfl (xr_extract (.tuple #[v107, .int .i64 t100, .int .i64 t101]) _ rfl rfl rfl) ?_
 simp only [ls0, ls1]
 refine as_ rfl ?_
 refine as_ rfl ?_
 refine as_ rfl ?_
 refine wl_end ?_
 (try simp only [ls0, ls1])
 refine hK87 _ _ ?_
 (try clear hK87 K87)
 refine wp_seq_k fun K109 hK109 => ?_
 refine wl_region ?_
 refine mv_ rfl ?_
 obtain ⟨⟨t110, t111, t112, t113⟩, A114, H⟩ := bnd H
 (try dsimp only at H)
 refine st_call #[v107] rfl rfl Tryd.func17 (by kernel_rfl) rfl rfl (mp_ rfl) ?_
 refine (lattice_New.calls k v107 t99 t110 t111 t112 t113  (fun z_ => pal [(0, 0)] (C105_ z_)) w104 (fun _ => pal_lt rfl _) (Ft.arg HG rfl) (Ft.arg HB108 rfl) A114).mono ?_
 rintro _ w116 ⟨C117, v119, rfl, hs118, HB120⟩
 refine ⟨_, rfl, ?_⟩
 replace HB120 := OwnPt.res (U := [(0, 0), (5, 12)]) (j := 12) HB120 hs118 (by rfl) (by rfl) (by decide) rfl rfl
 replace hs118 := Step.lift (U := [(0, 0), (5, 12)]) hs118 [] rfl rfl
 generalize up C105_ C117 w104.heap.size [(0, 0), (5, 12)] = C117_ at HB120 hs118
 replace HG := HG.thru hs118 rfl
 replace HS := HS.trans hs118 hc rfl
 (try simp only [ls0, ls1])
 refine mv_ rfl ?_
 refine st (v119) rfl rfl (xr_extract (.tuple #[v119, .int .i64 t111, .int .i64 t112, .int .i64 t113]) _ rfl rfl rfl) ?_
 refine st (.int .i64 t111) rfl rfl (xr_extract (.tuple #[v119, .int .i64 t111, .int .i64 t112, .int .i64 t113]) _ rfl rfl rfl) ?_
 refine st (.int .i64 t112) rfl rfl (xr_extract (.tuple #[v119, .int .i64 t111, .int .i64 t112, .int .i64 t113]) _ rfl rfl rfl) ?_
 simp only [ls0, ls1]
 refine st (.int .i64 t113) rfl rfl (xr_extract (.tuple #[v119, .int .i64 t111, .int .i64 t112, .int .i64 t113]) _ rfl rfl rfl) ?_
 refine as_ rfl ?_
 refine as_ rfl ?_
 refine as_ rfl ?_
 simp only [ls0, ls1]
 refine as_ rfl ?_
 refine wl_end ?_
 (try simp only [ls0, ls1])
 refine hK109 _ _ ?_
 (try clear hK109 K109)
 refine wp_seq_k fun K121 hK121 => ?_
 refine wl_region ?_
 refine st (.agg #[.string (⟨#[97]⟩ : ByteArray), .string (⟨#[]⟩ : ByteArray), .int .i64 0]) rfl rfl (xr_build #[(0, .string (⟨#[97]⟩ : ByteArray))] (.agg #[.string (⟨#[97]⟩ : ByteArray), .string (⟨#[]⟩ : ByteArray), .int .i64 0]) rfl (mp_ rfl) (by first | rfl | (go_simp; done) | (go_simp; rfl) | (go_simp; exact i64_w _) | (go_simp; exact i32_w _))) ?_
 refine st (.agg #[.string (⟨#[98]⟩ : ByteArray), .string (⟨#[]⟩ : ByteArray), .int .i64 0]) rfl rfl (xr_build #[(0, .string (⟨#[98]⟩ : ByteArray))] (.agg #[.string (⟨#[98]⟩ : ByteArray), .string (⟨#[]⟩ : ByteArray), .int .i64 0]) rfl (mp_ rfl) (by first | rfl | (go_simp; done) | (go_simp; rfl) | (go_simp; exact i64_w _) | (go_simp; exact i32_w _))) ?_
 obtain ⟨y122, A123, H⟩ := bnd H
 refine Own.lit k53 (C := C117_) (i := 13) rfl 53 rfl (xs := [(⟨(⟨#[97]⟩ : ByteArray), (⟨#[]⟩ : ByteArray), 0⟩ : S53), (⟨(⟨#[98]⟩ : ByteArray), (⟨#[]⟩ : ByteArray), 0⟩ : S53)]) (inner := [.string (⟨#[97]⟩ : ByteArray), .string (⟨#[]⟩ : ByteArray), .int .i64 0, .string (⟨#[98]⟩ : ByteArray), .string (⟨#[]⟩ : ByteArray), .int .i64 0]) (by first | (go_simp; done) | (go_simp; rfl)) (reps_cons (k53_mkF _ _ (⟨(⟨#[97]⟩ : ByteArray), (⟨#[]⟩ : ByteArray), 0⟩ : S53)) rfl (reps_cons (k53_mkF _ _ (⟨(⟨#[98]⟩ : ByteArray), (⟨#[]⟩ : ByteArray), 0⟩ : S53)) rfl (Reps.none _ _))) (by simp only [List.length_cons, List.length_nil]; omega) (Option.some.inj A123) ?_
 intro A124 cp125 w126 C127 HO128 HC129 hs130
 replace HG := HG.thru hs130 rfl
 replace HB120 := HB120.thru hs130 rfl
 replace HS := HS.trans hs130 hc rfl
 (try simp only [ls0, ls1])
 replace HG := Ft.recol (a := 13) (b := 0) HG (.inl rfl)
 replace HB120 := OwnPt.recol (a := 13) (b := 0) HB120 (by decide) (by decide)
 have HR131 := Ft.recolor (a := 13) (b := 0) (HO128.ft) [0] rfl
 replace HS := Step.recol (a := 13) (b := 0) HS hc (by decide)
 obtain ⟨⟨t132, t133, t134⟩, A135, H⟩ := bnd H
 (try dsimp only at H)
 refine st_call #[.slice A124 y122.length cp125] rfl rfl Tryd.func15 (by kernel_rfl) rfl rfl (mp_ rfl) ?_
 refine (order_New.calls k A124 cp125 y122 t132 t133 t134  (fun z_ => pal [(0, 0)] ((recol C127 13 0) z_)) w126 (fun _ => pal_lt rfl _) (Ft.arg HR131 rfl) HC129 A135).mono ?_
 rintro _ w137 ⟨C138, v140, rfl, hs139, HB141⟩
 refine ⟨_, rfl, ?_⟩
 replace HB141 := Ft.res (U := [(0, 0)]) HB141 hs139 [0] rfl rfl rfl
 replace hs139 := Step.lift (U := [(0, 0)]) hs139 [] rfl rfl
 generalize up (recol C127 13 0) C138 w126.heap.size [(0, 0)] = C138_ at HB141 hs139
 replace HG := HG.thru hs139 rfl
 replace HB120 := HB120.thru hs139 rfl
 replace HS := HS.trans hs139 hc rfl
 (try simp only [ls0, ls1])
 refine mv_ rfl ?_
 refine st (v140) rfl rfl (xr_extract (.tuple #[v140, .int .i64 t133, .int .i64 t134]) _ rfl rfl rfl) ?_
 refine st (.int .i64 t133) rfl rfl (xr_extract (.tuple #[v140, .int .i64 t133, .int .i64 t134]) _ rfl rfl rfl) ?_
 refine st (.int .i64 t134) rfl rfl (xr_extract (.tuple #[v140, .int .i64 t133, .int .i64 t134]) _ rfl rfl rfl) ?_
 simp only [ls0, ls1]
 refine as_ rfl ?_
 refine as_ rfl ?_
 refine as_ rfl ?_
 refine wl_end ?_
 (try simp only [ls0, ls1])
 refine hK121 _ _ ?_
 (try clear hK121 K121)
 refine wp_seq_k fun K142 hK142 => ?_
 refine wl_region ?_
 refine mv_ rfl ?_
 obtain ⟨⟨t143, t144, t145, t146⟩, A147, H⟩ := bnd H
 (try dsimp only at H)
 refine st_call #[v140] rfl rfl Tryd.func17 (by kernel_rfl) rfl rfl (mp_ rfl) ?_
 refine (lattice_New.calls k v140 t132 t143 t144 t145 t146  (fun z_ => pal [(0, 0)] (C138_ z_)) w137 (fun _ => pal_lt rfl _) (Ft.arg HG rfl) (Ft.arg HB141 rfl) A147).mono ?_
 rintro _ w149 ⟨C150, v152, rfl, hs151, HB153⟩
 refine ⟨_, rfl, ?_⟩
 replace HB153 := OwnPt.res (U := [(0, 0), (5, 14)]) (j := 14) HB153 hs151 (by rfl) (by rfl) (by decide) rfl rfl
 replace hs151 := Step.lift (U := [(0, 0), (5, 14)]) hs151 [] rfl rfl
 generalize up C138_ C150 w137.heap.size [(0, 0), (5, 14)] = C150_ at HB153 hs151
 replace HG := HG.thru hs151 rfl
 replace HB120 := HB120.thru hs151 rfl
 replace HS := HS.trans hs151 hc rfl
 (try simp only [ls0, ls1])
 refine mv_ rfl ?_
 refine st (v152) rfl rfl (xr_extract (.tuple #[v152, .int .i64 t144, .int .i64 t145, .int .i64 t146]) _ rfl rfl rfl) ?_
 refine st (.int .i64 t144) rfl rfl (xr_extract (.tuple #[v152, .int .i64 t144, .int .i64 t145, .int .i64 t146]) _ rfl rfl rfl) ?_
 refine st (.int .i64 t145) rfl rfl (xr_extract (.tuple #[v152, .int .i64 t144, .int .i64 t145, .int .i64 t146]) _ rfl rfl rfl) ?_
 simp only [ls0, ls1]
 refine st (.int .i64 t146) rfl rfl (xr_extract (.tuple #[v152, .int .i64 t144, .int .i64 t145, .int .i64 t146]) _ rfl rfl rfl) ?_
 refine as_ rfl ?_
 refine as_ rfl ?_
 refine as_ rfl ?_
 simp only [ls0, ls1]
 refine as_ rfl ?_
 refine wl_end ?_
 (try simp only [ls0, ls1])
 refine hK142 _ _ ?_
 (try clear hK142 K142)
 cases t110 with
 | none =>
  (try simp only [onOpt] at H)
  obtain rfl := OwnPt.isNone HB120
  exact absurd H (by simp)
 | some o154 =>
  (try simp only [onOpt] at H)
  obtain ⟨g155, cs156, rfl, HX157, HK158⟩ := OwnPt.isSome HB120
  obtain ⟨vq159_0, rfl, HRq159_0, HLq159_4, HLq159_5⟩ := k107_openF HK158
  replace HRq159_0 : Ft C150_ [0] w149 (fun w_ => (Kd.ptr 81 k81).K w_ o154.f0 [vq159_0]) := HRq159_0
  replace HX157 : Bx C150_ 12 w149 g155 107 ([vq159_0, .int .u32 o154.f1.f0.f0, .int .i32 o154.f1.f1.f0.f0, .int .u32 o154.f1.f1.f0.f1] ++ (List.map (Value.int .i8) o154.f2 ++ (List.map (Value.int .i8) o154.f3 ++ ([.int .i64 o154.f4.f0])))) := HX157
  refine wp_seq_k fun K160 hK160 => ?_
  refine wl_region ?_
  refine mv_ rfl ?_
  refine st (.bool (decide (t113 = 0))) rfl rfl (xr_bin _ _ _ rfl rfl rfl (B.eql_i64 _ _)) ?_
  refine mv_ rfl ?_
  by_cases c161 : t113 = 0
  ·rw [if_pos c161] at H
   (try rw [(decide_eq_true c161)])
   refine on_guard (guard_on 2 true 45 rfl rfl rfl) ?_
   refine mv_ rfl ?_
   simp only [ls0, ls1]
   refine on_guard (guard_on 2 true 45 rfl rfl rfl) ?_
   obtain ⟨⟨t162, t163⟩, A164, H⟩ := bnd H
   (try dsimp only at H)
   refine st_call #[.pointer (some ⟨g155, 0, none⟩), .int .i64 1, .int .i64 2] rfl rfl Tryd.func22 (by kernel_rfl) rfl rfl (mp_ rfl) ?_
   refine (lattice_Lattice_Join.calls g155 vq159_0 o154.f0 o154.f1.f0.f0 o154.f1.f1.f0.f0 o154.f1.f1.f0.f1 o154.f2 o154.f3 o154.f4.f0 1 2 t162 t163  (fun z_ => pal [(0, 0), (12, 1)] (C150_ z_)) w149 (fun _ => pal_lt rfl _) (Bx.arg HX157 rfl) (Ft.arg HRq159_0 rfl) HLq159_4 HLq159_5 A164).mono ?_
   rintro _ w166 ⟨C167, rfl, hs168, HX169⟩
   refine ⟨_, rfl, ?_⟩
   replace HX169 := Bx.res (U := [(0, 0), (1, 12)]) (j := 12) HX169 hs168 (by rfl) (by decide) rfl
   replace hs168 := Step.lift (U := [(0, 0), (1, 12)]) hs168 [12] rfl rfl
   generalize up C150_ C167 w149.heap.size [(0, 0), (1, 12)] = C167_ at HX169 hs168
   replace HG := HG.thru hs168 rfl
   replace HRq159_0 := HRq159_0.thru hs168 rfl
   replace HS := HS.trans hs168 hc rfl
   (try simp only [ls0, ls1])
   refine on_guard (guard_on 2 true 45 rfl rfl rfl) ?_
   refine st (.bool (decide (t162 = 3))) rfl rfl (xr_bin _ _ _ rfl rfl rfl (B.eql_i64 _ _)) ?_
   refine st (.bool (decide (t162 = 3))) rfl rfl (xr_pick true _ rfl rfl rfl) ?_
   refine mv_ rfl ?_
   by_cases c170 : t162 = 3
   ·rw [if_pos c170] at H
    (try rw [(decide_eq_true c170)])
    refine on_guard (guard_on 7 true 50 rfl rfl rfl) ?_
    refine mv_ rfl ?_
    simp only [ls0, ls1]
    refine on_guard (guard_on 7 true 50 rfl rfl rfl) ?_
    refine st (.bool (decide (t146 = 17))) rfl rfl (xr_bin _ _ _ rfl rfl rfl (B.eql_i64 _ _)) ?_
    refine st (.bool (decide (t146 = 17))) rfl rfl (xr_pick true _ rfl rfl rfl) ?_
    refine as_ rfl ?_
    refine wl_end ?_
    (try simp only [ls0, ls1])
    refine hK160 _ _ ?_
    (try clear hK160 K160)
    refine wp_ret ?_
    (try simp only [Exit.inBlock, Exit.then, Exit.noGoto])
    (try simp only [ls0, ls1])
    obtain rfl := Option.some.inj H
    refine bodyPost_ret (results_tmp rfl _ _ _) rfl ?_
    exact ⟨_, rfl, HS⟩
   rw [if_neg c170] at H
   (try rw [(decide_eq_false c170)])
   refine sk_guard (guard_off 7 true 50 rfl rfl false (by decide) rfl) rfl ?_
   refine sk_guard (guard_off 7 true 50 rfl rfl false (by decide) rfl) rfl ?_
   refine st (.bool false) rfl rfl (xr_pick false _ rfl rfl rfl) ?_
   refine as_ rfl ?_
   simp only [ls0, ls1]
   refine wl_end ?_
   (try simp only [ls0, ls1])
   refine hK160 _ _ ?_
   (try clear hK160 K160)
   refine wp_ret ?_
   (try simp only [Exit.inBlock, Exit.then, Exit.noGoto])
   (try simp only [ls0, ls1])
   obtain rfl := Option.some.inj H
   refine bodyPost_ret (results_tmp rfl _ _ _) rfl ?_
   exact ⟨_, rfl, HS⟩
  rw [if_neg c161] at H
  (try rw [(decide_eq_false c161)])
  refine sk_guard (guard_off 2 true 45 rfl rfl false (by decide) rfl) rfl ?_
  refine sk_guard (guard_off 2 true 45 rfl rfl false (by decide) rfl) rfl ?_
  refine sk_guard (guard_off 2 true 45 rfl rfl false (by decide) rfl) rfl ?_
  refine st (.bool false) rfl rfl (xr_pick false _ rfl rfl rfl) ?_
  simp only [ls0, ls1]
  refine mv_ rfl ?_
  refine sk_guard (guard_off 7 true 50 rfl rfl false (by decide) rfl) rfl ?_
  refine sk_guard (guard_off 7 true 50 rfl rfl false (by decide) rfl) rfl ?_
  refine st (.bool false) rfl rfl (xr_pick false _ rfl rfl rfl) ?_
  simp only [ls0, ls1]
  refine as_ rfl ?_
  refine wl_end ?_
  (try simp only [ls0, ls1])
  refine hK160 _ _ ?_
  (try clear hK160 K160)
  refine wp_ret ?_
  (try simp only [Exit.inBlock, Exit.then, Exit.noGoto])
  (try simp only [ls0, ls1])
  obtain rfl := Option.some.inj H
  refine bodyPost_ret (results_tmp rfl _ _ _) rfl ?_
  exact ⟨_, rfl, HS⟩

/-! ### lattice_Lattice_Meet: function 23 -/
def lattice_Lattice_Meet.f (m0_0 : Option S81) (a0_1 : Int) (a0_2 : Int) (a0_3 : Int) (a0_4 : List Int) (a0_5 : List Int) (a0_6 : Int) (a1 : Int) (a2 : Int) : Option (Int × Int) := (some (wrap64 (a0_6 + 1) : Int)).bind fun y40 => ((lattice_Lattice_in.f (some (⟨m0_0, (⟨(⟨a0_1⟩ : S92), (⟨(⟨a0_2, a0_3⟩ : S94)⟩ : S96)⟩ : S98), a0_4, a0_5, (⟨y40⟩ : S105)⟩ : S107) : Option S107) a1 a2).bind fun t48 => (if t48 = true then (if 0 ≤ a1 then (if a1 < 64 then (if 0 ≤ a2 then (if a2 < 64 then (some (wrap64 (List.getD a0_5 ((a1 : Int).toNat * 64 + (a2 : Int).toNat) 0), y40)) else (none)) else (none)) else (none)) else (none)) else (some ((-1), y40))))
set_option maxHeartbeats 2000000 in
set_option maxRecDepth 100000 in
theorem lattice_Lattice_Meet.calls (g0 : Nat) (v0_0 : Value) (m0_0 : Option S81) (a0_1 : Int) (a0_2 : Int) (a0_3 : Int) (a0_4 : List Int) (a0_5 : List Int) (a0_6 : Int) (a1 : Int) (a2 : Int) (r1 : Int) (r2 : Int) (c : Nat → Nat) (w : World) (hc : ∀ k, c k < 10) (HP0 : Bx c 1 w g0 107 ([v0_0, .int .u32 a0_1, .int .i32 a0_2, .int .u32 a0_3] ++ (List.map (Value.int .i8) a0_4 ++ (List.map (Value.int .i8) a0_5 ++ ([.int .i64 a0_6]))))) (HP0_0 : Ft c [0] w (fun w_ => (Kd.ptr 81 k81).K w_ m0_0 [v0_0])) (HL0_4 : a0_4.length = 4096) (HL0_5 : a0_5.length = 4096) (H : lattice_Lattice_Meet.f m0_0 a0_1 a0_2 a0_3 a0_4 a0_5 a0_6 a1 a2 = some (r1, r2)) :
    Calls Tryd.prog 23 #[.pointer (some ⟨g0, 0, none⟩), .int .i64 a1, .int .i64 a2] w fun e w' => ∃ (c' : Nat → Nat) , e = .returned (.int .i64 r1) ∧ Step c w c' w' [1] ∧ Bx c' 1 w' g0 107 ([v0_0, .int .u32 a0_1, .int .i32 a0_2, .int .u32 a0_3] ++ (List.map (Value.int .i8) a0_4 ++ (List.map (Value.int .i8) a0_5 ++ ([.int .i64 r2])))) := by
 unfold lattice_Lattice_Meet.f at H
 have HS := Step.refl c w [1]
 go_enter Tryd.func23, Tryd.ntmps23
 refine wp_seq_k fun K31 hK31 => ?_
 refine wl_region ?_
 refine st (.int .i64 0) rfl rfl (xr_assign _ rfl rfl) ?_
 refine wl_end ?_
 (try simp only [ls0, ls1])
 refine hK31 _ _ ?_
 (try clear hK31 K31)
 refine wp_seq_k fun K32 hK32 => ?_
 refine wp_seq_k fun K39 hK39 => ?_
 refine wl_region ?_
 refine mv_ rfl ?_
 refine st (.bool true) rfl rfl (xr_bin (.pointer (some ⟨g0, 0, none⟩)) (.pointer none) (.bool true) rfl rfl rfl (B.neq_pn ⟨_, Tryd.underlying36⟩ ⟨g0, 0, none⟩)) ?_
 refine wl_end ?_
 (try simp only [ls0, ls1])
 refine hK39 _ _ ?_
 (try clear hK39 K39)
 refine wp_cond_true rfl ?_
 refine wl_region ?_
 refine mv_ rfl ?_
 refine st (.pointer (some ⟨g0, 0, none⟩)) rfl rfl (xr_nilCheck _ rfl rfl) ?_
 refine st (.pointer (some ⟨g0, 8196, none⟩)) rfl rfl (xr_fieldAddr _ _ rfl rfl (bx_field2 Tryd.underlying107 rfl rfl (by kernel_rfl))) ?_
 obtain ⟨y40, A41, H⟩ := bnd H
 refine st_call #[.pointer (some ⟨g0, 8196, none⟩), .int .i64 1] rfl rfl Tryd.func63 (by kernel_rfl) rfl rfl (mp_ rfl) ?_
 refine atomic_add (C := c) (pre := [v0_0, .int .u32 a0_1, .int .i32 a0_2, .int .u32 a0_3] ++ (List.map (Value.int .i8) a0_4 ++ (List.map (Value.int .i8) a0_5))) (post := []) (old := a0_6) (y := 1) HP0 (by first | (simp only [List.append_assoc, List.cons_append, List.nil_append, List.append_nil]; done) | rfl) (by simp [HL0_4, HL0_5]) (r := y40) (Option.some.inj A41) (xs' := [v0_0, .int .u32 a0_1, .int .i32 a0_2, .int .u32 a0_3] ++ (List.map (Value.int .i8) a0_4 ++ (List.map (Value.int .i8) a0_5 ++ ([.int .i64 y40])))) (by first | (simp only [List.append_assoc, List.cons_append, List.nil_append, List.append_nil]; done) | rfl) ?_
 intro w42 HX43 hs44
 replace HP0_0 := HP0_0.thru hs44 rfl
 replace HS := HS.trans hs44 hc rfl
 (try simp only [ls0, ls1])
 refine wl_end ?_
 (try simp only [ls0, ls1])
 refine hK32 _ _ ?_
 (try clear hK32 K32)
 refine wp_seq_k fun K45 hK45 => ?_
 refine wp_seq_k fun K46 hK46 => ?_
 refine wl_region ?_
 refine mv_ rfl ?_
 refine mv_ rfl ?_
 refine mv_ rfl ?_
 have HP47 : Ft c [0, 1] w42 (fun w_ => (Kd.ptr 107 k107).K w_ (some (⟨m0_0, (⟨(⟨a0_1⟩ : S92), (⟨(⟨a0_2, a0_3⟩ : S94)⟩ : S96)⟩ : S98), a0_4, a0_5, (⟨y40⟩ : S105)⟩ : S107)) [.pointer (some ⟨g0, 0, none⟩)]) := ptr_mk (Ft.more (HX43.ft) rfl) (k107_mkF _ _ (⟨m0_0, (⟨(⟨a0_1⟩ : S92), (⟨(⟨a0_2, a0_3⟩ : S94)⟩ : S96)⟩ : S98), a0_4, a0_5, (⟨y40⟩ : S105)⟩ : S107) (Ft.more HP0_0 rfl) HL0_4 HL0_5)
 obtain ⟨t48, A49, H⟩ := bnd H
 refine st_call #[.pointer (some ⟨g0, 0, none⟩), .int .i64 a1, .int .i64 a2] rfl rfl Tryd.func62 (by kernel_rfl) rfl rfl (mp_ rfl) ?_
 refine (lattice_Lattice_in.calls (.pointer (some ⟨g0, 0, none⟩)) (some (⟨m0_0, (⟨(⟨a0_1⟩ : S92), (⟨(⟨a0_2, a0_3⟩ : S94)⟩ : S96)⟩ : S98), a0_4, a0_5, (⟨y40⟩ : S105)⟩ : S107) : Option S107) a1 a2 t48  (fun z_ => pal [(0, 0), (1, 0)] (c z_)) w42 (fun _ => pal_lt rfl _) (Ft.arg HP47 rfl) A49).mono ?_
 rintro _ w51 ⟨C52, rfl, hs53⟩
 refine ⟨_, rfl, ?_⟩
 replace hs53 := Step.lift (U := [(0, 0)]) hs53 [] rfl rfl
 generalize up c C52 w42.heap.size [(0, 0)] = C52_ at hs53
 replace HX43 := HX43.thru hs53 rfl
 replace HP0_0 := HP0_0.thru hs53 rfl
 replace HS := HS.trans hs53 hc rfl
 (try simp only [ls0, ls1])
 refine st (.bool (!t48)) rfl rfl (xr_un (.bool t48) _ rfl rfl (by first | rfl | (go_simp; done) | (go_simp; rfl) | (go_simp; exact i64_w _) | (go_simp; exact i32_w _))) ?_
 refine wl_end ?_
 (try simp only [ls0, ls1])
 refine hK46 _ _ ?_
 (try clear hK46 K46)
 by_cases c54 : t48 = true
 ·rw [if_pos c54] at H
  (try rw [c54])
  (try simp only [Bool.not_true, Bool.not_false])
  refine wp_cond_false rfl ?_
  refine wp_skip ?_
  (try simp only [ls0, ls1])
  refine hK45 _ _ ?_
  (try clear hK45 K45)
  refine wp_seq_k fun K55 hK55 => ?_
  refine wl_region ?_
  refine mv_ rfl ?_
  refine mv_ rfl ?_
  refine mv_ rfl ?_
  refine st (.pointer (some ⟨g0, 0, none⟩)) rfl rfl (xr_nilCheck _ rfl rfl) ?_
  simp only [ls0, ls1]
  refine st (.pointer (some ⟨g0, 4100, none⟩)) rfl rfl (xr_fieldAddr _ _ rfl rfl (bx_field2 Tryd.underlying107 rfl rfl (by kernel_rfl))) ?_
  obtain ⟨c56, H⟩ := if_some H
  obtain ⟨c57, H⟩ := if_some H
  refine st (.pointer (some ⟨g0, 4100 + ((a1 : Int).toNat * 64), none⟩)) rfl rfl (xr_indexAddr _ _ _ rfl rfl rfl (arr_index (sz := 64) Tryd.underlying102 (by kernel_rfl) (by first | assumption | decide | omega) (by first | assumption | decide | omega) (by omega))) ?_
  obtain ⟨c58, H⟩ := if_some H
  obtain ⟨c59, H⟩ := if_some H
  refine st (.pointer (some ⟨g0, 4100 + ((a1 : Int).toNat * 64 + (a2 : Int).toNat), none⟩)) rfl rfl (xr_indexAddr _ _ _ rfl rfl rfl (arr_index (sz := 1) Tryd.underlying100 (by kernel_rfl) (by first | assumption | decide | omega) (by first | assumption | decide | omega) (by omega))) ?_
  refine st (.int .i8 (List.getD a0_5 ((a1 : Int).toNat * 64 + (a2 : Int).toNat) 0)) rfl rfl (xr_load _ _ rfl rfl (arr_load (o := 4100) (N := 4096) (pre := [v0_0, .int .u32 a0_1, .int .i32 a0_2, .int .u32 a0_3] ++ (List.map (Value.int .i8) a0_4)) (post := [.int .i64 y40]) (enc := (Value.int .i8)) (l := a0_5) (i := (a1 : Int).toNat * 64 + (a2 : Int).toNat) 0 Tryd.underlying99 rfl (HX43).2 (by first | (simp only [List.append_assoc, List.cons_append, List.nil_append, List.append_nil]; done) | rfl) (by simp [HL0_4]) HL0_5 (by omega) (by omega))) ?_
  simp only [ls0, ls1]
  refine st (.int .i64 (wrap64 (List.getD a0_5 ((a1 : Int).toNat * 64 + (a2 : Int).toNat) 0))) rfl rfl (xr_conv (.int .i8 (List.getD a0_5 ((a1 : Int).toNat * 64 + (a2 : Int).toNat) 0)) _ rfl rfl (by first | rfl | (go_simp; done) | (go_simp; rfl) | (go_simp; exact i64_w _) | (go_simp; exact i32_w _))) ?_
  refine as_ rfl ?_
  refine wl_end ?_
  (try simp only [ls0, ls1])
  refine hK55 _ _ ?_
  (try clear hK55 K55)
  refine wp_ret ?_
  (try simp only [Exit.inBlock, Exit.then, Exit.noGoto])
  (try simp only [ls0, ls1])
  simp only [Option.some.injEq, Prod.mk.injEq] at H
  obtain ⟨rfl, rfl⟩ := H
  refine bodyPost_ret (results_tmp rfl _ _ _) rfl ?_
  exact ⟨_, rfl, HS, HX43⟩
 rw [if_neg c54] at H
 (try rw [(Bool.eq_false_iff.mpr c54)])
 (try simp only [Bool.not_true, Bool.not_false])
 refine wp_cond_true rfl ?_
 refine wp_seq_k fun K60 hK60 => ?_
 refine wl_region ?_
 refine st (.int .i64 (-1)) rfl rfl (xr_assign _ rfl rfl) ?_
 refine wl_end ?_
 (try simp only [ls0, ls1])
 refine hK60 _ _ ?_
 (try clear hK60 K60)
 refine wp_ret ?_
 (try simp only [Exit.inBlock, Exit.then, Exit.noGoto])
 (try simp only [ls0, ls1])
 simp only [Option.some.injEq, Prod.mk.injEq] at H
 obtain ⟨rfl, rfl⟩ := H
 refine bodyPost_ret (results_tmp rfl _ _ _) rfl ?_
 exact ⟨_, rfl, HS, HX43⟩

/-! ### lattice_Lattice_Top: function 25 -/
def lattice_Lattice_Top.l0 : Nat → S107 → Int → Int → Int → Option (Int)
  | 0, _, _, _, _ => none
  | k + 1, o67, t77, x104, x105 => if x105 < t77 then (if 0 ≤ x104 then (if x104 < 64 then (if 0 ≤ x105 then (if x105 < 64 then (lattice_Lattice_Top.l0 k o67 t77 (wrap64 (List.getD o67.f2 ((x104 : Int).toNat * 64 + (x105 : Int).toNat) 0)) (wrap64 (x105 + 1))) else (none)) else (none)) else (none)) else (none)) else (some x104)
def lattice_Lattice_Top.f (k : Nat) (x0 : Option S107) : Option (Int) := onOpt x0 (some (-1)) (fun o67 => ((order_Order_Len.f o67.f0).bind fun t77 => (lattice_Lattice_Top.l0 k o67 t77 0 0)))

set_option maxHeartbeats 2000000 in
set_option maxRecDepth 100000 in
theorem lattice_Lattice_Top.calls (k : Nat) (v0 : Value) (x0 : Option S107) (r : Int) (c : Nat → Nat) (w : World) (hc : ∀ k, c k < 10) (HP0 : Ft c [0] w (fun w_ => (Kd.ptr 107 k107).K w_ x0 [v0])) (H : lattice_Lattice_Top.f k x0 = some r) :
    Calls Tryd.prog 25 #[v0] w fun e w' => ∃ (c' : Nat → Nat) , e = .returned (.int .i64 r) ∧ Step c w c' w' [] := by
 unfold lattice_Lattice_Top.f at H
 have HS := Step.refl c w []
 go_enter Tryd.func25, Tryd.ntmps25
 refine wp_seq_k fun K64 hK64 => ?_
 refine wl_region ?_
 refine st (.int .i64 0) rfl rfl (xr_assign _ rfl rfl) ?_
 refine wl_end ?_
 (try simp only [ls0, ls1])
 refine hK64 _ _ ?_
 (try clear hK64 K64)
 refine wp_seq_k fun K65 hK65 => ?_
 refine wp_seq_k fun K66 hK66 => ?_
 refine wl_region ?_
 refine mv_ rfl ?_
 cases x0 with
 | none =>
  (try simp only [onOpt] at H)
  obtain rfl := ptr_none HP0
  refine st (.bool true) rfl rfl (xr_bin (.pointer none) (.pointer none) (.bool true) rfl rfl rfl (B.eql_nn ⟨_, Tryd.underlying36⟩ (⟨0, 0, none⟩ : Addr))) ?_
  refine wl_end ?_
  (try simp only [ls0, ls1])
  refine hK66 _ _ ?_
  (try clear hK66 K66)
  refine wp_cond_true rfl ?_
  refine wp_seq_k fun K68 hK68 => ?_
  refine wl_region ?_
  refine st (.int .i64 (-1)) rfl rfl (xr_assign _ rfl rfl) ?_
  refine wl_end ?_
  (try simp only [ls0, ls1])
  refine hK68 _ _ ?_
  (try clear hK68 K68)
  refine wp_ret ?_
  (try simp only [Exit.inBlock, Exit.then, Exit.noGoto])
  (try simp only [ls0, ls1])
  obtain rfl := Option.some.inj H
  refine bodyPost_ret (results_tmp rfl _ _ _) rfl ?_
  exact ⟨_, rfl, HS⟩
 | some o67 =>
  (try simp only [onOpt] at H)
  obtain ⟨g69, cs70, rfl, HX71, HK72⟩ := ptr_some HP0
  obtain ⟨vq73_0, rfl, HRq73_0, HLq73_4, HLq73_5⟩ := k107_openF HK72
  replace HRq73_0 : Ft c [0] w (fun w_ => (Kd.ptr 81 k81).K w_ o67.f0 [vq73_0]) := HRq73_0
  refine st (.bool false) rfl rfl (xr_bin (.pointer (some ⟨g69, 0, none⟩)) (.pointer none) (.bool false) rfl rfl rfl (B.eql_pn ⟨_, Tryd.underlying36⟩ ⟨g69, 0, none⟩)) ?_
  refine wl_end ?_
  (try simp only [ls0, ls1])
  refine hK66 _ _ ?_
  (try clear hK66 K66)
  refine wp_cond_false rfl ?_
  refine wp_skip ?_
  (try simp only [ls0, ls1])
  refine hK65 _ _ ?_
  (try clear hK65 K65)
  refine wp_seq_k fun K74 hK74 => ?_
  refine wl_region ?_
  refine st (.int .i64 0) rfl rfl (xr_assign _ rfl rfl) ?_
  refine wl_end ?_
  (try simp only [ls0, ls1])
  refine hK74 _ _ ?_
  (try clear hK74 K74)
  refine wp_seq_k fun K75 hK75 => ?_
  refine wp_seq_k fun K76 hK76 => ?_
  refine wl_region ?_
  refine mv_ rfl ?_
  refine st (.pointer (some ⟨g69, 0, none⟩)) rfl rfl (xr_nilCheck _ rfl rfl) ?_
  refine st (.pointer (some ⟨g69, 0, none⟩)) rfl rfl (xr_fieldAddr _ _ rfl rfl (bx_field2 Tryd.underlying107 rfl rfl (by kernel_rfl))) ?_
  refine st (vq73_0) rfl rfl (xr_load _ _ rfl rfl (load_cell Tryd.underlying26 rfl (bx_cell (Ft.now HX71) 0 rfl))) ?_
  simp only [ls0, ls1]
  obtain ⟨t77, A78, H⟩ := bnd H
  refine st_call #[vq73_0] rfl rfl Tryd.func21 (by kernel_rfl) rfl rfl (mp_ rfl) ?_
  refine (order_Order_Len.calls vq73_0 o67.f0 t77  (fun z_ => pal [(0, 0)] (c z_)) w (fun _ => pal_lt rfl _) (Ft.arg HRq73_0 rfl) A78).mono ?_
  rintro _ w80 ⟨C81, rfl, hs82⟩
  refine ⟨_, rfl, ?_⟩
  replace hs82 := Step.lift (U := [(0, 0)]) hs82 [] rfl rfl
  generalize up c C81 w.heap.size [(0, 0)] = C81_ at hs82
  replace HX71 := HX71.thru hs82 rfl
  replace HRq73_0 := HRq73_0.thru hs82 rfl
  replace HS := HS.trans hs82 hc rfl
  (try simp only [ls0, ls1])
  refine st (.int .i64 0) rfl rfl (xr_move _ rfl rfl) ?_
  refine wl_end ?_
  (try simp only [ls0, ls1])
  refine hK76 _ _ ?_
  (try clear hK76 K76)
  refine wp_block ?_
  (try simp only [ls0, ls1])
  refine wp_looped (looped_fin (fun kq110 a_ w109 => ∃ (C108 : Nat → Nat) (x104 : Int) (x105 : Int) (g_ : Nat → Value), a_ = ⟨#[.pointer (some ⟨g69, 0, none⟩), (g_ 1), (g_ 2), .int .i64 x104, (g_ 4), (g_ 5), (g_ 6), (g_ 7), (g_ 8), (g_ 9), (g_ 10), .int .i64 t77, .int .i64 x105, (g_ 13), (g_ 14), (g_ 15), (g_ 16), (g_ 17), (g_ 18), (g_ 19), (g_ 20), (g_ 21), (g_ 22), (g_ 23), (g_ 24), (g_ 25)], []⟩ ∧ Step c w C108 w109 [] ∧ kq110 ≤ k ∧ (Ft C108 [0] w109 (fun w_ => (Kd.ptr 81 k81).K w_ o67.f0 [vq73_0])) ∧ (Ft C108 [0] w109 (fun w_ => w_.heap[g69]? = some (.cells (List.toArray ([vq73_0, .int .u32 o67.f1.f0.f0, .int .i32 o67.f1.f1.f0.f0, .int .u32 o67.f1.f1.f0.f1] ++ (List.map (Value.int .i8) o67.f2 ++ (List.map (Value.int .i8) o67.f3 ++ ([.int .i64 o67.f4.f0]))))) 107 (0, 0)))) ∧ lattice_Lattice_Top.l0 kq110 o67 t77 x104 x105 = some r) ?step fun hL_ => ?init)
  case init =>
   exact jmpL (fun a_ h_ => hL_ k a_ _ h_) (fun g_ => ⟨_, 0, 0, g_, rfl, HS, Nat.le_refl _, HRq73_0, HX71, H⟩) rfl
  case step =>
   intro kq110 ih113 a114 w109 hr115
   obtain ⟨C108, x104, x105, g_, rfl, HS111, hk112, HJ106, HJ107, H⟩ := hr115
   refine looped_round ?_
   cases kq110 with
   | zero => exact absurd H (by simp [lattice_Lattice_Top.l0])
   | succ k116 =>
    simp only [lattice_Lattice_Top.l0] at H
    refine wp_seq_k fun K117 hK117 => ?_
    refine wl_region ?_
    refine st (.bool (decide (x105 < t77))) rfl rfl (xr_bin _ _ _ rfl rfl rfl (B.lss_i64 _ _)) ?_
    refine wl_end ?_
    (try simp only [ls0, ls1])
    refine hK117 _ _ ?_
    (try clear hK117 K117)
    refine wp_seq_k fun K118 hK118 => ?_
    by_cases c119 : x105 < t77
    ·rw [if_pos c119] at H
     (try rw [(decide_eq_true c119)])
     refine wp_cond_true rfl ?_
     refine wp_skip ?_
     (try simp only [ls0, ls1])
     refine hK118 _ _ ?_
     (try clear hK118 K118)
     refine wp_seq_k fun K120 hK120 => ?_
     refine wp_block ?_
     refine wp_seq_k fun K121 hK121 => ?_
     refine wl_region ?_
     refine mv_ rfl ?_
     refine as_ rfl ?_
     refine wl_end ?_
     (try simp only [ls0, ls1])
     refine hK121 _ _ ?_
     (try clear hK121 K121)
     refine wl_region ?_
     refine mv_ rfl ?_
     refine mv_ rfl ?_
     refine mv_ rfl ?_
     refine st (.pointer (some ⟨g69, 0, none⟩)) rfl rfl (xr_nilCheck _ rfl rfl) ?_
     simp only [ls0, ls1]
     refine st (.pointer (some ⟨g69, 4, none⟩)) rfl rfl (xr_fieldAddr _ _ rfl rfl (bx_field2 Tryd.underlying107 rfl rfl (by kernel_rfl))) ?_
     obtain ⟨c122, H⟩ := if_some H
     obtain ⟨c123, H⟩ := if_some H
     refine st (.pointer (some ⟨g69, 4 + ((x104 : Int).toNat * 64), none⟩)) rfl rfl (xr_indexAddr _ _ _ rfl rfl rfl (arr_index (sz := 64) Tryd.underlying102 (by kernel_rfl) (by first | assumption | decide | omega) (by first | assumption | decide | omega) (by omega))) ?_
     obtain ⟨c124, H⟩ := if_some H
     obtain ⟨c125, H⟩ := if_some H
     refine st (.pointer (some ⟨g69, 4 + ((x104 : Int).toNat * 64 + (x105 : Int).toNat), none⟩)) rfl rfl (xr_indexAddr _ _ _ rfl rfl rfl (arr_index (sz := 1) Tryd.underlying100 (by kernel_rfl) (by first | assumption | decide | omega) (by first | assumption | decide | omega) (by omega))) ?_
     refine st (.int .i8 (List.getD o67.f2 ((x104 : Int).toNat * 64 + (x105 : Int).toNat) 0)) rfl rfl (xr_load _ _ rfl rfl (arr_load (o := 4) (N := 4096) (pre := [vq73_0, .int .u32 o67.f1.f0.f0, .int .i32 o67.f1.f1.f0.f0, .int .u32 o67.f1.f1.f0.f1]) (post := List.map (Value.int .i8) o67.f3 ++ ([.int .i64 o67.f4.f0])) (enc := (Value.int .i8)) (l := o67.f2) (i := (x104 : Int).toNat * 64 + (x105 : Int).toNat) 0 Tryd.underlying99 rfl (Ft.now HJ107) (by first | (simp only [List.append_assoc, List.cons_append, List.nil_append, List.append_nil]; done) | rfl) rfl HLq73_4 (by omega) (by omega))) ?_
     simp only [ls0, ls1]
     refine st (.int .i64 (wrap64 (List.getD o67.f2 ((x104 : Int).toNat * 64 + (x105 : Int).toNat) 0))) rfl rfl (xr_conv (.int .i8 (List.getD o67.f2 ((x104 : Int).toNat * 64 + (x105 : Int).toNat) 0)) _ rfl rfl (by first | rfl | (go_simp; done) | (go_simp; rfl) | (go_simp; exact i64_w _) | (go_simp; exact i32_w _))) ?_
     refine as_ rfl ?_
     refine wl_end ?_
     (try simp only [ls0, ls1])
     refine hK120 _ _ ?_
     (try clear hK120 K120)
     refine wl_region ?_
     refine st (.int .i64 (wrap64 (x105 + 1))) rfl rfl (xr_bin _ _ _ rfl rfl rfl (B.add_i64 _ _)) ?_
     refine mv_ rfl ?_
     refine wl_end ?_
     (try simp only [ls0, ls1])
     exact jmpL (fun a_ h_ => ih113 k116 (by omega) a_ _ h_) (fun g_ => ⟨_, wrap64 (List.getD o67.f2 ((x104 : Int).toNat * 64 + (x105 : Int).toNat) 0), wrap64 (x105 + 1), g_, rfl, HS111, (by omega), HJ106, HJ107, H⟩) rfl
    rw [if_neg c119] at H
    (try rw [(decide_eq_false c119)])
    refine wp_cond_false rfl ?_
    refine wp_exit ?_
    (try simp only [ls0, ls1])
    refine hK75 _ _ ?_
    (try clear hK75 K75)
    refine wp_seq_k fun K126 hK126 => ?_
    refine wl_region ?_
    refine mv_ rfl ?_
    refine as_ rfl ?_
    refine wl_end ?_
    (try simp only [ls0, ls1])
    refine hK126 _ _ ?_
    (try clear hK126 K126)
    refine wp_ret ?_
    (try simp only [Exit.inBlock, Exit.then, Exit.noGoto])
    (try simp only [ls0, ls1])
    obtain rfl := Option.some.inj H
    refine bodyPost_ret (results_tmp rfl _ _ _) rfl ?_
    exact ⟨_, rfl, HS111⟩

/-! ### lattice_Lattice_Bottom: function 26 -/
def lattice_Lattice_Bottom.l0 : Nat → S107 → Int → Int → Int → Option (Int)
  | 0, _, _, _, _ => none
  | k + 1, o67, t77, x104, x105 => if x105 < t77 then (if 0 ≤ x104 then (if x104 < 64 then (if 0 ≤ x105 then (if x105 < 64 then (lattice_Lattice_Bottom.l0 k o67 t77 (wrap64 (List.getD o67.f3 ((x104 : Int).toNat * 64 + (x105 : Int).toNat) 0)) (wrap64 (x105 + 1))) else (none)) else (none)) else (none)) else (none)) else (some x104)
def lattice_Lattice_Bottom.f (k : Nat) (x0 : Option S107) : Option (Int) := onOpt x0 (some (-1)) (fun o67 => ((order_Order_Len.f o67.f0).bind fun t77 => (lattice_Lattice_Bottom.l0 k o67 t77 0 0)))

set_option maxHeartbeats 2000000 in
set_option maxRecDepth 100000 in
theorem lattice_Lattice_Bottom.calls (k : Nat) (v0 : Value) (x0 : Option S107) (r : Int) (c : Nat → Nat) (w : World) (hc : ∀ k, c k < 10) (HP0 : Ft c [0] w (fun w_ => (Kd.ptr 107 k107).K w_ x0 [v0])) (H : lattice_Lattice_Bottom.f k x0 = some r) :
    Calls Tryd.prog 26 #[v0] w fun e w' => ∃ (c' : Nat → Nat) , e = .returned (.int .i64 r) ∧ Step c w c' w' [] := by
 unfold lattice_Lattice_Bottom.f at H
 have HS := Step.refl c w []
 go_enter Tryd.func26, Tryd.ntmps26
 refine wp_seq_k fun K64 hK64 => ?_
 refine wl_region ?_
 refine st (.int .i64 0) rfl rfl (xr_assign _ rfl rfl) ?_
 refine wl_end ?_
 (try simp only [ls0, ls1])
 refine hK64 _ _ ?_
 (try clear hK64 K64)
 refine wp_seq_k fun K65 hK65 => ?_
 refine wp_seq_k fun K66 hK66 => ?_
 refine wl_region ?_
 refine mv_ rfl ?_
 cases x0 with
 | none =>
  (try simp only [onOpt] at H)
  obtain rfl := ptr_none HP0
  refine st (.bool true) rfl rfl (xr_bin (.pointer none) (.pointer none) (.bool true) rfl rfl rfl (B.eql_nn ⟨_, Tryd.underlying36⟩ (⟨0, 0, none⟩ : Addr))) ?_
  refine wl_end ?_
  (try simp only [ls0, ls1])
  refine hK66 _ _ ?_
  (try clear hK66 K66)
  refine wp_cond_true rfl ?_
  refine wp_seq_k fun K68 hK68 => ?_
  refine wl_region ?_
  refine st (.int .i64 (-1)) rfl rfl (xr_assign _ rfl rfl) ?_
  refine wl_end ?_
  (try simp only [ls0, ls1])
  refine hK68 _ _ ?_
  (try clear hK68 K68)
  refine wp_ret ?_
  (try simp only [Exit.inBlock, Exit.then, Exit.noGoto])
  (try simp only [ls0, ls1])
  obtain rfl := Option.some.inj H
  refine bodyPost_ret (results_tmp rfl _ _ _) rfl ?_
  exact ⟨_, rfl, HS⟩
 | some o67 =>
  (try simp only [onOpt] at H)
  obtain ⟨g69, cs70, rfl, HX71, HK72⟩ := ptr_some HP0
  obtain ⟨vq73_0, rfl, HRq73_0, HLq73_4, HLq73_5⟩ := k107_openF HK72
  replace HRq73_0 : Ft c [0] w (fun w_ => (Kd.ptr 81 k81).K w_ o67.f0 [vq73_0]) := HRq73_0
  refine st (.bool false) rfl rfl (xr_bin (.pointer (some ⟨g69, 0, none⟩)) (.pointer none) (.bool false) rfl rfl rfl (B.eql_pn ⟨_, Tryd.underlying36⟩ ⟨g69, 0, none⟩)) ?_
  refine wl_end ?_
  (try simp only [ls0, ls1])
  refine hK66 _ _ ?_
  (try clear hK66 K66)
  refine wp_cond_false rfl ?_
  refine wp_skip ?_
  (try simp only [ls0, ls1])
  refine hK65 _ _ ?_
  (try clear hK65 K65)
  refine wp_seq_k fun K74 hK74 => ?_
  refine wl_region ?_
  refine st (.int .i64 0) rfl rfl (xr_assign _ rfl rfl) ?_
  refine wl_end ?_
  (try simp only [ls0, ls1])
  refine hK74 _ _ ?_
  (try clear hK74 K74)
  refine wp_seq_k fun K75 hK75 => ?_
  refine wp_seq_k fun K76 hK76 => ?_
  refine wl_region ?_
  refine mv_ rfl ?_
  refine st (.pointer (some ⟨g69, 0, none⟩)) rfl rfl (xr_nilCheck _ rfl rfl) ?_
  refine st (.pointer (some ⟨g69, 0, none⟩)) rfl rfl (xr_fieldAddr _ _ rfl rfl (bx_field2 Tryd.underlying107 rfl rfl (by kernel_rfl))) ?_
  refine st (vq73_0) rfl rfl (xr_load _ _ rfl rfl (load_cell Tryd.underlying26 rfl (bx_cell (Ft.now HX71) 0 rfl))) ?_
  simp only [ls0, ls1]
  obtain ⟨t77, A78, H⟩ := bnd H
  refine st_call #[vq73_0] rfl rfl Tryd.func21 (by kernel_rfl) rfl rfl (mp_ rfl) ?_
  refine (order_Order_Len.calls vq73_0 o67.f0 t77  (fun z_ => pal [(0, 0)] (c z_)) w (fun _ => pal_lt rfl _) (Ft.arg HRq73_0 rfl) A78).mono ?_
  rintro _ w80 ⟨C81, rfl, hs82⟩
  refine ⟨_, rfl, ?_⟩
  replace hs82 := Step.lift (U := [(0, 0)]) hs82 [] rfl rfl
  generalize up c C81 w.heap.size [(0, 0)] = C81_ at hs82
  replace HX71 := HX71.thru hs82 rfl
  replace HRq73_0 := HRq73_0.thru hs82 rfl
  replace HS := HS.trans hs82 hc rfl
  (try simp only [ls0, ls1])
  refine st (.int .i64 0) rfl rfl (xr_move _ rfl rfl) ?_
  refine wl_end ?_
  (try simp only [ls0, ls1])
  refine hK76 _ _ ?_
  (try clear hK76 K76)
  refine wp_block ?_
  (try simp only [ls0, ls1])
  refine wp_looped (looped_fin (fun kq110 a_ w109 => ∃ (C108 : Nat → Nat) (x104 : Int) (x105 : Int) (g_ : Nat → Value), a_ = ⟨#[.pointer (some ⟨g69, 0, none⟩), (g_ 1), (g_ 2), .int .i64 x104, (g_ 4), (g_ 5), (g_ 6), (g_ 7), (g_ 8), (g_ 9), (g_ 10), .int .i64 t77, .int .i64 x105, (g_ 13), (g_ 14), (g_ 15), (g_ 16), (g_ 17), (g_ 18), (g_ 19), (g_ 20), (g_ 21), (g_ 22), (g_ 23), (g_ 24), (g_ 25)], []⟩ ∧ Step c w C108 w109 [] ∧ kq110 ≤ k ∧ (Ft C108 [0] w109 (fun w_ => (Kd.ptr 81 k81).K w_ o67.f0 [vq73_0])) ∧ (Ft C108 [0] w109 (fun w_ => w_.heap[g69]? = some (.cells (List.toArray ([vq73_0, .int .u32 o67.f1.f0.f0, .int .i32 o67.f1.f1.f0.f0, .int .u32 o67.f1.f1.f0.f1] ++ (List.map (Value.int .i8) o67.f2 ++ (List.map (Value.int .i8) o67.f3 ++ ([.int .i64 o67.f4.f0]))))) 107 (0, 0)))) ∧ lattice_Lattice_Bottom.l0 kq110 o67 t77 x104 x105 = some r) ?step fun hL_ => ?init)
  case init =>
   exact jmpL (fun a_ h_ => hL_ k a_ _ h_) (fun g_ => ⟨_, 0, 0, g_, rfl, HS, Nat.le_refl _, HRq73_0, HX71, H⟩) rfl
  case step =>
   intro kq110 ih113 a114 w109 hr115
   obtain ⟨C108, x104, x105, g_, rfl, HS111, hk112, HJ106, HJ107, H⟩ := hr115
   refine looped_round ?_
   cases kq110 with
   | zero => exact absurd H (by simp [lattice_Lattice_Bottom.l0])
   | succ k116 =>
    simp only [lattice_Lattice_Bottom.l0] at H
    refine wp_seq_k fun K117 hK117 => ?_
    refine wl_region ?_
    refine st (.bool (decide (x105 < t77))) rfl rfl (xr_bin _ _ _ rfl rfl rfl (B.lss_i64 _ _)) ?_
    refine wl_end ?_
    (try simp only [ls0, ls1])
    refine hK117 _ _ ?_
    (try clear hK117 K117)
    refine wp_seq_k fun K118 hK118 => ?_
    by_cases c119 : x105 < t77
    ·rw [if_pos c119] at H
     (try rw [(decide_eq_true c119)])
     refine wp_cond_true rfl ?_
     refine wp_skip ?_
     (try simp only [ls0, ls1])
     refine hK118 _ _ ?_
     (try clear hK118 K118)
     refine wp_seq_k fun K120 hK120 => ?_
     refine wp_block ?_
     refine wp_seq_k fun K121 hK121 => ?_
     refine wl_region ?_
     refine mv_ rfl ?_
     refine as_ rfl ?_
     refine wl_end ?_
     (try simp only [ls0, ls1])
     refine hK121 _ _ ?_
     (try clear hK121 K121)
     refine wl_region ?_
     refine mv_ rfl ?_
     refine mv_ rfl ?_
     refine mv_ rfl ?_
     refine st (.pointer (some ⟨g69, 0, none⟩)) rfl rfl (xr_nilCheck _ rfl rfl) ?_
     simp only [ls0, ls1]
     refine st (.pointer (some ⟨g69, 4100, none⟩)) rfl rfl (xr_fieldAddr _ _ rfl rfl (bx_field2 Tryd.underlying107 rfl rfl (by kernel_rfl))) ?_
     obtain ⟨c122, H⟩ := if_some H
     obtain ⟨c123, H⟩ := if_some H
     refine st (.pointer (some ⟨g69, 4100 + ((x104 : Int).toNat * 64), none⟩)) rfl rfl (xr_indexAddr _ _ _ rfl rfl rfl (arr_index (sz := 64) Tryd.underlying102 (by kernel_rfl) (by first | assumption | decide | omega) (by first | assumption | decide | omega) (by omega))) ?_
     obtain ⟨c124, H⟩ := if_some H
     obtain ⟨c125, H⟩ := if_some H
     refine st (.pointer (some ⟨g69, 4100 + ((x104 : Int).toNat * 64 + (x105 : Int).toNat), none⟩)) rfl rfl (xr_indexAddr _ _ _ rfl rfl rfl (arr_index (sz := 1) Tryd.underlying100 (by kernel_rfl) (by first | assumption | decide | omega) (by first | assumption | decide | omega) (by omega))) ?_
     refine st (.int .i8 (List.getD o67.f3 ((x104 : Int).toNat * 64 + (x105 : Int).toNat) 0)) rfl rfl (xr_load _ _ rfl rfl (arr_load (o := 4100) (N := 4096) (pre := [vq73_0, .int .u32 o67.f1.f0.f0, .int .i32 o67.f1.f1.f0.f0, .int .u32 o67.f1.f1.f0.f1] ++ (List.map (Value.int .i8) o67.f2)) (post := [.int .i64 o67.f4.f0]) (enc := (Value.int .i8)) (l := o67.f3) (i := (x104 : Int).toNat * 64 + (x105 : Int).toNat) 0 Tryd.underlying99 rfl (Ft.now HJ107) (by first | (simp only [List.append_assoc, List.cons_append, List.nil_append, List.append_nil]; done) | rfl) (by simp [HLq73_4]) HLq73_5 (by omega) (by omega))) ?_
     simp only [ls0, ls1]
     refine st (.int .i64 (wrap64 (List.getD o67.f3 ((x104 : Int).toNat * 64 + (x105 : Int).toNat) 0))) rfl rfl (xr_conv (.int .i8 (List.getD o67.f3 ((x104 : Int).toNat * 64 + (x105 : Int).toNat) 0)) _ rfl rfl (by first | rfl | (go_simp; done) | (go_simp; rfl) | (go_simp; exact i64_w _) | (go_simp; exact i32_w _))) ?_
     refine as_ rfl ?_
     refine wl_end ?_
     (try simp only [ls0, ls1])
     refine hK120 _ _ ?_
     (try clear hK120 K120)
     refine wl_region ?_
     refine st (.int .i64 (wrap64 (x105 + 1))) rfl rfl (xr_bin _ _ _ rfl rfl rfl (B.add_i64 _ _)) ?_
     refine mv_ rfl ?_
     refine wl_end ?_
     (try simp only [ls0, ls1])
     exact jmpL (fun a_ h_ => ih113 k116 (by omega) a_ _ h_) (fun g_ => ⟨_, wrap64 (List.getD o67.f3 ((x104 : Int).toNat * 64 + (x105 : Int).toNat) 0), wrap64 (x105 + 1), g_, rfl, HS111, (by omega), HJ106, HJ107, H⟩) rfl
    rw [if_neg c119] at H
    (try rw [(decide_eq_false c119)])
    refine wp_cond_false rfl ?_
    refine wp_exit ?_
    (try simp only [ls0, ls1])
    refine hK75 _ _ ?_
    (try clear hK75 K75)
    refine wp_seq_k fun K126 hK126 => ?_
    refine wl_region ?_
    refine mv_ rfl ?_
    refine as_ rfl ?_
    refine wl_end ?_
    (try simp only [ls0, ls1])
    refine hK126 _ _ ?_
    (try clear hK126 K126)
    refine wp_ret ?_
    (try simp only [Exit.inBlock, Exit.then, Exit.noGoto])
    (try simp only [ls0, ls1])
    obtain rfl := Option.some.inj H
    refine bodyPost_ret (results_tmp rfl _ _ _) rfl ?_
    exact ⟨_, rfl, HS111⟩

/-! ### order_Order_Find: function 31 -/
def order_Order_Find.f (x0 : Option S81) (a1 : ByteArray) : Option (Int × Bool) := onOpt x0 (some (0, false)) (fun o16 => (some (mget 0 o16.f1 a1, mhas o16.f1 a1)))
set_option maxHeartbeats 2000000 in
set_option maxRecDepth 100000 in
theorem order_Order_Find.calls (v0 : Value) (x0 : Option S81) (a1 : ByteArray) (r1 : Int) (r2 : Bool) (c : Nat → Nat) (w : World) (hc : ∀ k, c k < 10) (HP0 : Ft c [0] w (fun w_ => (Kd.ptr 81 k81).K w_ x0 [v0])) (H : order_Order_Find.f x0 a1 = some (r1, r2)) :
    Calls Tryd.prog 31 #[v0, .string a1] w fun e w' => ∃ (c' : Nat → Nat) , e = .returned (.tuple #[.int .i64 r1, .bool r2]) ∧ Step c w c' w' [] := by
 unfold order_Order_Find.f at H
 have HS := Step.refl c w []
 go_enter Tryd.func31, Tryd.ntmps31
 refine wp_seq_k fun K13 hK13 => ?_
 refine wl_region ?_
 refine st (.int .i64 0) rfl rfl (xr_assign _ rfl rfl) ?_
 refine st (.bool false) rfl rfl (xr_assign _ rfl rfl) ?_
 refine wl_end ?_
 (try simp only [ls0, ls1])
 refine hK13 _ _ ?_
 (try clear hK13 K13)
 refine wp_seq_k fun K14 hK14 => ?_
 refine wp_seq_k fun K15 hK15 => ?_
 refine wl_region ?_
 refine mv_ rfl ?_
 cases x0 with
 | none =>
  (try simp only [onOpt] at H)
  obtain rfl := ptr_none HP0
  refine st (.bool true) rfl rfl (xr_bin (.pointer none) (.pointer none) (.bool true) rfl rfl rfl (B.eql_nn ⟨_, Tryd.underlying26⟩ (⟨0, 0, none⟩ : Addr))) ?_
  refine wl_end ?_
  (try simp only [ls0, ls1])
  refine hK15 _ _ ?_
  (try clear hK15 K15)
  refine wp_cond_true rfl ?_
  refine wp_seq_k fun K17 hK17 => ?_
  refine wl_region ?_
  refine st (.int .i64 0) rfl rfl (xr_assign _ rfl rfl) ?_
  refine st (.bool false) rfl rfl (xr_assign _ rfl rfl) ?_
  refine wl_end ?_
  (try simp only [ls0, ls1])
  refine hK17 _ _ ?_
  (try clear hK17 K17)
  refine wp_ret ?_
  (try simp only [Exit.inBlock, Exit.then, Exit.noGoto])
  (try simp only [ls0, ls1])
  simp only [Option.some.injEq, Prod.mk.injEq] at H
  obtain ⟨rfl, rfl⟩ := H
  refine bodyPost_ret (results_tmp2 rfl _ _ _) rfl ?_
  exact ⟨_, rfl, HS⟩
 | some o16 =>
  (try simp only [onOpt] at H)
  obtain ⟨g18, cs19, rfl, HX20, HK21⟩ := ptr_some HP0
  obtain ⟨Aq22_0, cpq22_0, vq22_1, rfl, HCq22_0, HRq22_0, HRq22_1, HLq22_2, HLq22_3⟩ := k81_openF HK21
  replace HRq22_0 : Ft c [0] w (fun w_ => Kd.string.C w_ Aq22_0 o16.f0.length o16.f0) := HRq22_0
  replace HRq22_1 : Ft c [0] w (fun w_ => (Kd.mp Value.string (Value.int .i64)).K w_ o16.f1 [vq22_1]) := HRq22_1
  refine st (.bool false) rfl rfl (xr_bin (.pointer (some ⟨g18, 0, none⟩)) (.pointer none) (.bool false) rfl rfl rfl (B.eql_pn ⟨_, Tryd.underlying26⟩ ⟨g18, 0, none⟩)) ?_
  refine wl_end ?_
  (try simp only [ls0, ls1])
  refine hK15 _ _ ?_
  (try clear hK15 K15)
  refine wp_cond_false rfl ?_
  refine wp_skip ?_
  (try simp only [ls0, ls1])
  refine hK14 _ _ ?_
  (try clear hK14 K14)
  refine wp_seq_k fun K23 hK23 => ?_
  refine wl_region ?_
  refine mv_ rfl ?_
  refine st (.pointer (some ⟨g18, 0, none⟩)) rfl rfl (xr_nilCheck _ rfl rfl) ?_
  refine st (.pointer (some ⟨g18, 1, none⟩)) rfl rfl (xr_fieldAddr _ _ rfl rfl (bx_field2 Tryd.underlying81 rfl rfl (by kernel_rfl))) ?_
  refine st (vq22_1) rfl rfl (xr_load _ _ rfl rfl (load_cell Tryd.underlying78 rfl (bx_cell (Ft.now HX20) 1 rfl))) ?_
  simp only [ls0, ls1]
  refine mv_ rfl ?_
  refine st (.tuple #[.int .i64 (mget 0 o16.f1 a1), .bool (mhas o16.f1 a1)]) rfl rfl (xr_lookup (vq22_1) (.string a1) (.tuple #[.int .i64 (mget 0 o16.f1 a1), .bool (mhas o16.f1 a1)]) rfl rfl rfl (look_ro (z := 0) (keyK_str Tryd.underlying9) Tryd.underlying78 info3 (Ft.now HRq22_1) a1 true)) ?_
  refine mv_ rfl ?_
  refine st (.int .i64 (mget 0 o16.f1 a1)) rfl rfl (xr_extract (.tuple #[.int .i64 (mget 0 o16.f1 a1), .bool (mhas o16.f1 a1)]) _ rfl rfl rfl) ?_
  simp only [ls0, ls1]
  refine st (.bool (mhas o16.f1 a1)) rfl rfl (xr_extract (.tuple #[.int .i64 (mget 0 o16.f1 a1), .bool (mhas o16.f1 a1)]) _ rfl rfl rfl) ?_
  refine as_ rfl ?_
  refine as_ rfl ?_
  refine wl_end ?_
  (try simp only [ls0, ls1])
  refine hK23 _ _ ?_
  (try clear hK23 K23)
  refine wp_seq_k fun K24 hK24 => ?_
  refine wl_region ?_
  refine mv_ rfl ?_
  refine mv_ rfl ?_
  refine as_ rfl ?_
  refine as_ rfl ?_
  simp only [ls0, ls1]
  refine wl_end ?_
  (try simp only [ls0, ls1])
  refine hK24 _ _ ?_
  (try clear hK24 K24)
  refine wp_ret ?_
  (try simp only [Exit.inBlock, Exit.then, Exit.noGoto])
  (try simp only [ls0, ls1])
  simp only [Option.some.injEq, Prod.mk.injEq] at H
  obtain ⟨rfl, rfl⟩ := H
  refine bodyPost_ret (results_tmp2 rfl _ _ _) rfl ?_
  exact ⟨_, rfl, HS⟩

/-! ### order_Order_Name: function 32 -/
def order_Order_Name.f (x0 : Option S81) (a1 : Int) : Option (ByteArray) := (order_Order_in.f x0 a1).bind fun t26 => (if t26 = true then (onOpt x0 (none) (fun o34 => (if 0 ≤ a1 then (if a1 < (o34.f0.length : Int) then (some (rdOf ByteArray.empty o34.f0 a1)) else (none)) else (none)))) else (some (⟨#[]⟩ : ByteArray)))
set_option maxHeartbeats 2000000 in
set_option maxRecDepth 100000 in
theorem order_Order_Name.calls (v0 : Value) (x0 : Option S81) (a1 : Int) (r : ByteArray) (c : Nat → Nat) (w : World) (hc : ∀ k, c k < 10) (HP0 : Ft c [0] w (fun w_ => (Kd.ptr 81 k81).K w_ x0 [v0])) (H : order_Order_Name.f x0 a1 = some r) :
    Calls Tryd.prog 32 #[v0, .int .i64 a1] w fun e w' => ∃ (c' : Nat → Nat) , e = .returned (.string r) ∧ Step c w c' w' [] := by
 unfold order_Order_Name.f at H
 have HS := Step.refl c w []
 go_enter Tryd.func32, Tryd.ntmps32
 refine wp_seq_k fun K23 hK23 => ?_
 refine wl_region ?_
 refine st (.string (⟨#[]⟩ : ByteArray)) rfl rfl (xr_assign _ rfl rfl) ?_
 refine wl_end ?_
 (try simp only [ls0, ls1])
 refine hK23 _ _ ?_
 (try clear hK23 K23)
 refine wp_seq_k fun K24 hK24 => ?_
 refine wp_seq_k fun K25 hK25 => ?_
 refine wl_region ?_
 refine mv_ rfl ?_
 refine mv_ rfl ?_
 obtain ⟨t26, A27, H⟩ := bnd H
 refine st_call #[v0, .int .i64 a1] rfl rfl Tryd.func64 (by kernel_rfl) rfl rfl (mp_ rfl) ?_
 refine (order_Order_in.calls v0 x0 a1 t26  (fun z_ => pal [(0, 0)] (c z_)) w (fun _ => pal_lt rfl _) (Ft.arg HP0 rfl) A27).mono ?_
 rintro _ w29 ⟨C30, rfl, hs31⟩
 refine ⟨_, rfl, ?_⟩
 replace hs31 := Step.lift (U := [(0, 0)]) hs31 [] rfl rfl
 generalize up c C30 w.heap.size [(0, 0)] = C30_ at hs31
 replace HP0 := HP0.thru hs31 rfl
 replace HS := HS.trans hs31 hc rfl
 (try simp only [ls0, ls1])
 refine st (.bool (!t26)) rfl rfl (xr_un (.bool t26) _ rfl rfl (by first | rfl | (go_simp; done) | (go_simp; rfl) | (go_simp; exact i64_w _) | (go_simp; exact i32_w _))) ?_
 refine wl_end ?_
 (try simp only [ls0, ls1])
 refine hK25 _ _ ?_
 (try clear hK25 K25)
 by_cases c32 : t26 = true
 ·rw [if_pos c32] at H
  (try rw [c32])
  (try simp only [Bool.not_true, Bool.not_false])
  refine wp_cond_false rfl ?_
  refine wp_skip ?_
  (try simp only [ls0, ls1])
  refine hK24 _ _ ?_
  (try clear hK24 K24)
  refine wp_seq_k fun K33 hK33 => ?_
  refine wl_region ?_
  refine mv_ rfl ?_
  cases x0 with
  | none =>
   (try simp only [onOpt] at H)
   obtain rfl := ptr_none HP0
   exact absurd H (by simp)
  | some o34 =>
   (try simp only [onOpt] at H)
   obtain ⟨g35, cs36, rfl, HX37, HK38⟩ := ptr_some HP0
   obtain ⟨Aq39_0, cpq39_0, vq39_1, rfl, HCq39_0, HRq39_0, HRq39_1, HLq39_2, HLq39_3⟩ := k81_openF HK38
   replace HRq39_0 : Ft C30_ [0] w29 (fun w_ => Kd.string.C w_ Aq39_0 o34.f0.length o34.f0) := HRq39_0
   replace HRq39_1 : Ft C30_ [0] w29 (fun w_ => (Kd.mp Value.string (Value.int .i64)).K w_ o34.f1 [vq39_1]) := HRq39_1
   refine st (.pointer (some ⟨g35, 0, none⟩)) rfl rfl (xr_nilCheck _ rfl rfl) ?_
   refine st (.pointer (some ⟨g35, 0, none⟩)) rfl rfl (xr_fieldAddr _ _ rfl rfl (bx_field2 Tryd.underlying81 rfl rfl (by kernel_rfl))) ?_
   refine st (.slice Aq39_0 o34.f0.length cpq39_0) rfl rfl (xr_load _ _ rfl rfl (load_cell Tryd.underlying30 rfl (bx_cell (Ft.now HX37) 0 rfl))) ?_
   simp only [ls0, ls1]
   refine mv_ rfl ?_
   obtain ⟨c40, H⟩ := if_some H
   obtain ⟨c41, H⟩ := if_some H
   obtain ⟨ad42, hA43⟩ := c_addr (Ft.now HRq39_0) (pos_of (j := a1) (by first | assumption | decide) (by first | assumption | omega))
   refine st (.pointer (some (ad42.add ((a1 : Int).toNat * 1)))) rfl rfl (xr_indexAddr _ _ _ rfl rfl rfl (index_at Tryd.underlying30 info9 hA43 (by first | assumption | decide | omega) (by first | assumption | decide | omega))) ?_
   refine st (.string (rdOf ByteArray.empty o34.f0 a1)) rfl rfl (xr_load _ _ rfl rfl (load_str Tryd.underlying9 rfl hA43 (Ft.now HRq39_0) (by first | assumption | decide | omega) (by first | assumption | decide | omega))) ?_
   refine as_ rfl ?_
   simp only [ls0, ls1]
   refine wl_end ?_
   (try simp only [ls0, ls1])
   refine hK33 _ _ ?_
   (try clear hK33 K33)
   refine wp_ret ?_
   (try simp only [Exit.inBlock, Exit.then, Exit.noGoto])
   (try simp only [ls0, ls1])
   obtain rfl := Option.some.inj H
   refine bodyPost_ret (results_tmp rfl _ _ _) rfl ?_
   exact ⟨_, rfl, HS⟩
 rw [if_neg c32] at H
 (try rw [(Bool.eq_false_iff.mpr c32)])
 (try simp only [Bool.not_true, Bool.not_false])
 refine wp_cond_true rfl ?_
 refine wp_seq_k fun K44 hK44 => ?_
 refine wl_region ?_
 refine st (.string (⟨#[]⟩ : ByteArray)) rfl rfl (xr_assign _ rfl rfl) ?_
 refine wl_end ?_
 (try simp only [ls0, ls1])
 refine hK44 _ _ ?_
 (try clear hK44 K44)
 refine wp_ret ?_
 (try simp only [Exit.inBlock, Exit.then, Exit.noGoto])
 (try simp only [ls0, ls1])
 obtain rfl := Option.some.inj H
 refine bodyPost_ret (results_tmp rfl _ _ _) rfl ?_
 exact ⟨_, rfl, HS⟩

end Go.Proofs.YtpfepkkpbampkaaDoor.PLtu
