-- By cprint.py, a program of this work. Lean checks it.
import Derived.Test.YtpfepkkpbampkaaDoorPLnwx0
import Derived.Test.YtpfepkkpbampkaaDoorPLnwx2
import Derived.Test.YtpfepkkpbampkaaDoorPLnwx3
namespace Go.Proofs.YtpfepkkpbampkaaDoor.PLnw
open Go.RowKit Go.Proofs.YtpfepkkpbampkaaDoorW.PrintWords Go.Proofs.YtpfepkkpbampkaaDoorW.PrintLast Go.Proofs.YtpfepkkpbampkaaDoorW.PrintMore
set_option linter.unusedVariables false
set_option linter.unusedSimpArgs false

/-! ### lattice_Lattice_Join: function 22 -/
def lattice_Lattice_Join.f (m0_0 : Option S81) (a0_1 : Int) (a0_2 : Int) (a0_3 : Int) (a0_4 : List Int) (a0_5 : List Int) (a0_6 : Int) (a1 : Int) (a2 : Int) : Option (Int × Int) := (some (wrap64 (a0_6 + 1) : Int)).bind fun y40 => ((lattice_Lattice_in.f (some (⟨m0_0, (⟨(⟨a0_1⟩ : S92), (⟨(⟨a0_2, a0_3⟩ : S94)⟩ : S96)⟩ : S98), a0_4, a0_5, (⟨y40⟩ : S105)⟩ : S107) : Option S107) a1 a2).bind fun t48 => (if t48 = true then (if 0 ≤ a1 then (if a1 < 64 then (if 0 ≤ a2 then (if a2 < 64 then (some (wrap64 (List.getD a0_4 ((a1 : Int).toNat * 64 + (a2 : Int).toNat) 0), y40)) else (none)) else (none)) else (none)) else (none)) else (some ((-1), y40))))
set_option maxHeartbeats 2000000 in
set_option maxRecDepth 100000 in
theorem lattice_Lattice_Join.calls (g0 : Nat) (v0_0 : Value) (m0_0 : Option S81) (a0_1 : Int) (a0_2 : Int) (a0_3 : Int) (a0_4 : List Int) (a0_5 : List Int) (a0_6 : Int) (a1 : Int) (a2 : Int) (r1 : Int) (r2 : Int) (c : Nat → Nat) (w : World) (hc : ∀ k, c k < 10) (HP0 : Bx c 1 w g0 107 ([v0_0, .int .u32 a0_1, .int .i32 a0_2, .int .u32 a0_3] ++ (List.map (Value.int .i8) a0_4 ++ (List.map (Value.int .i8) a0_5 ++ ([.int .i64 a0_6]))))) (HP0_0 : Ft c [0] w (fun w_ => (Kd.ptr 81 k81).K w_ m0_0 [v0_0])) (HL0_4 : a0_4.length = 4096) (HL0_5 : a0_5.length = 4096) (H : lattice_Lattice_Join.f m0_0 a0_1 a0_2 a0_3 a0_4 a0_5 a0_6 a1 a2 = some (r1, r2)) :
    Calls Tryd.prog 22 #[.pointer (some ⟨g0, 0, none⟩), .int .i64 a1, .int .i64 a2] w fun e w' => ∃ (c' : Nat → Nat) , e = .returned (.int .i64 r1) ∧ Step c w c' w' [1] ∧ Bx c' 1 w' g0 107 ([v0_0, .int .u32 a0_1, .int .i32 a0_2, .int .u32 a0_3] ++ (List.map (Value.int .i8) a0_4 ++ (List.map (Value.int .i8) a0_5 ++ ([.int .i64 r2])))) := by
 unfold lattice_Lattice_Join.f at H
 have HS := Step.refl c w [1]
 go_enter Tryd.func22, Tryd.ntmps22
 refine wp_seq_k fun K31 hK31 => ?_
 refine wl_region ?_
 refine st (.int .i64 0) rfl rfl (xr_assign _ rfl rfl) ?_
 refine wl_end ?_
 (try simp only [ls0, ls1])
 refine hK31 _ _ ?_
 (try clear hK31 K31)
 refine wp_seq_k fun K32 hK32 => ?_
 refine wp_seq_k fun K39 hK39 => ?_
 refine wl_region ?_
 refine mv_ rfl ?_
 refine st (.bool true) rfl rfl (xr_bin (.pointer (some ⟨g0, 0, none⟩)) (.pointer none) (.bool true) rfl rfl rfl (B.neq_pn ⟨_, Tryd.underlying36⟩ ⟨g0, 0, none⟩)) ?_
 refine wl_end ?_
 (try simp only [ls0, ls1])
 refine hK39 _ _ ?_
 (try clear hK39 K39)
 refine wp_cond_true rfl ?_
 refine wl_region ?_
 refine mv_ rfl ?_
 refine st (.pointer (some ⟨g0, 0, none⟩)) rfl rfl (xr_nilCheck _ rfl rfl) ?_
 refine st (.pointer (some ⟨g0, 8196, none⟩)) rfl rfl (xr_fieldAddr _ _ rfl rfl (bx_field2 Tryd.underlying107 rfl rfl (by kernel_rfl))) ?_
 obtain ⟨y40, A41, H⟩ := bnd H
 refine st_call #[.pointer (some ⟨g0, 8196, none⟩), .int .i64 1] rfl rfl Tryd.func63 (by kernel_rfl) rfl rfl (mp_ rfl) ?_
 refine atomic_add (C := c) (pre := [v0_0, .int .u32 a0_1, .int .i32 a0_2, .int .u32 a0_3] ++ (List.map (Value.int .i8) a0_4 ++ (List.map (Value.int .i8) a0_5))) (post := []) (old := a0_6) (y := 1) HP0 (by first | (simp only [List.append_assoc, List.cons_append, List.nil_append, List.append_nil]; done) | rfl) (by simp [HL0_4, HL0_5]) (r := y40) (Option.some.inj A41) (xs' := [v0_0, .int .u32 a0_1, .int .i32 a0_2, .int .u32 a0_3] ++ (List.map (Value.int .i8) a0_4 ++ (List.map (Value.int .i8) a0_5 ++ ([.int .i64 y40])))) (by first | (simp only [List.append_assoc, List.cons_append, List.nil_append, List.append_nil]; done) | rfl) ?_
 intro w42 HX43 hs44
 replace HP0_0 := HP0_0.thru hs44 rfl
 replace HS := HS.trans hs44 hc rfl
 (try simp only [ls0, ls1])
 refine wl_end ?_
 (try simp only [ls0, ls1])
 refine hK32 _ _ ?_
 (try clear hK32 K32)
 refine wp_seq_k fun K45 hK45 => ?_
 refine wp_seq_k fun K46 hK46 => ?_
 refine wl_region ?_
 refine mv_ rfl ?_
 refine mv_ rfl ?_
 refine mv_ rfl ?_
 have HP47 : Ft c [0, 1] w42 (fun w_ => (Kd.ptr 107 k107).K w_ (some (⟨m0_0, (⟨(⟨a0_1⟩ : S92), (⟨(⟨a0_2, a0_3⟩ : S94)⟩ : S96)⟩ : S98), a0_4, a0_5, (⟨y40⟩ : S105)⟩ : S107)) [.pointer (some ⟨g0, 0, none⟩)]) := ptr_mk (Ft.more (HX43.ft) rfl) (k107_mkF _ _ (⟨m0_0, (⟨(⟨a0_1⟩ : S92), (⟨(⟨a0_2, a0_3⟩ : S94)⟩ : S96)⟩ : S98), a0_4, a0_5, (⟨y40⟩ : S105)⟩ : S107) (Ft.more HP0_0 rfl) HL0_4 HL0_5)
 obtain ⟨t48, A49, H⟩ := bnd H
 refine st_call #[.pointer (some ⟨g0, 0, none⟩), .int .i64 a1, .int .i64 a2] rfl rfl Tryd.func62 (by kernel_rfl) rfl rfl (mp_ rfl) ?_
 refine (lattice_Lattice_in.calls (.pointer (some ⟨g0, 0, none⟩)) (some (⟨m0_0, (⟨(⟨a0_1⟩ : S92), (⟨(⟨a0_2, a0_3⟩ : S94)⟩ : S96)⟩ : S98), a0_4, a0_5, (⟨y40⟩ : S105)⟩ : S107) : Option S107) a1 a2 t48  (fun z_ => pal [(0, 0), (1, 0)] (c z_)) w42 (fun _ => pal_lt rfl _) (Ft.arg HP47 rfl) A49).mono ?_
 rintro _ w51 ⟨C52, rfl, hs53⟩
 refine ⟨_, rfl, ?_⟩
 replace hs53 := Step.lift (U := [(0, 0)]) hs53 [] rfl rfl
 generalize up c C52 w42.heap.size [(0, 0)] = C52_ at hs53
 replace HX43 := HX43.thru hs53 rfl
 replace HP0_0 := HP0_0.thru hs53 rfl
 replace HS := HS.trans hs53 hc rfl
 (try simp only [ls0, ls1])
 refine st (.bool (!t48)) rfl rfl (xr_un (.bool t48) _ rfl rfl (by first | rfl | (go_simp; done) | (go_simp; rfl) | (go_simp; exact i64_w _) | (go_simp; exact i32_w _))) ?_
 refine wl_end ?_
 (try simp only [ls0, ls1])
 refine hK46 _ _ ?_
 (try clear hK46 K46)
 by_cases c54 : t48 = true
 ·rw [if_pos c54] at H
  (try rw [c54])
  (try simp only [Bool.not_true, Bool.not_false])
  refine wp_cond_false rfl ?_
  refine wp_skip ?_
  (try simp only [ls0, ls1])
  refine hK45 _ _ ?_
  (try clear hK45 K45)
  refine wp_seq_k fun K55 hK55 => ?_
  refine wl_region ?_
  refine mv_ rfl ?_
  refine mv_ rfl ?_
  refine mv_ rfl ?_
  refine st (.pointer (some ⟨g0, 0, none⟩)) rfl rfl (xr_nilCheck _ rfl rfl) ?_
  simp only [ls0, ls1]
  refine st (.pointer (some ⟨g0, 4, none⟩)) rfl rfl (xr_fieldAddr _ _ rfl rfl (bx_field2 Tryd.underlying107 rfl rfl (by kernel_rfl))) ?_
  obtain ⟨c56, H⟩ := if_some H
  obtain ⟨c57, H⟩ := if_some H
  refine st (.pointer (some ⟨g0, 4 + ((a1 : Int).toNat * 64), none⟩)) rfl rfl (xr_indexAddr _ _ _ rfl rfl rfl (arr_index (sz := 64) Tryd.underlying102 (by kernel_rfl) (by first | assumption | decide | omega) (by first | assumption | decide | omega) (by omega))) ?_
  obtain ⟨c58, H⟩ := if_some H
  obtain ⟨c59, H⟩ := if_some H
  refine st (.pointer (some ⟨g0, 4 + ((a1 : Int).toNat * 64 + (a2 : Int).toNat), none⟩)) rfl rfl (xr_indexAddr _ _ _ rfl rfl rfl (arr_index (sz := 1) Tryd.underlying100 (by kernel_rfl) (by first | assumption | decide | omega) (by first | assumption | decide | omega) (by omega))) ?_
  refine st (.int .i8 (List.getD a0_4 ((a1 : Int).toNat * 64 + (a2 : Int).toNat) 0)) rfl rfl (xr_load _ _ rfl rfl (arr_load (o := 4) (N := 4096) (pre := [v0_0, .int .u32 a0_1, .int .i32 a0_2, .int .u32 a0_3]) (post := List.map (Value.int .i8) a0_5 ++ ([.int .i64 y40])) (enc := (Value.int .i8)) (l := a0_4) (i := (a1 : Int).toNat * 64 + (a2 : Int).toNat) 0 Tryd.underlying99 rfl (HX43).2 (by first | (simp only [List.append_assoc, List.cons_append, List.nil_append, List.append_nil]; done) | rfl) rfl HL0_4 (by omega) (by omega))) ?_
  simp only [ls0, ls1]
  refine st (.int .i64 (wrap64 (List.getD a0_4 ((a1 : Int).toNat * 64 + (a2 : Int).toNat) 0))) rfl rfl (xr_conv (.int .i8 (List.getD a0_4 ((a1 : Int).toNat * 64 + (a2 : Int).toNat) 0)) _ rfl rfl (by first | rfl | (go_simp; done) | (go_simp; rfl) | (go_simp; exact i64_w _) | (go_simp; exact i32_w _))) ?_
  refine as_ rfl ?_
  refine wl_end ?_
  (try simp only [ls0, ls1])
  refine hK55 _ _ ?_
  (try clear hK55 K55)
  refine wp_ret ?_
  (try simp only [Exit.inBlock, Exit.then, Exit.noGoto])
  (try simp only [ls0, ls1])
  simp only [Option.some.injEq, Prod.mk.injEq] at H
  obtain ⟨rfl, rfl⟩ := H
  refine bodyPost_ret (results_tmp rfl _ _ _) rfl ?_
  exact ⟨_, rfl, HS, HX43⟩
 rw [if_neg c54] at H
 (try rw [(Bool.eq_false_iff.mpr c54)])
 (try simp only [Bool.not_true, Bool.not_false])
 refine wp_cond_true rfl ?_
 refine wp_seq_k fun K60 hK60 => ?_
 refine wl_region ?_
 refine st (.int .i64 (-1)) rfl rfl (xr_assign _ rfl rfl) ?_
 refine wl_end ?_
 (try simp only [ls0, ls1])
 refine hK60 _ _ ?_
 (try clear hK60 K60)
 refine wp_ret ?_
 (try simp only [Exit.inBlock, Exit.then, Exit.noGoto])
 (try simp only [ls0, ls1])
 simp only [Option.some.injEq, Prod.mk.injEq] at H
 obtain ⟨rfl, rfl⟩ := H
 refine bodyPost_ret (results_tmp rfl _ _ _) rfl ?_
 exact ⟨_, rfl, HS, HX43⟩

/-! ### blazonlaw14_square: function 49 -/
def blazonlaw14_square.f  : Option ((List (S53))) := (some ([(⟨(⟨#[98, 111, 116]⟩ : ByteArray), (⟨#[108]⟩ : ByteArray), 0⟩ : S53), (⟨(⟨#[98, 111, 116]⟩ : ByteArray), (⟨#[114]⟩ : ByteArray), 0⟩ : S53), (⟨(⟨#[108]⟩ : ByteArray), (⟨#[116, 111, 112]⟩ : ByteArray), 0⟩ : S53), (⟨(⟨#[114]⟩ : ByteArray), (⟨#[116, 111, 112]⟩ : ByteArray), 0⟩ : S53)] : List (S53))).bind fun y14 => (some y14)
set_option maxHeartbeats 2000000 in
set_option maxRecDepth 100000 in
theorem blazonlaw14_square.calls  (r : List (S53)) (c : Nat → Nat) (w : World) (hc : ∀ k, c k < 10)  (H : blazonlaw14_square.f = some r) :
    Calls Tryd.prog 49 #[] w fun e w' => ∃ (c' : Nat → Nat) (A_r : Option Addr) (c_r : Nat), e = .returned (.slice A_r r.length c_r) ∧ Step c w c' w' [] ∧ Own c' 5 w' k53 53 (.slice A_r r.length c_r) r ∧ r.length ≤ c_r := by
 unfold blazonlaw14_square.f at H
 have HS := Step.refl c w []
 go_enter Tryd.func49, Tryd.ntmps49
 refine wp_seq_k fun K12 hK12 => ?_
 refine wl_region ?_
 refine st (.slice none 0 0) rfl rfl (xr_assign _ rfl rfl) ?_
 refine wl_end ?_
 (try simp only [ls0, ls1])
 refine hK12 _ _ ?_
 (try clear hK12 K12)
 refine wp_seq_k fun K13 hK13 => ?_
 refine wl_region ?_
 refine st (.agg #[.string (⟨#[98, 111, 116]⟩ : ByteArray), .string (⟨#[108]⟩ : ByteArray), .int .i64 0]) rfl rfl (xr_build #[(0, .string (⟨#[98, 111, 116]⟩ : ByteArray)), (1, .string (⟨#[108]⟩ : ByteArray))] (.agg #[.string (⟨#[98, 111, 116]⟩ : ByteArray), .string (⟨#[108]⟩ : ByteArray), .int .i64 0]) rfl (mp_ rfl) (by first | rfl | (go_simp; done) | (go_simp; rfl) | (go_simp; exact i64_w _) | (go_simp; exact i32_w _))) ?_
 refine st (.agg #[.string (⟨#[98, 111, 116]⟩ : ByteArray), .string (⟨#[114]⟩ : ByteArray), .int .i64 0]) rfl rfl (xr_build #[(0, .string (⟨#[98, 111, 116]⟩ : ByteArray)), (1, .string (⟨#[114]⟩ : ByteArray))] (.agg #[.string (⟨#[98, 111, 116]⟩ : ByteArray), .string (⟨#[114]⟩ : ByteArray), .int .i64 0]) rfl (mp_ rfl) (by first | rfl | (go_simp; done) | (go_simp; rfl) | (go_simp; exact i64_w _) | (go_simp; exact i32_w _))) ?_
 refine st (.agg #[.string (⟨#[108]⟩ : ByteArray), .string (⟨#[116, 111, 112]⟩ : ByteArray), .int .i64 0]) rfl rfl (xr_build #[(0, .string (⟨#[108]⟩ : ByteArray)), (1, .string (⟨#[116, 111, 112]⟩ : ByteArray))] (.agg #[.string (⟨#[108]⟩ : ByteArray), .string (⟨#[116, 111, 112]⟩ : ByteArray), .int .i64 0]) rfl (mp_ rfl) (by first | rfl | (go_simp; done) | (go_simp; rfl) | (go_simp; exact i64_w _) | (go_simp; exact i32_w _))) ?_
 refine st (.agg #[.string (⟨#[114]⟩ : ByteArray), .string (⟨#[116, 111, 112]⟩ : ByteArray), .int .i64 0]) rfl rfl (xr_build #[(0, .string (⟨#[114]⟩ : ByteArray)), (1, .string (⟨#[116, 111, 112]⟩ : ByteArray))] (.agg #[.string (⟨#[114]⟩ : ByteArray), .string (⟨#[116, 111, 112]⟩ : ByteArray), .int .i64 0]) rfl (mp_ rfl) (by first | rfl | (go_simp; done) | (go_simp; rfl) | (go_simp; exact i64_w _) | (go_simp; exact i32_w _))) ?_
 simp only [ls0, ls1]
 obtain ⟨y14, A15, H⟩ := bnd H
 refine Own.lit k53 (C := c) (i := 11) rfl 53 rfl (xs := [(⟨(⟨#[98, 111, 116]⟩ : ByteArray), (⟨#[108]⟩ : ByteArray), 0⟩ : S53), (⟨(⟨#[98, 111, 116]⟩ : ByteArray), (⟨#[114]⟩ : ByteArray), 0⟩ : S53), (⟨(⟨#[108]⟩ : ByteArray), (⟨#[116, 111, 112]⟩ : ByteArray), 0⟩ : S53), (⟨(⟨#[114]⟩ : ByteArray), (⟨#[116, 111, 112]⟩ : ByteArray), 0⟩ : S53)]) (inner := [.string (⟨#[98, 111, 116]⟩ : ByteArray), .string (⟨#[108]⟩ : ByteArray), .int .i64 0, .string (⟨#[98, 111, 116]⟩ : ByteArray), .string (⟨#[114]⟩ : ByteArray), .int .i64 0, .string (⟨#[108]⟩ : ByteArray), .string (⟨#[116, 111, 112]⟩ : ByteArray), .int .i64 0, .string (⟨#[114]⟩ : ByteArray), .string (⟨#[116, 111, 112]⟩ : ByteArray), .int .i64 0]) (by first | (go_simp; done) | (go_simp; rfl)) (reps_cons (k53_mkF _ _ (⟨(⟨#[98, 111, 116]⟩ : ByteArray), (⟨#[108]⟩ : ByteArray), 0⟩ : S53)) rfl (reps_cons (k53_mkF _ _ (⟨(⟨#[98, 111, 116]⟩ : ByteArray), (⟨#[114]⟩ : ByteArray), 0⟩ : S53)) rfl (reps_cons (k53_mkF _ _ (⟨(⟨#[108]⟩ : ByteArray), (⟨#[116, 111, 112]⟩ : ByteArray), 0⟩ : S53)) rfl (reps_cons (k53_mkF _ _ (⟨(⟨#[114]⟩ : ByteArray), (⟨#[116, 111, 112]⟩ : ByteArray), 0⟩ : S53)) rfl (Reps.none _ _))))) (by simp only [List.length_cons, List.length_nil]; omega) (Option.some.inj A15) ?_
 intro A16 cp17 w18 C19 HO20 HC21 hs22
 replace HS := HS.trans hs22 hc rfl
 (try simp only [ls0, ls1])
 refine as_ rfl ?_
 refine wl_end ?_
 (try simp only [ls0, ls1])
 refine hK13 _ _ ?_
 (try clear hK13 K13)
 refine wp_ret ?_
 (try simp only [Exit.inBlock, Exit.then, Exit.noGoto])
 (try simp only [ls0, ls1])
 replace HO20 := Own.recolor (b := 5) HO20 (by decide)
 replace HS := Step.recol (a := 11) (b := 5) HS hc (by decide)
 obtain rfl := Option.some.inj H
 refine bodyPost_ret (results_tmp rfl _ _ _) rfl ?_
 exact ⟨_, A16, cp17, rfl, HS, HO20, HC21⟩

/-! ### blazonlaw14_awake: function 14 -/
def blazonlaw14_awake.f (k : Nat)  : Option (Bool) := (blazonlaw14_square.f).bind fun t88 => ((order_New.f k t88).bind fun bt99 => ((lattice_New.f k bt99.1).bind fun bt110 => ((some ([(⟨(⟨#[97]⟩ : ByteArray), (⟨#[]⟩ : ByteArray), 0⟩ : S53), (⟨(⟨#[98]⟩ : ByteArray), (⟨#[]⟩ : ByteArray), 0⟩ : S53)] : List (S53))).bind fun y122 => ((order_New.f k y122).bind fun bt132 => ((lattice_New.f k bt132.1).bind fun bt143 => (onOpt bt110.1 (none) (fun o154 => (if bt110.2.2.2 = 0 then ((lattice_Lattice_Join.f o154.f0 o154.f1.f0.f0 o154.f1.f1.f0.f0 o154.f1.f1.f0.f1 o154.f2 o154.f3 o154.f4.f0 1 2).bind fun bt162 => (if bt162.1 = 3 then (some (decide (bt143.2.2.2 = 17))) else (some false))) else (some false)))))))))

set_option maxHeartbeats 2000000 in
set_option maxRecDepth 100000 in
theorem blazonlaw14_awake.calls (k : Nat)  (r : Bool) (c : Nat → Nat) (w : World) (hc : ∀ k, c k < 10) (HG : Ft c [0] w GTab) (H : blazonlaw14_awake.f k = some r) :
    Calls Tryd.prog 14 #[] w fun e w' => ∃ (c' : Nat → Nat) , e = .returned (.bool r) ∧ Step c w c' w' [] := by
 unfold blazonlaw14_awake.f at H
 have HS := Step.refl c w []
 go_enter Tryd.func14, Tryd.ntmps14
 refine wp_seq_k fun K86 hK86 => ?_
 refine wl_region ?_
 refine st (.bool false) rfl rfl (xr_assign _ rfl rfl) ?_
 refine wl_end ?_
 (try simp only [ls0, ls1])
 refine hK86 _ _ ?_
 (try clear hK86 K86)
 refine wp_seq_k fun K87 hK87 => ?_
 refine wl_region ?_
 obtain ⟨t88, A89, H⟩ := bnd H
 refine st_call #[] rfl rfl Tryd.func49 (by kernel_rfl) rfl rfl (mp_ rfl) ?_
 refine (blazonlaw14_square.calls t88  (fun z_ => pal [(0, 0)] (c z_)) w (fun _ => pal_lt rfl _) A89).mono ?_
 rintro _ w91 ⟨C92, A94, cp95, rfl, hs93, HO96, HC97⟩
 refine ⟨_, rfl, ?_⟩
 replace HO96 := Own.res (U := [(0, 0), (5, 11)]) (j := 11) HO96 hs93 (by rfl) (by decide) rfl rfl
 replace hs93 := Step.lift (U := [(0, 0), (5, 11)]) hs93 [] rfl rfl
 generalize up c C92 w.heap.size [(0, 0), (5, 11)] = C92_ at HO96 hs93
 replace HG := HG.thru hs93 rfl
 replace HS := HS.trans hs93 hc rfl
 (try simp only [ls0, ls1])
 replace HG := Ft.recol (a := 11) (b := 0) HG (.inl rfl)
 have HR98 := Ft.recolor (a := 11) (b := 0) (HO96.ft) [0] rfl
 replace HS := Step.recol (a := 11) (b := 0) HS hc (by decide)
 obtain ⟨⟨t99, t100, t101⟩, A102, H⟩ := bnd H
 (try dsimp only at H)
 refine st_call #[.slice A94 t88.length cp95] rfl rfl Tryd.func15 (by kernel_rfl) rfl rfl (mp_ rfl) ?_
 refine (order_New.calls k A94 cp95 t88 t99 t100 t101  (fun z_ => pal [(0, 0)] ((recol C92_ 11 0) z_)) w91 (fun _ => pal_lt rfl _) (Ft.arg HR98 rfl) HC97 A102).mono ?_
 rintro _ w104 ⟨C105, v107, rfl, hs106, HB108⟩
 refine ⟨_, rfl, ?_⟩
 replace HB108 := Ft.res (U := [(0, 0)]) HB108 hs106 [0] rfl rfl rfl
 replace hs106 := Step.lift (U := [(0, 0)]) hs106 [] rfl rfl
 generalize up (recol C92_ 11 0) C105 w91.heap.size [(0, 0)] = C105_ at HB108 hs106
 replace HG := HG.thru hs106 rfl
 replace HS := HS.trans hs106 hc rfl
 (try simp only [ls0, ls1])
 refine mv_ rfl ?_
 refine st (v107) rfl rfl (xr_extract (.tuple #[v107, .int .i64 t100, .int .i64 t101]) _ rfl rfl rfl) ?_
 refine st (.int .i64 t100) rfl rfl (xr_extract (.tuple #[v107, .int .i64 t100, .int .i64 t101]) _ rfl rfl rfl) ?_
 refine st (.int .i64 t101) rfl rfl (xr_extract (.tuple #[v107, .int .i64 t100, .int .i64 t101]) _ rfl rfl rfl) ?_
 simp only [ls0, ls1]
 refine as_ rfl ?_
 refine as_ rfl ?_
 refine as_ rfl ?_
 refine wl_end ?_
 (try simp only [ls0, ls1])
 refine hK87 _ _ ?_
 (try clear hK87 K87)
 refine wp_seq_k fun K109 hK109 => ?_
 refine wl_region ?_
 refine mv_ rfl ?_
 obtain ⟨⟨t110, t111, t112, t113⟩, A114, H⟩ := bnd H
 (try dsimp only at H)
 refine st_call #[v107] rfl rfl Tryd.func17 (by kernel_rfl) rfl rfl (mp_ rfl) ?_
 refine (lattice_New.calls k v107 t99 t110 t111 t112 t113  (fun z_ => pal [(0, 0)] (C105_ z_)) w104 (fun _ => pal_lt rfl _) (Ft.arg HG rfl) (Ft.arg HB108 rfl) A114).mono ?_
 rintro _ w116 ⟨C117, v119, rfl, hs118, HB120⟩
 refine ⟨_, rfl, ?_⟩
 replace HB120 := OwnPt.res (U := [(0, 0), (5, 12)]) (j := 12) HB120 hs118 (by rfl) (by rfl) (by decide) rfl rfl
 replace hs118 := Step.lift (U := [(0, 0), (5, 12)]) hs118 [] rfl rfl
 generalize up C105_ C117 w104.heap.size [(0, 0), (5, 12)] = C117_ at HB120 hs118
 replace HG := HG.thru hs118 rfl
 replace HS := HS.trans hs118 hc rfl
 (try simp only [ls0, ls1])
 refine mv_ rfl ?_
 refine st (v119) rfl rfl (xr_extract (.tuple #[v119, .int .i64 t111, .int .i64 t112, .int .i64 t113]) _ rfl rfl rfl) ?_
 refine st (.int .i64 t111) rfl rfl (xr_extract (.tuple #[v119, .int .i64 t111, .int .i64 t112, .int .i64 t113]) _ rfl rfl rfl) ?_
 refine st (.int .i64 t112) rfl rfl (xr_extract (.tuple #[v119, .int .i64 t111, .int .i64 t112, .int .i64 t113]) _ rfl rfl rfl) ?_
 simp only [ls0, ls1]
 refine st (.int .i64 t113) rfl rfl (xr_extract (.tuple #[v119, .int .i64 t111, .int .i64 t112, .int .i64 t113]) _ rfl rfl rfl) ?_
 refine as_ rfl ?_
 refine as_ rfl ?_
 refine as_ rfl ?_
 simp only [ls0, ls1]
 refine as_ rfl ?_
 refine wl_end ?_
 (try simp only [ls0, ls1])
 refine hK109 _ _ ?_
 (try clear hK109 K109)
 refine wp_seq_k fun K121 hK121 => ?_
 refine wl_region ?_
 refine st (.agg #[.string (⟨#[97]⟩ : ByteArray), .string (⟨#[]⟩ : ByteArray), .int .i64 0]) rfl rfl (xr_build #[(0, .string (⟨#[97]⟩ : ByteArray))] (.agg #[.string (⟨#[97]⟩ : ByteArray), .string (⟨#[]⟩ : ByteArray), .int .i64 0]) rfl (mp_ rfl) (by first | rfl | (go_simp; done) | (go_simp; rfl) | (go_simp; exact i64_w _) | (go_simp; exact i32_w _))) ?_
 refine st (.agg #[.string (⟨#[98]⟩ : ByteArray), .string (⟨#[]⟩ : ByteArray), .int .i64 0]) rfl rfl (xr_build #[(0, .string (⟨#[98]⟩ : ByteArray))] (.agg #[.string (⟨#[98]⟩ : ByteArray), .string (⟨#[]⟩ : ByteArray), .int .i64 0]) rfl (mp_ rfl) (by first | rfl | (go_simp; done) | (go_simp; rfl) | (go_simp; exact i64_w _) | (go_simp; exact i32_w _))) ?_
 obtain ⟨y122, A123, H⟩ := bnd H
 refine Own.lit k53 (C := C117_) (i := 13) rfl 53 rfl (xs := [(⟨(⟨#[97]⟩ : ByteArray), (⟨#[]⟩ : ByteArray), 0⟩ : S53), (⟨(⟨#[98]⟩ : ByteArray), (⟨#[]⟩ : ByteArray), 0⟩ : S53)]) (inner := [.string (⟨#[97]⟩ : ByteArray), .string (⟨#[]⟩ : ByteArray), .int .i64 0, .string (⟨#[98]⟩ : ByteArray), .string (⟨#[]⟩ : ByteArray), .int .i64 0]) (by first | (go_simp; done) | (go_simp; rfl)) (reps_cons (k53_mkF _ _ (⟨(⟨#[97]⟩ : ByteArray), (⟨#[]⟩ : ByteArray), 0⟩ : S53)) rfl (reps_cons (k53_mkF _ _ (⟨(⟨#[98]⟩ : ByteArray), (⟨#[]⟩ : ByteArray), 0⟩ : S53)) rfl (Reps.none _ _))) (by simp only [List.length_cons, List.length_nil]; omega) (Option.some.inj A123) ?_
 intro A124 cp125 w126 C127 HO128 HC129 hs130
 replace HG := HG.thru hs130 rfl
 replace HB120 := HB120.thru hs130 rfl
 replace HS := HS.trans hs130 hc rfl
 (try simp only [ls0, ls1])
 replace HG := Ft.recol (a := 13) (b := 0) HG (.inl rfl)
 replace HB120 := OwnPt.recol (a := 13) (b := 0) HB120 (by decide) (by decide)
 have HR131 := Ft.recolor (a := 13) (b := 0) (HO128.ft) [0] rfl
 replace HS := Step.recol (a := 13) (b := 0) HS hc (by decide)
 obtain ⟨⟨t132, t133, t134⟩, A135, H⟩ := bnd H
 (try dsimp only at H)
 refine st_call #[.slice A124 y122.length cp125] rfl rfl Tryd.func15 (by kernel_rfl) rfl rfl (mp_ rfl) ?_
 refine (order_New.calls k A124 cp125 y122 t132 t133 t134  (fun z_ => pal [(0, 0)] ((recol C127 13 0) z_)) w126 (fun _ => pal_lt rfl _) (Ft.arg HR131 rfl) HC129 A135).mono ?_
 rintro _ w137 ⟨C138, v140, rfl, hs139, HB141⟩
 refine ⟨_, rfl, ?_⟩
 replace HB141 := Ft.res (U := [(0, 0)]) HB141 hs139 [0] rfl rfl rfl
 replace hs139 := Step.lift (U := [(0, 0)]) hs139 [] rfl rfl
 generalize up (recol C127 13 0) C138 w126.heap.size [(0, 0)] = C138_ at HB141 hs139
 replace HG := HG.thru hs139 rfl
 replace HB120 := HB120.thru hs139 rfl
 replace HS := HS.trans hs139 hc rfl
 (try simp only [ls0, ls1])
 refine mv_ rfl ?_
 refine st (v140) rfl rfl (xr_extract (.tuple #[v140, .int .i64 t133, .int .i64 t134]) _ rfl rfl rfl) ?_
 refine st (.int .i64 t133) rfl rfl (xr_extract (.tuple #[v140, .int .i64 t133, .int .i64 t134]) _ rfl rfl rfl) ?_
 refine st (.int .i64 t134) rfl rfl (xr_extract (.tuple #[v140, .int .i64 t133, .int .i64 t134]) _ rfl rfl rfl) ?_
 simp only [ls0, ls1]
 refine as_ rfl ?_
 refine as_ rfl ?_
 refine as_ rfl ?_
 refine wl_end ?_
 (try simp only [ls0, ls1])
 refine hK121 _ _ ?_
 (try clear hK121 K121)
 refine wp_seq_k fun K142 hK142 => ?_
 refine wl_region ?_
 refine mv_ rfl ?_
 obtain ⟨⟨t143, t144, t145, t146⟩, A147, H⟩ := bnd H
 (try dsimp only at H)
 refine st_call #[v140] rfl rfl Tryd.func17 (by kernel_rfl) rfl rfl (mp_ rfl) ?_
 refine (lattice_New.calls k v140 t132 t143 t144 t145 t146  (fun z_ => pal [(0, 0)] (C138_ z_)) w137 (fun _ => pal_lt rfl _) (Ft.arg HG rfl) (Ft.arg HB141 rfl) A147).mono ?_
 rintro _ w149 ⟨C150, v152, rfl, hs151, HB153⟩
 refine ⟨_, rfl, ?_⟩
 replace HB153 := OwnPt.res (U := [(0, 0), (5, 14)]) (j := 14) HB153 hs151 (by rfl) (by rfl) (by decide) rfl rfl
 replace hs151 := Step.lift (U := [(0, 0), (5, 14)]) hs151 [] rfl rfl
 generalize up C138_ C150 w137.heap.size [(0, 0), (5, 14)] = C150_ at HB153 hs151
 replace HG := HG.thru hs151 rfl
 replace HB120 := HB120.thru hs151 rfl
 replace HS := HS.trans hs151 hc rfl
 (try simp only [ls0, ls1])
 refine mv_ rfl ?_
 refine st (v152) rfl rfl (xr_extract (.tuple #[v152, .int .i64 t144, .int .i64 t145, .int .i64 t146]) _ rfl rfl rfl) ?_
 refine st (.int .i64 t144) rfl rfl (xr_extract (.tuple #[v152, .int .i64 t144, .int .i64 t145, .int .i64 t146]) _ rfl rfl rfl) ?_
 refine st (.int .i64 t145) rfl rfl (xr_extract (.tuple #[v152, .int .i64 t144, .int .i64 t145, .int .i64 t146]) _ rfl rfl rfl) ?_
 simp only [ls0, ls1]
 refine st (.int .i64 t146) rfl rfl (xr_extract (.tuple #[v152, .int .i64 t144, .int .i64 t145, .int .i64 t146]) _ rfl rfl rfl) ?_
 refine as_ rfl ?_
 refine as_ rfl ?_
 refine as_ rfl ?_
 simp only [ls0, ls1]
 refine as_ rfl ?_
 refine wl_end ?_
 (try simp only [ls0, ls1])
 refine hK142 _ _ ?_
 (try clear hK142 K142)
 cases t110 with
 | none =>
  (try simp only [onOpt] at H)
  obtain rfl := OwnPt.isNone HB120
  exact absurd H (by simp)
 | some o154 =>
  (try simp only [onOpt] at H)
  obtain ⟨g155, cs156, rfl, HX157, HK158⟩ := OwnPt.isSome HB120
  obtain ⟨vq159_0, rfl, HRq159_0, HLq159_4, HLq159_5⟩ := k107_openF HK158
  replace HRq159_0 : Ft C150_ [0] w149 (fun w_ => (Kd.ptr 81 k81).K w_ o154.f0 [vq159_0]) := HRq159_0
  replace HX157 : Bx C150_ 12 w149 g155 107 ([vq159_0, .int .u32 o154.f1.f0.f0, .int .i32 o154.f1.f1.f0.f0, .int .u32 o154.f1.f1.f0.f1] ++ (List.map (Value.int .i8) o154.f2 ++ (List.map (Value.int .i8) o154.f3 ++ ([.int .i64 o154.f4.f0])))) := HX157
  refine wp_seq_k fun K160 hK160 => ?_
  refine wl_region ?_
  refine mv_ rfl ?_
  refine st (.bool (decide (t113 = 0))) rfl rfl (xr_bin _ _ _ rfl rfl rfl (B.eql_i64 _ _)) ?_
  refine mv_ rfl ?_
  by_cases c161 : t113 = 0
  ·rw [if_pos c161] at H
   (try rw [(decide_eq_true c161)])
   refine on_guard (guard_on 2 true 45 rfl rfl rfl) ?_
   refine mv_ rfl ?_
   simp only [ls0, ls1]
   refine on_guard (guard_on 2 true 45 rfl rfl rfl) ?_
   obtain ⟨⟨t162, t163⟩, A164, H⟩ := bnd H
   (try dsimp only at H)
   refine st_call #[.pointer (some ⟨g155, 0, none⟩), .int .i64 1, .int .i64 2] rfl rfl Tryd.func22 (by kernel_rfl) rfl rfl (mp_ rfl) ?_
   refine (lattice_Lattice_Join.calls g155 vq159_0 o154.f0 o154.f1.f0.f0 o154.f1.f1.f0.f0 o154.f1.f1.f0.f1 o154.f2 o154.f3 o154.f4.f0 1 2 t162 t163  (fun z_ => pal [(0, 0), (12, 1)] (C150_ z_)) w149 (fun _ => pal_lt rfl _) (Bx.arg HX157 rfl) (Ft.arg HRq159_0 rfl) HLq159_4 HLq159_5 A164).mono ?_
   rintro _ w166 ⟨C167, rfl, hs168, HX169⟩
   refine ⟨_, rfl, ?_⟩
   replace HX169 := Bx.res (U := [(0, 0), (1, 12)]) (j := 12) HX169 hs168 (by rfl) (by decide) rfl
   replace hs168 := Step.lift (U := [(0, 0), (1, 12)]) hs168 [12] rfl rfl
   generalize up C150_ C167 w149.heap.size [(0, 0), (1, 12)] = C167_ at HX169 hs168
   replace HG := HG.thru hs168 rfl
   replace HRq159_0 := HRq159_0.thru hs168 rfl
   replace HS := HS.trans hs168 hc rfl
   (try simp only [ls0, ls1])
   refine on_guard (guard_on 2 true 45 rfl rfl rfl) ?_
   refine st (.bool (decide (t162 = 3))) rfl rfl (xr_bin _ _ _ rfl rfl rfl (B.eql_i64 _ _)) ?_
   refine st (.bool (decide (t162 = 3))) rfl rfl (xr_pick true _ rfl rfl rfl) ?_
   refine mv_ rfl ?_
   by_cases c170 : t162 = 3
   ·rw [if_pos c170] at H
    (try rw [(decide_eq_true c170)])
    refine on_guard (guard_on 7 true 50 rfl rfl rfl) ?_
    refine mv_ rfl ?_
    simp only [ls0, ls1]
    refine on_guard (guard_on 7 true 50 rfl rfl rfl) ?_
    refine st (.bool (decide (t146 = 17))) rfl rfl (xr_bin _ _ _ rfl rfl rfl (B.eql_i64 _ _)) ?_
    refine st (.bool (decide (t146 = 17))) rfl rfl (xr_pick true _ rfl rfl rfl) ?_
    refine as_ rfl ?_
    refine wl_end ?_
    (try simp only [ls0, ls1])
    refine hK160 _ _ ?_
    (try clear hK160 K160)
    refine wp_ret ?_
    (try simp only [Exit.inBlock, Exit.then, Exit.noGoto])
    (try simp only [ls0, ls1])
    obtain rfl := Option.some.inj H
    refine bodyPost_ret (results_tmp rfl _ _ _) rfl ?_
    exact ⟨_, rfl, HS⟩
   rw [if_neg c170] at H
   (try rw [(decide_eq_false c170)])
   refine sk_guard (guard_off 7 true 50 rfl rfl false (by decide) rfl) rfl ?_
   refine sk_guard (guard_off 7 true 50 rfl rfl false (by decide) rfl) rfl ?_
   refine st (.bool false) rfl rfl (xr_pick false _ rfl rfl rfl) ?_
   refine as_ rfl ?_
   simp only [ls0, ls1]
   refine wl_end ?_
   (try simp only [ls0, ls1])
   refine hK160 _ _ ?_
   (try clear hK160 K160)
   refine wp_ret ?_
   (try simp only [Exit.inBlock, Exit.then, Exit.noGoto])
   (try simp only [ls0, ls1])
   obtain rfl := Option.some.inj H
   refine bodyPost_ret (results_tmp rfl _ _ _) rfl ?_
   exact ⟨_, rfl, HS⟩
  rw [if_neg c161] at H
  (try rw [(decide_eq_false c161)])
  refine sk_guard (guard_off 2 true 45 rfl rfl false (by decide) rfl) rfl ?_
  refine sk_guard (guard_off 2 true 45 rfl rfl false (by decide) rfl) rfl ?_
  refine sk_guard (guard_off 2 true 45 rfl rfl false (by decide) rfl) rfl ?_
  refine st (.bool false) rfl rfl (xr_pick false _ rfl rfl rfl) ?_
  simp only [ls0, ls1]
  refine mv_ rfl ?_
  refine sk_guard (guard_off 7 true 50 rfl rfl false (by decide) rfl) rfl ?_
  refine sk_guard (guard_off 7 true 50 rfl rfl false (by decide) rfl) rfl ?_
  refine st (.bool false) rfl rfl (xr_pick false _ rfl rfl rfl) ?_
  simp only [ls0, ls1]
  refine as_ rfl ?_
  refine wl_end ?_
  (try simp only [ls0, ls1])
  refine hK160 _ _ ?_
  (try clear hK160 K160)
  refine wp_ret ?_
  (try simp only [Exit.inBlock, Exit.then, Exit.noGoto])
  (try simp only [ls0, ls1])
  obtain rfl := Option.some.inj H
  refine bodyPost_ret (results_tmp rfl _ _ _) rfl ?_
  exact ⟨_, rfl, HS⟩

/-! ### blazonref06_Letter: function 73 -/
def blazonref06_Letter.f (a0 : Int) : Option (Bool) := if a0 ≥ 97 then (if a0 ≤ 122 then (some true) else (if a0 ≥ 65 then (if a0 ≤ 90 then (some true) else (some (decide (a0 = 95)))) else (some (decide (a0 = 95))))) else (if a0 ≥ 65 then (if a0 ≤ 90 then (some true) else (some (decide (a0 = 95)))) else (some (decide (a0 = 95))))
set_option maxHeartbeats 2000000 in
set_option maxRecDepth 100000 in
theorem blazonref06_Letter.calls (a0 : Int) (r : Bool) (c : Nat → Nat) (w : World) (hc : ∀ k, c k < 10)  (H : blazonref06_Letter.f a0 = some r) :
    Calls Tryd.prog 73 #[.int .u8 a0] w fun e w' => ∃ (c' : Nat → Nat) , e = .returned (.bool r) ∧ Step c w c' w' [] := by
 unfold blazonref06_Letter.f at H
 have HS := Step.refl c w []
 go_enter Tryd.func73, Tryd.ntmps73
 refine wp_seq_k fun K9 hK9 => ?_
 refine wl_region ?_
 refine st (.bool false) rfl rfl (xr_assign _ rfl rfl) ?_
 refine wl_end ?_
 (try simp only [ls0, ls1])
 refine hK9 _ _ ?_
 (try clear hK9 K9)
 refine wp_seq_k fun K10 hK10 => ?_
 refine wl_region ?_
 refine mv_ rfl ?_
 refine st (.bool (decide (a0 ≥ 97))) rfl rfl (xr_bin _ _ _ rfl rfl rfl (B.geq_u8 _ _)) ?_
 refine mv_ rfl ?_
 by_cases c11 : a0 ≥ 97
 ·rw [if_pos c11] at H
  (try rw [(decide_eq_true c11)])
  refine on_guard (guard_on 2 true 5 rfl rfl rfl) ?_
  refine mv_ rfl ?_
  simp only [ls0, ls1]
  refine on_guard (guard_on 2 true 5 rfl rfl rfl) ?_
  refine st (.bool (decide (a0 ≤ 122))) rfl rfl (xr_bin _ _ _ rfl rfl rfl (B.leq_u8 _ _)) ?_
  refine st (.bool (decide (a0 ≤ 122))) rfl rfl (xr_pick true _ rfl rfl rfl) ?_
  refine mv_ rfl ?_
  by_cases c12 : a0 ≤ 122
  ·rw [if_pos c12] at H
   (try rw [(decide_eq_true c12)])
   refine sk_guard (guard_off 6 false 9 rfl rfl true (by decide) rfl) rfl ?_
   simp only [ls0, ls1]
   refine sk_guard (guard_off 6 false 9 rfl rfl true (by decide) rfl) rfl ?_
   refine sk_guard (guard_off 6 false 9 rfl rfl true (by decide) rfl) rfl ?_
   refine sk_guard (guard_und 9 true 12 rfl rfl rfl) rfl ?_
   refine sk_guard (guard_und 9 true 12 rfl rfl rfl) rfl ?_
   simp only [ls0, ls1]
   refine sk_guard (guard_off 6 false 9 rfl rfl true (by decide) rfl) rfl ?_
   refine st (.bool true) rfl rfl (xr_pick true _ rfl rfl rfl) ?_
   refine mv_ rfl ?_
   refine sk_guard (guard_off 14 false 17 rfl rfl true (by decide) rfl) rfl ?_
   simp only [ls0, ls1]
   refine sk_guard (guard_off 14 false 17 rfl rfl true (by decide) rfl) rfl ?_
   refine st (.bool true) rfl rfl (xr_pick true _ rfl rfl rfl) ?_
   refine as_ rfl ?_
   refine wl_end ?_
   (try simp only [ls0, ls1])
   refine hK10 _ _ ?_
   (try clear hK10 K10)
   refine wp_ret ?_
   (try simp only [Exit.inBlock, Exit.then, Exit.noGoto])
   (try simp only [ls0, ls1])
   obtain rfl := Option.some.inj H
   refine bodyPost_ret (results_tmp rfl _ _ _) rfl ?_
   exact ⟨_, rfl, HS⟩
  rw [if_neg c12] at H
  (try rw [(decide_eq_false c12)])
  refine on_guard (guard_on 6 false 9 rfl rfl rfl) ?_
  refine mv_ rfl ?_
  refine on_guard (guard_on 6 false 9 rfl rfl rfl) ?_
  refine st (.bool (decide (a0 ≥ 65))) rfl rfl (xr_bin _ _ _ rfl rfl rfl (B.geq_u8 _ _)) ?_
  refine on_guard (guard_on 6 false 9 rfl rfl rfl) ?_
  refine mv_ rfl ?_
  by_cases c13 : a0 ≥ 65
  ·rw [if_pos c13] at H
   (try rw [(decide_eq_true c13)])
   refine on_guard (guard_on 9 true 12 rfl rfl rfl) ?_
   refine mv_ rfl ?_
   simp only [ls0, ls1]
   refine on_guard (guard_on 9 true 12 rfl rfl rfl) ?_
   refine st (.bool (decide (a0 ≤ 90))) rfl rfl (xr_bin _ _ _ rfl rfl rfl (B.leq_u8 _ _)) ?_
   refine on_guard (guard_on 6 false 9 rfl rfl rfl) ?_
   refine st (.bool (decide (a0 ≤ 90))) rfl rfl (xr_pick true _ rfl rfl rfl) ?_
   refine st (.bool (decide (a0 ≤ 90))) rfl rfl (xr_pick false _ rfl rfl rfl) ?_
   refine mv_ rfl ?_
   simp only [ls0, ls1]
   by_cases c14 : a0 ≤ 90
   ·rw [if_pos c14] at H
    (try rw [(decide_eq_true c14)])
    refine sk_guard (guard_off 14 false 17 rfl rfl true (by decide) rfl) rfl ?_
    refine sk_guard (guard_off 14 false 17 rfl rfl true (by decide) rfl) rfl ?_
    refine st (.bool true) rfl rfl (xr_pick true _ rfl rfl rfl) ?_
    refine as_ rfl ?_
    simp only [ls0, ls1]
    refine wl_end ?_
    (try simp only [ls0, ls1])
    refine hK10 _ _ ?_
    (try clear hK10 K10)
    refine wp_ret ?_
    (try simp only [Exit.inBlock, Exit.then, Exit.noGoto])
    (try simp only [ls0, ls1])
    obtain rfl := Option.some.inj H
    refine bodyPost_ret (results_tmp rfl _ _ _) rfl ?_
    exact ⟨_, rfl, HS⟩
   rw [if_neg c14] at H
   (try rw [(decide_eq_false c14)])
   refine on_guard (guard_on 14 false 17 rfl rfl rfl) ?_
   refine mv_ rfl ?_
   refine on_guard (guard_on 14 false 17 rfl rfl rfl) ?_
   refine st (.bool (decide (a0 = 95))) rfl rfl (xr_bin _ _ _ rfl rfl rfl (B.eql_u8 _ _)) ?_
   refine st (.bool (decide (a0 = 95))) rfl rfl (xr_pick false _ rfl rfl rfl) ?_
   refine as_ rfl ?_
   simp only [ls0, ls1]
   refine wl_end ?_
   (try simp only [ls0, ls1])
   refine hK10 _ _ ?_
   (try clear hK10 K10)
   refine wp_ret ?_
   (try simp only [Exit.inBlock, Exit.then, Exit.noGoto])
   (try simp only [ls0, ls1])
   obtain rfl := Option.some.inj H
   refine bodyPost_ret (results_tmp rfl _ _ _) rfl ?_
   exact ⟨_, rfl, HS⟩
  rw [if_neg c13] at H
  (try rw [(decide_eq_false c13)])
  refine sk_guard (guard_off 9 true 12 rfl rfl false (by decide) rfl) rfl ?_
  refine sk_guard (guard_off 9 true 12 rfl rfl false (by decide) rfl) rfl ?_
  refine on_guard (guard_on 6 false 9 rfl rfl rfl) ?_
  refine st (.bool false) rfl rfl (xr_pick false _ rfl rfl rfl) ?_
  refine st (.bool false) rfl rfl (xr_pick false _ rfl rfl rfl) ?_
  simp only [ls0, ls1]
  refine mv_ rfl ?_
  refine on_guard (guard_on 14 false 17 rfl rfl rfl) ?_
  refine mv_ rfl ?_
  refine on_guard (guard_on 14 false 17 rfl rfl rfl) ?_
  refine st (.bool (decide (a0 = 95))) rfl rfl (xr_bin _ _ _ rfl rfl rfl (B.eql_u8 _ _)) ?_
  refine st (.bool (decide (a0 = 95))) rfl rfl (xr_pick false _ rfl rfl rfl) ?_
  simp only [ls0, ls1]
  refine as_ rfl ?_
  refine wl_end ?_
  (try simp only [ls0, ls1])
  refine hK10 _ _ ?_
  (try clear hK10 K10)
  refine wp_ret ?_
  (try simp only [Exit.inBlock, Exit.then, Exit.noGoto])
  (try simp only [ls0, ls1])
  obtain rfl := Option.some.inj H
  refine bodyPost_ret (results_tmp rfl _ _ _) rfl ?_
  exact ⟨_, rfl, HS⟩
 rw [if_neg c11] at H
 (try rw [(decide_eq_false c11)])
 refine sk_guard (guard_off 2 true 5 rfl rfl false (by decide) rfl) rfl ?_
 refine sk_guard (guard_off 2 true 5 rfl rfl false (by decide) rfl) rfl ?_
 refine st (.bool false) rfl rfl (xr_pick false _ rfl rfl rfl) ?_
 refine mv_ rfl ?_
 simp only [ls0, ls1]
 refine on_guard (guard_on 6 false 9 rfl rfl rfl) ?_
 refine mv_ rfl ?_
 refine on_guard (guard_on 6 false 9 rfl rfl rfl) ?_
 refine st (.bool (decide (a0 ≥ 65))) rfl rfl (xr_bin _ _ _ rfl rfl rfl (B.geq_u8 _ _)) ?_
 refine on_guard (guard_on 6 false 9 rfl rfl rfl) ?_
 refine mv_ rfl ?_
 by_cases c15 : a0 ≥ 65
 ·rw [if_pos c15] at H
  (try rw [(decide_eq_true c15)])
  refine on_guard (guard_on 9 true 12 rfl rfl rfl) ?_
  refine mv_ rfl ?_
  simp only [ls0, ls1]
  refine on_guard (guard_on 9 true 12 rfl rfl rfl) ?_
  refine st (.bool (decide (a0 ≤ 90))) rfl rfl (xr_bin _ _ _ rfl rfl rfl (B.leq_u8 _ _)) ?_
  refine on_guard (guard_on 6 false 9 rfl rfl rfl) ?_
  refine st (.bool (decide (a0 ≤ 90))) rfl rfl (xr_pick true _ rfl rfl rfl) ?_
  refine st (.bool (decide (a0 ≤ 90))) rfl rfl (xr_pick false _ rfl rfl rfl) ?_
  refine mv_ rfl ?_
  simp only [ls0, ls1]
  by_cases c16 : a0 ≤ 90
  ·rw [if_pos c16] at H
   (try rw [(decide_eq_true c16)])
   refine sk_guard (guard_off 14 false 17 rfl rfl true (by decide) rfl) rfl ?_
   refine sk_guard (guard_off 14 false 17 rfl rfl true (by decide) rfl) rfl ?_
   refine st (.bool true) rfl rfl (xr_pick true _ rfl rfl rfl) ?_
   refine as_ rfl ?_
   simp only [ls0, ls1]
   refine wl_end ?_
   (try simp only [ls0, ls1])
   refine hK10 _ _ ?_
   (try clear hK10 K10)
   refine wp_ret ?_
   (try simp only [Exit.inBlock, Exit.then, Exit.noGoto])
   (try simp only [ls0, ls1])
   obtain rfl := Option.some.inj H
   refine bodyPost_ret (results_tmp rfl _ _ _) rfl ?_
   exact ⟨_, rfl, HS⟩
  rw [if_neg c16] at H
  (try rw [(decide_eq_false c16)])
  refine on_guard (guard_on 14 false 17 rfl rfl rfl) ?_
  refine mv_ rfl ?_
  refine on_guard (guard_on 14 false 17 rfl rfl rfl) ?_
  refine st (.bool (decide (a0 = 95))) rfl rfl (xr_bin _ _ _ rfl rfl rfl (B.eql_u8 _ _)) ?_
  refine st (.bool (decide (a0 = 95))) rfl rfl (xr_pick false _ rfl rfl rfl) ?_
  refine as_ rfl ?_
  simp only [ls0, ls1]
  refine wl_end ?_
  (try simp only [ls0, ls1])
  refine hK10 _ _ ?_
  (try clear hK10 K10)
  refine wp_ret ?_
  (try simp only [Exit.inBlock, Exit.then, Exit.noGoto])
  (try simp only [ls0, ls1])
  obtain rfl := Option.some.inj H
  refine bodyPost_ret (results_tmp rfl _ _ _) rfl ?_
  exact ⟨_, rfl, HS⟩
 rw [if_neg c15] at H
 (try rw [(decide_eq_false c15)])
 refine sk_guard (guard_off 9 true 12 rfl rfl false (by decide) rfl) rfl ?_
 refine sk_guard (guard_off 9 true 12 rfl rfl false (by decide) rfl) rfl ?_
 refine on_guard (guard_on 6 false 9 rfl rfl rfl) ?_
 refine st (.bool false) rfl rfl (xr_pick false _ rfl rfl rfl) ?_
 refine st (.bool false) rfl rfl (xr_pick false _ rfl rfl rfl) ?_
 simp only [ls0, ls1]
 refine mv_ rfl ?_
 refine on_guard (guard_on 14 false 17 rfl rfl rfl) ?_
 refine mv_ rfl ?_
 refine on_guard (guard_on 14 false 17 rfl rfl rfl) ?_
 refine st (.bool (decide (a0 = 95))) rfl rfl (xr_bin _ _ _ rfl rfl rfl (B.eql_u8 _ _)) ?_
 refine st (.bool (decide (a0 = 95))) rfl rfl (xr_pick false _ rfl rfl rfl) ?_
 simp only [ls0, ls1]
 refine as_ rfl ?_
 refine wl_end ?_
 (try simp only [ls0, ls1])
 refine hK10 _ _ ?_
 (try clear hK10 K10)
 refine wp_ret ?_
 (try simp only [Exit.inBlock, Exit.then, Exit.noGoto])
 (try simp only [ls0, ls1])
 obtain rfl := Option.some.inj H
 refine bodyPost_ret (results_tmp rfl _ _ _) rfl ?_
 exact ⟨_, rfl, HS⟩

/-! ### blazonref06_Digit: function 74 -/
def blazonref06_Digit.f (a0 : Int) : Option (Bool) := if a0 ≥ 48 then (some (decide (a0 ≤ 57))) else (some false)
set_option maxHeartbeats 2000000 in
set_option maxRecDepth 100000 in
theorem blazonref06_Digit.calls (a0 : Int) (r : Bool) (c : Nat → Nat) (w : World) (hc : ∀ k, c k < 10)  (H : blazonref06_Digit.f a0 = some r) :
    Calls Tryd.prog 74 #[.int .u8 a0] w fun e w' => ∃ (c' : Nat → Nat) , e = .returned (.bool r) ∧ Step c w c' w' [] := by
 unfold blazonref06_Digit.f at H
 have HS := Step.refl c w []
 go_enter Tryd.func74, Tryd.ntmps74
 refine wp_seq_k fun K4 hK4 => ?_
 refine wl_region ?_
 refine st (.bool false) rfl rfl (xr_assign _ rfl rfl) ?_
 refine wl_end ?_
 (try simp only [ls0, ls1])
 refine hK4 _ _ ?_
 (try clear hK4 K4)
 refine wp_seq_k fun K5 hK5 => ?_
 refine wl_region ?_
 refine mv_ rfl ?_
 refine st (.bool (decide (a0 ≥ 48))) rfl rfl (xr_bin _ _ _ rfl rfl rfl (B.geq_u8 _ _)) ?_
 refine mv_ rfl ?_
 by_cases c6 : a0 ≥ 48
 ·rw [if_pos c6] at H
  (try rw [(decide_eq_true c6)])
  refine on_guard (guard_on 2 true 5 rfl rfl rfl) ?_
  refine mv_ rfl ?_
  simp only [ls0, ls1]
  refine on_guard (guard_on 2 true 5 rfl rfl rfl) ?_
  refine st (.bool (decide (a0 ≤ 57))) rfl rfl (xr_bin _ _ _ rfl rfl rfl (B.leq_u8 _ _)) ?_
  refine st (.bool (decide (a0 ≤ 57))) rfl rfl (xr_pick true _ rfl rfl rfl) ?_
  refine as_ rfl ?_
  refine wl_end ?_
  (try simp only [ls0, ls1])
  refine hK5 _ _ ?_
  (try clear hK5 K5)
  refine wp_ret ?_
  (try simp only [Exit.inBlock, Exit.then, Exit.noGoto])
  (try simp only [ls0, ls1])
  obtain rfl := Option.some.inj H
  refine bodyPost_ret (results_tmp rfl _ _ _) rfl ?_
  exact ⟨_, rfl, HS⟩
 rw [if_neg c6] at H
 (try rw [(decide_eq_false c6)])
 refine sk_guard (guard_off 2 true 5 rfl rfl false (by decide) rfl) rfl ?_
 refine sk_guard (guard_off 2 true 5 rfl rfl false (by decide) rfl) rfl ?_
 refine st (.bool false) rfl rfl (xr_pick false _ rfl rfl rfl) ?_
 refine as_ rfl ?_
 simp only [ls0, ls1]
 refine wl_end ?_
 (try simp only [ls0, ls1])
 refine hK5 _ _ ?_
 (try clear hK5 K5)
 refine wp_ret ?_
 (try simp only [Exit.inBlock, Exit.then, Exit.noGoto])
 (try simp only [ls0, ls1])
 obtain rfl := Option.some.inj H
 refine bodyPost_ret (results_tmp rfl _ _ _) rfl ?_
 exact ⟨_, rfl, HS⟩

/-! ### blazonref06_Keyword: function 75 -/
def blazonref06_Keyword.l0 : Nat → ByteArray → Int → (List ByteArray) → Option (Bool)
  | 0, _, _, _ => none
  | k + 1, a0, x96, y61 => if x96 < (y61.length : Int) then (if 0 ≤ x96 then (if (rdOf ByteArray.empty y61 x96) = a0 then (some true) else (blazonref06_Keyword.l0 k a0 (wrap64 (x96 + 1)) y61)) else (none)) else (some false)
def blazonref06_Keyword.f (k : Nat) (a0 : ByteArray) : Option (Bool) := (some ([(⟨#[105, 109, 112, 111, 114, 116]⟩ : ByteArray), (⟨#[108, 97, 116, 116, 105, 99, 101]⟩ : ByteArray), (⟨#[101, 102, 102, 101, 99, 116, 115]⟩ : ByteArray), (⟨#[118, 97, 114]⟩ : ByteArray), (⟨#[102, 110]⟩ : ByteArray), (⟨#[108, 101, 116]⟩ : ByteArray), (⟨#[105, 102]⟩ : ByteArray), (⟨#[101, 108, 115, 101]⟩ : ByteArray), (⟨#[119, 104, 105, 108, 101]⟩ : ByteArray), (⟨#[114, 101, 116, 117, 114, 110]⟩ : ByteArray), (⟨#[100, 111]⟩ : ByteArray), (⟨#[116, 114, 117, 101]⟩ : ByteArray), (⟨#[102, 97, 108, 115, 101]⟩ : ByteArray), (⟨#[105, 110, 116]⟩ : ByteArray), (⟨#[98, 111, 111, 108]⟩ : ByteArray), (⟨#[100, 101, 99, 108, 97, 115, 115, 105, 102, 121]⟩ : ByteArray)] : List ByteArray)).bind fun y61 => (blazonref06_Keyword.l0 k a0 0 y61)

set_option maxHeartbeats 2000000 in
set_option maxRecDepth 100000 in
theorem blazonref06_Keyword.calls (k : Nat) (a0 : ByteArray) (r : Bool) (c : Nat → Nat) (w : World) (hc : ∀ k, c k < 10)  (H : blazonref06_Keyword.f k a0 = some r) :
    Calls Tryd.prog 75 #[.string a0] w fun e w' => ∃ (c' : Nat → Nat) , e = .returned (.bool r) ∧ Step c w c' w' [] := by
 unfold blazonref06_Keyword.f at H
 have HS := Step.refl c w []
 go_enter Tryd.func75, Tryd.ntmps75
 refine wp_seq_k fun K59 hK59 => ?_
 refine wl_region ?_
 refine st (.bool false) rfl rfl (xr_assign _ rfl rfl) ?_
 refine wl_end ?_
 (try simp only [ls0, ls1])
 refine hK59 _ _ ?_
 (try clear hK59 K59)
 refine wp_seq_k fun K60 hK60 => ?_
 refine wl_region ?_
 obtain ⟨y61, A62, H⟩ := bnd H
 refine Own.lit Kd.string (C := c) (i := 11) rfl 9 rfl (xs := [(⟨#[105, 109, 112, 111, 114, 116]⟩ : ByteArray), (⟨#[108, 97, 116, 116, 105, 99, 101]⟩ : ByteArray), (⟨#[101, 102, 102, 101, 99, 116, 115]⟩ : ByteArray), (⟨#[118, 97, 114]⟩ : ByteArray), (⟨#[102, 110]⟩ : ByteArray), (⟨#[108, 101, 116]⟩ : ByteArray), (⟨#[105, 102]⟩ : ByteArray), (⟨#[101, 108, 115, 101]⟩ : ByteArray), (⟨#[119, 104, 105, 108, 101]⟩ : ByteArray), (⟨#[114, 101, 116, 117, 114, 110]⟩ : ByteArray), (⟨#[100, 111]⟩ : ByteArray), (⟨#[116, 114, 117, 101]⟩ : ByteArray), (⟨#[102, 97, 108, 115, 101]⟩ : ByteArray), (⟨#[105, 110, 116]⟩ : ByteArray), (⟨#[98, 111, 111, 108]⟩ : ByteArray), (⟨#[100, 101, 99, 108, 97, 115, 115, 105, 102, 121]⟩ : ByteArray)]) (inner := [.string (⟨#[105, 109, 112, 111, 114, 116]⟩ : ByteArray), .string (⟨#[108, 97, 116, 116, 105, 99, 101]⟩ : ByteArray), .string (⟨#[101, 102, 102, 101, 99, 116, 115]⟩ : ByteArray), .string (⟨#[118, 97, 114]⟩ : ByteArray), .string (⟨#[102, 110]⟩ : ByteArray), .string (⟨#[108, 101, 116]⟩ : ByteArray), .string (⟨#[105, 102]⟩ : ByteArray), .string (⟨#[101, 108, 115, 101]⟩ : ByteArray), .string (⟨#[119, 104, 105, 108, 101]⟩ : ByteArray), .string (⟨#[114, 101, 116, 117, 114, 110]⟩ : ByteArray), .string (⟨#[100, 111]⟩ : ByteArray), .string (⟨#[116, 114, 117, 101]⟩ : ByteArray), .string (⟨#[102, 97, 108, 115, 101]⟩ : ByteArray), .string (⟨#[105, 110, 116]⟩ : ByteArray), .string (⟨#[98, 111, 111, 108]⟩ : ByteArray), .string (⟨#[100, 101, 99, 108, 97, 115, 115, 105, 102, 121]⟩ : ByteArray)]) (by first | (go_simp; done) | (go_simp; rfl)) (reps_cons (fk_str _ _ (⟨#[105, 109, 112, 111, 114, 116]⟩ : ByteArray)) rfl (reps_cons (fk_str _ _ (⟨#[108, 97, 116, 116, 105, 99, 101]⟩ : ByteArray)) rfl (reps_cons (fk_str _ _ (⟨#[101, 102, 102, 101, 99, 116, 115]⟩ : ByteArray)) rfl (reps_cons (fk_str _ _ (⟨#[118, 97, 114]⟩ : ByteArray)) rfl (reps_cons (fk_str _ _ (⟨#[102, 110]⟩ : ByteArray)) rfl (reps_cons (fk_str _ _ (⟨#[108, 101, 116]⟩ : ByteArray)) rfl (reps_cons (fk_str _ _ (⟨#[105, 102]⟩ : ByteArray)) rfl (reps_cons (fk_str _ _ (⟨#[101, 108, 115, 101]⟩ : ByteArray)) rfl (reps_cons (fk_str _ _ (⟨#[119, 104, 105, 108, 101]⟩ : ByteArray)) rfl (reps_cons (fk_str _ _ (⟨#[114, 101, 116, 117, 114, 110]⟩ : ByteArray)) rfl (reps_cons (fk_str _ _ (⟨#[100, 111]⟩ : ByteArray)) rfl (reps_cons (fk_str _ _ (⟨#[116, 114, 117, 101]⟩ : ByteArray)) rfl (reps_cons (fk_str _ _ (⟨#[102, 97, 108, 115, 101]⟩ : ByteArray)) rfl (reps_cons (fk_str _ _ (⟨#[105, 110, 116]⟩ : ByteArray)) rfl (reps_cons (fk_str _ _ (⟨#[98, 111, 111, 108]⟩ : ByteArray)) rfl (reps_cons (fk_str _ _ (⟨#[100, 101, 99, 108, 97, 115, 115, 105, 102, 121]⟩ : ByteArray)) rfl (Reps.none _ _))))))))))))))))) (by simp only [List.length_cons, List.length_nil]; omega) (Option.some.inj A62) ?_
 intro A63 cp64 w65 C66 HO67 HC68 hs69
 replace HS := HS.trans hs69 hc rfl
 (try simp only [ls0, ls1])
 refine as_ rfl ?_
 refine wl_end ?_
 (try simp only [ls0, ls1])
 refine hK60 _ _ ?_
 (try clear hK60 K60)
 refine wp_seq_k fun K70 hK70 => ?_
 refine wp_seq_k fun K71 hK71 => ?_
 refine wl_region ?_
 refine st (.int .i64 0) rfl rfl (xr_assign _ rfl rfl) ?_
 refine wl_end ?_
 (try simp only [ls0, ls1])
 refine hK71 _ _ ?_
 (try clear hK71 K71)
 refine wp_block ?_
 (try simp only [ls0, ls1])
 refine wp_looped (looped_fin (fun kq99 a_ w98 => ∃ (C97 : Nat → Nat) (x96 : Int) (g_ : Nat → Value), a_ = ⟨#[.string a0, (g_ 1), (g_ 2), .slice A63 y61.length cp64, .int .i64 x96, (g_ 5), (g_ 6), (g_ 7), (g_ 8), (g_ 9), (g_ 10), (g_ 11), (g_ 12), (g_ 13), (g_ 14), (g_ 15), (g_ 16), (g_ 17)], []⟩ ∧ Step c w C97 w98 [] ∧ kq99 ≤ k ∧ (Own C97 11 w98 Kd.string 9 (.slice A63 y61.length cp64) y61) ∧ blazonref06_Keyword.l0 kq99 a0 x96 y61 = some r) ?step fun hL_ => ?init)
 case init =>
  exact jmpL (fun a_ h_ => hL_ k a_ _ h_) (fun g_ => ⟨_, 0, g_, rfl, HS, Nat.le_refl _, HO67, H⟩) rfl
 case step =>
  intro kq99 ih102 a103 w98 hr104
  obtain ⟨C97, x96, g_, rfl, HS100, hk101, HJ95, H⟩ := hr104
  refine looped_round ?_
  cases kq99 with
  | zero => exact absurd H (by simp [blazonref06_Keyword.l0])
  | succ k105 =>
   simp only [blazonref06_Keyword.l0] at H
   refine wp_seq_k fun K106 hK106 => ?_
   refine wp_seq_k fun K107 hK107 => ?_
   refine wl_region ?_
   refine mv_ rfl ?_
   refine mv_ rfl ?_
   refine st (.int .i64 (y61.length : Int)) rfl rfl (xr_builtin #[.slice A63 y61.length cp64] (.int .i64 (y61.length : Int)) rfl (mp_ rfl) (by first | rfl | (go_simp; done) | (go_simp; rfl) | (go_simp; exact i64_w _) | (go_simp; exact i32_w _))) ?_
   refine st (.bool (decide (x96 < (y61.length : Int)))) rfl rfl (xr_bin _ _ _ rfl rfl rfl (B.lss_i64 _ _)) ?_
   simp only [ls0, ls1]
   refine wl_end ?_
   (try simp only [ls0, ls1])
   refine hK107 _ _ ?_
   (try clear hK107 K107)
   by_cases c108 : x96 < (y61.length : Int)
   ·rw [if_pos c108] at H
    (try rw [(decide_eq_true c108)])
    refine wp_cond_true rfl ?_
    refine wp_skip ?_
    (try simp only [ls0, ls1])
    refine hK106 _ _ ?_
    (try clear hK106 K106)
    refine wp_seq_k fun K109 hK109 => ?_
    refine wp_block ?_
    refine wp_seq_k fun K110 hK110 => ?_
    refine wl_region ?_
    refine mv_ rfl ?_
    refine mv_ rfl ?_
    obtain ⟨c111, H⟩ := if_some H
    obtain ⟨g112, hA113⟩ := HJ95.form (pos_of (j := x96) (by first | assumption | decide) (by first | assumption | omega))
    refine st (.pointer (some ((⟨g112, 0, none⟩ : Addr).add ((x96 : Int).toNat * 1)))) rfl rfl (xr_indexAddr _ _ _ rfl rfl rfl (index_at Tryd.underlying30 info9 hA113 (by first | assumption | decide | omega) (by first | assumption | decide | omega))) ?_
    refine st (.string (rdOf ByteArray.empty y61 x96)) rfl rfl (xr_load _ _ rfl rfl (load_str Tryd.underlying9 rfl hA113 (Ft.now (HJ95.ft)) (by first | assumption | decide | omega) (by first | assumption | decide | omega))) ?_
    simp only [ls0, ls1]
    refine mv_ rfl ?_
    refine st (.bool (decide ((rdOf ByteArray.empty y61 x96) = a0))) rfl rfl (xr_bin _ _ _ rfl rfl rfl (B.eql_str _ _)) ?_
    refine wl_end ?_
    (try simp only [ls0, ls1])
    refine hK110 _ _ ?_
    (try clear hK110 K110)
    by_cases c114 : (rdOf ByteArray.empty y61 x96) = a0
    ·rw [if_pos c114] at H
     (try rw [(decide_eq_true c114)])
     refine wp_cond_true rfl ?_
     refine wp_seq_k fun K115 hK115 => ?_
     refine wl_region ?_
     refine st (.bool true) rfl rfl (xr_assign _ rfl rfl) ?_
     refine wl_end ?_
     (try simp only [ls0, ls1])
     refine hK115 _ _ ?_
     (try clear hK115 K115)
     refine wp_ret ?_
     (try simp only [Exit.inBlock, Exit.then, Exit.noGoto])
     (try simp only [ls0, ls1])
     obtain rfl := Option.some.inj H
     refine bodyPost_ret (results_tmp rfl _ _ _) rfl ?_
     exact ⟨_, rfl, HS100⟩
    rw [if_neg c114] at H
    (try rw [(decide_eq_false c114)])
    refine wp_cond_false rfl ?_
    refine wp_skip ?_
    (try simp only [ls0, ls1])
    refine hK109 _ _ ?_
    (try clear hK109 K109)
    refine wl_region ?_
    refine mv_ rfl ?_
    refine st (.int .i64 (wrap64 (x96 + 1))) rfl rfl (xr_bin _ _ _ rfl rfl rfl (B.add_i64 _ _)) ?_
    refine as_ rfl ?_
    refine wl_end ?_
    (try simp only [ls0, ls1])
    exact jmpL (fun a_ h_ => ih102 k105 (by omega) a_ _ h_) (fun g_ => ⟨_, wrap64 (x96 + 1), g_, rfl, HS100, (by omega), HJ95, H⟩) rfl
   rw [if_neg c108] at H
   (try rw [(decide_eq_false c108)])
   refine wp_cond_false rfl ?_
   refine wp_exit ?_
   (try simp only [ls0, ls1])
   refine hK70 _ _ ?_
   (try clear hK70 K70)
   refine wp_seq_k fun K116 hK116 => ?_
   refine wl_region ?_
   refine st (.bool false) rfl rfl (xr_assign _ rfl rfl) ?_
   refine wl_end ?_
   (try simp only [ls0, ls1])
   refine hK116 _ _ ?_
   (try clear hK116 K116)
   refine wp_ret ?_
   (try simp only [Exit.inBlock, Exit.then, Exit.noGoto])
   (try simp only [ls0, ls1])
   obtain rfl := Option.some.inj H
   refine bodyPost_ret (results_tmp rfl _ _ _) rfl ?_
   exact ⟨_, rfl, HS100⟩

/-! ### blazonref06_Ident: function 52 -/
mutual
def blazonref06_Ident.j0 : Nat → ByteArray → Int → Bool → Option (Bool)
  | 0, _, _, _ => none
  | k + 1, a0, x547, x581 => if x581 = true then (some false) else (blazonref06_Ident.l0 k a0 (wrap64 (x547 + 1)))
def blazonref06_Ident.l0 : Nat → ByteArray → Int → Option (Bool)
  | 0, _, _ => none
  | k + 1, a0, x547 => if x547 < (a0.size : Int) then (if 0 ≤ x547 then ((blazonref06_Letter.f (bt a0 x547)).bind fun t588 => (if t588 = true then (blazonref06_Ident.j0 k a0 x547 false) else (if x547 = 0 then (blazonref06_Ident.j0 k a0 x547 true) else ((blazonref06_Digit.f (bt a0 x547)).bind fun t596 => (blazonref06_Ident.j0 k a0 x547 (!t596)))))) else (none)) else (if (a0.size : Int) ≥ 1 then (if (a0.size : Int) ≤ 24 then ((blazonref06_Keyword.f k a0).bind fun t605 => (some (!t605))) else (some false)) else (some false))
end
def blazonref06_Ident.f (k : Nat) (a0 : ByteArray) : Option (Bool) := blazonref06_Ident.l0 k a0 0

set_option maxHeartbeats 2000000 in
set_option maxRecDepth 100000 in
theorem blazonref06_Ident.calls (k : Nat) (a0 : ByteArray) (r : Bool) (c : Nat → Nat) (w : World) (hc : ∀ k, c k < 10)  (H : blazonref06_Ident.f k a0 = some r) :
    Calls Tryd.prog 52 #[.string a0] w fun e w' => ∃ (c' : Nat → Nat) , e = .returned (.bool r) ∧ Step c w c' w' [] := by
 unfold blazonref06_Ident.f at H
 have HS := Step.refl c w []
 go_enter Tryd.func52, Tryd.ntmps52
 refine wp_seq_k fun K306 hK306 => ?_
 refine wl_region ?_
 refine st (.bool false) rfl rfl (xr_assign _ rfl rfl) ?_
 refine wl_end ?_
 (try simp only [ls0, ls1])
 refine hK306 _ _ ?_
 (try clear hK306 K306)
 refine wp_seq_k fun K307 hK307 => ?_
 refine wp_seq_k fun K455 hK455 => ?_
 refine wl_region ?_
 refine st (.int .i64 0) rfl rfl (xr_assign _ rfl rfl) ?_
 refine wl_end ?_
 (try simp only [ls0, ls1])
 refine hK455 _ _ ?_
 (try clear hK455 K455)
 refine wp_block ?_
 (try simp only [ls0, ls1])
 refine wp_looped (looped_fin (fun kq550 a_ w549 => ∃ (C548 : Nat → Nat) (x547 : Int) (g_ : Nat → Value), a_ = ⟨#[.string a0, (g_ 1), (g_ 2), .int .i64 x547, (g_ 4), (g_ 5), (g_ 6), (g_ 7), (g_ 8), (g_ 9), (g_ 10), (g_ 11), (g_ 12), (g_ 13), (g_ 14), (g_ 15), (g_ 16), (g_ 17), (g_ 18), (g_ 19), (g_ 20), (g_ 21), (g_ 22), (g_ 23), (g_ 24), (g_ 25), (g_ 26), (g_ 27), (g_ 28), (g_ 29), (g_ 30), (g_ 31), (g_ 32), (g_ 33), (g_ 34), (g_ 35), (g_ 36), (g_ 37), (g_ 38)], []⟩ ∧ Step c w C548 w549 [] ∧ kq550 ≤ k ∧ blazonref06_Ident.l0 kq550 a0 x547 = some r) ?step fun hL_ => ?init)
 case init =>
  exact jmpL (fun a_ h_ => hL_ k a_ _ h_) (fun g_ => ⟨_, 0, g_, rfl, HS, Nat.le_refl _, H⟩) rfl
 case step =>
  intro kq550 ih553 a554 w549 hr555
  obtain ⟨C548, x547, g_, rfl, HS551, hk552, H⟩ := hr555
  refine looped_round ?_
  cases kq550 with
  | zero => exact absurd H (by simp [blazonref06_Ident.l0])
  | succ k556 =>
   simp only [blazonref06_Ident.l0] at H
   refine wp_seq_k fun K557 hK557 => ?_
   refine wp_seq_k fun K558 hK558 => ?_
   refine wl_region ?_
   refine mv_ rfl ?_
   refine mv_ rfl ?_
   refine st (.int .i64 (a0.size : Int)) rfl rfl (xr_builtin #[.string a0] (.int .i64 (a0.size : Int)) rfl (mp_ rfl) (by first | rfl | (go_simp; done) | (go_simp; rfl) | (go_simp; exact i64_w _) | (go_simp; exact i32_w _))) ?_
   refine st (.bool (decide (x547 < (a0.size : Int)))) rfl rfl (xr_bin _ _ _ rfl rfl rfl (B.lss_i64 _ _)) ?_
   simp only [ls0, ls1]
   refine wl_end ?_
   (try simp only [ls0, ls1])
   refine hK558 _ _ ?_
   (try clear hK558 K558)
   by_cases c559 : x547 < (a0.size : Int)
   ·rw [if_pos c559] at H
    (try rw [(decide_eq_true c559)])
    refine wp_cond_true rfl ?_
    refine wp_skip ?_
    (try simp only [ls0, ls1])
    refine hK557 _ _ ?_
    (try clear hK557 K557)
    refine wp_seq_k fun K560 hK560 => ?_
    refine wp_block ?_
    refine wp_seq_k fun K561 hK561 => ?_
    have hj577 : ∀ (kq582 : Nat) (C578 : Nat → Nat) (w579 : World) (x581 : Bool) (g_ : Nat → Value), Step c w C578 w579 [] → kq582 ≤ k556 → blazonref06_Ident.j0 kq582 a0 x547 x581 = some r → K561 ⟨#[.string a0, (g_ 1), (g_ 2), .int .i64 x547, (g_ 4), (g_ 5), (g_ 6), (g_ 7), (g_ 8), (g_ 9), (g_ 10), (g_ 11), (g_ 12), (g_ 13), (g_ 14), (g_ 15), (g_ 16), (g_ 17), (g_ 18), (g_ 19), (g_ 20), (g_ 21), (g_ 22), (g_ 23), (g_ 24), .bool x581, (g_ 26), (g_ 27), (g_ 28), (g_ 29), (g_ 30), (g_ 31), (g_ 32), (g_ 33), (g_ 34), (g_ 35), (g_ 36), (g_ 37), (g_ 38)], []⟩ w579 := by
     intro kq582 C578 w579 x581 g_ HS580 hk583  H
     cases kq582 with
     | zero => exact absurd H (by simp [blazonref06_Ident.j0])
     | succ k584 =>
      simp only [blazonref06_Ident.j0] at H
      refine hK561 _ _ ?_
      (try clear hK561)
      by_cases c585 : x581 = true
      ·rw [if_pos c585] at H
       (try rw [c585])
       refine wp_cond_true rfl ?_
       refine wp_seq_k fun K586 hK586 => ?_
       refine wl_region ?_
       refine st (.bool false) rfl rfl (xr_assign _ rfl rfl) ?_
       simp only [ls0, ls1]
       refine wl_end ?_
       (try simp only [ls0, ls1])
       refine hK586 _ _ ?_
       (try clear hK586 K586)
       refine wp_ret ?_
       (try simp only [Exit.inBlock, Exit.then, Exit.noGoto])
       (try simp only [ls0, ls1])
       obtain rfl := Option.some.inj H
       refine bodyPost_ret (results_tmp rfl _ _ _) rfl ?_
       exact ⟨_, rfl, HS580⟩
      rw [if_neg c585] at H
      (try rw [(Bool.eq_false_iff.mpr c585)])
      refine wp_cond_false rfl ?_
      refine wp_skip ?_
      (try simp only [ls0, ls1])
      refine hK560 _ _ ?_
      (try clear hK560 K560)
      refine wl_region ?_
      refine mv_ rfl ?_
      refine st (.int .i64 (wrap64 (x547 + 1))) rfl rfl (xr_bin _ _ _ rfl rfl rfl (B.add_i64 _ _)) ?_
      refine as_ rfl ?_
      refine wl_end ?_
      (try simp only [ls0, ls1])
      exact jmpL (fun a_ h_ => ih553 k584 (by omega) a_ _ h_) (fun g_ => ⟨_, wrap64 (x547 + 1), g_, rfl, HS580, (by omega), H⟩) rfl
    refine wl_region ?_
    refine mv_ rfl ?_
    refine mv_ rfl ?_
    obtain ⟨c587, H⟩ := if_some H
    refine st (.int .u8 (bt a0 x547)) rfl rfl (xr_index _ _ _ rfl rfl rfl (index_str Tryd.underlying9 (by first | assumption | decide | omega) (by first | assumption | decide | omega))) ?_
    obtain ⟨t588, A589, H⟩ := bnd H
    refine st_call #[.int .u8 (bt a0 x547)] rfl rfl Tryd.func73 (by kernel_rfl) rfl rfl (mp_ rfl) ?_
    refine (blazonref06_Letter.calls (bt a0 x547) t588  (fun z_ => pal [(0, 0)] (C548 z_)) w549 (fun _ => pal_lt rfl _) A589).mono ?_
    rintro _ w591 ⟨C592, rfl, hs593⟩
    refine ⟨_, rfl, ?_⟩
    replace hs593 := Step.lift (U := [(0, 0)]) hs593 [] rfl rfl
    generalize up C548 C592 w549.heap.size [(0, 0)] = C592_ at hs593
    replace HS551 := HS551.trans hs593 hc rfl
    (try simp only [ls0, ls1])
    refine st (.bool (!t588)) rfl rfl (xr_un (.bool t588) _ rfl rfl (by first | rfl | (go_simp; done) | (go_simp; rfl) | (go_simp; exact i64_w _) | (go_simp; exact i32_w _))) ?_
    refine mv_ rfl ?_
    by_cases c594 : t588 = true
    ·rw [if_pos c594] at H
     (try rw [c594])
     (try simp only [Bool.not_true, Bool.not_false])
     refine sk_guard (guard_off 5 true 15 rfl rfl false (by decide) rfl) rfl ?_
     refine sk_guard (guard_off 5 true 15 rfl rfl false (by decide) rfl) rfl ?_
     simp only [ls0, ls1]
     refine sk_guard (guard_off 5 true 15 rfl rfl false (by decide) rfl) rfl ?_
     refine sk_guard (guard_und 8 false 18 rfl rfl rfl) rfl ?_
     refine sk_guard (guard_und 8 false 18 rfl rfl rfl) rfl ?_
     refine sk_guard (guard_und 8 false 18 rfl rfl rfl) rfl ?_
     simp only [ls0, ls1]
     refine sk_guard (guard_und 8 false 18 rfl rfl rfl) rfl ?_
     refine sk_guard (guard_und 8 false 18 rfl rfl rfl) rfl ?_
     refine sk_guard (guard_off 5 true 15 rfl rfl false (by decide) rfl) rfl ?_
     refine st (.bool false) rfl rfl (xr_pick false _ rfl rfl rfl) ?_
     simp only [ls0, ls1]
     refine wl_end ?_
     (try simp only [ls0, ls1])
     exact jmp (fun g_ => hj577 _ _ _ (false) g_ HS551 (by omega) H) rfl
    rw [if_neg c594] at H
    (try rw [(Bool.eq_false_iff.mpr c594)])
    (try simp only [Bool.not_true, Bool.not_false])
    refine on_guard (guard_on 5 true 15 rfl rfl rfl) ?_
    refine mv_ rfl ?_
    refine on_guard (guard_on 5 true 15 rfl rfl rfl) ?_
    refine st (.bool (decide (x547 = 0))) rfl rfl (xr_bin _ _ _ rfl rfl rfl (B.eql_i64 _ _)) ?_
    refine on_guard (guard_on 5 true 15 rfl rfl rfl) ?_
    refine mv_ rfl ?_
    by_cases c595 : x547 = 0
    ·rw [if_pos c595] at H
     (try rw [(decide_eq_true c595)])
     refine sk_guard (guard_off 8 false 18 rfl rfl true (by decide) rfl) rfl ?_
     simp only [ls0, ls1]
     refine sk_guard (guard_off 8 false 18 rfl rfl true (by decide) rfl) rfl ?_
     refine sk_guard (guard_off 8 false 18 rfl rfl true (by decide) rfl) rfl ?_
     refine sk_guard (guard_off 8 false 18 rfl rfl true (by decide) rfl) rfl ?_
     refine sk_guard (guard_off 8 false 18 rfl rfl true (by decide) rfl) rfl ?_
     simp only [ls0, ls1]
     refine on_guard (guard_on 5 true 15 rfl rfl rfl) ?_
     refine st (.bool true) rfl rfl (xr_pick true _ rfl rfl rfl) ?_
     refine st (.bool true) rfl rfl (xr_pick true _ rfl rfl rfl) ?_
     refine wl_end ?_
     (try simp only [ls0, ls1])
     exact jmp (fun g_ => hj577 _ _ _ (true) g_ HS551 (by omega) H) rfl
    rw [if_neg c595] at H
    (try rw [(decide_eq_false c595)])
    refine on_guard (guard_on 8 false 18 rfl rfl rfl) ?_
    refine mv_ rfl ?_
    refine on_guard (guard_on 8 false 18 rfl rfl rfl) ?_
    refine mv_ rfl ?_
    refine on_guard (guard_on 8 false 18 rfl rfl rfl) ?_
    refine st (.int .u8 (bt a0 x547)) rfl rfl (xr_index _ _ _ rfl rfl rfl (index_str Tryd.underlying9 (by first | assumption | decide | omega) (by first | assumption | decide | omega))) ?_
    refine on_guard (guard_on 8 false 18 rfl rfl rfl) ?_
    obtain ⟨t596, A597, H⟩ := bnd H
    refine st_call #[.int .u8 (bt a0 x547)] rfl rfl Tryd.func74 (by kernel_rfl) rfl rfl (mp_ rfl) ?_
    refine (blazonref06_Digit.calls (bt a0 x547) t596  (fun z_ => pal [(0, 0)] (C592_ z_)) w591 (fun _ => pal_lt rfl _) A597).mono ?_
    rintro _ w599 ⟨C600, rfl, hs601⟩
    refine ⟨_, rfl, ?_⟩
    replace hs601 := Step.lift (U := [(0, 0)]) hs601 [] rfl rfl
    generalize up C592_ C600 w591.heap.size [(0, 0)] = C600_ at hs601
    replace HS551 := HS551.trans hs601 hc rfl
    (try simp only [ls0, ls1])
    refine on_guard (guard_on 8 false 18 rfl rfl rfl) ?_
    refine st (.bool (!t596)) rfl rfl (xr_un (.bool t596) _ rfl rfl (by first | rfl | (go_simp; done) | (go_simp; rfl) | (go_simp; exact i64_w _) | (go_simp; exact i32_w _))) ?_
    refine on_guard (guard_on 5 true 15 rfl rfl rfl) ?_
    refine st (.bool (!t596)) rfl rfl (xr_pick false _ rfl rfl rfl) ?_
    refine st (.bool (!t596)) rfl rfl (xr_pick true _ rfl rfl rfl) ?_
    refine wl_end ?_
    (try simp only [ls0, ls1])
    exact jmp (fun g_ => hj577 _ _ _ (!t596) g_ HS551 (by omega) H) rfl
   rw [if_neg c559] at H
   (try rw [(decide_eq_false c559)])
   refine wp_cond_false rfl ?_
   refine wp_exit ?_
   (try simp only [ls0, ls1])
   refine hK307 _ _ ?_
   (try clear hK307 K307)
   refine wp_seq_k fun K602 hK602 => ?_
   refine wl_region ?_
   refine mv_ rfl ?_
   refine st (.int .i64 (a0.size : Int)) rfl rfl (xr_builtin #[.string a0] (.int .i64 (a0.size : Int)) rfl (mp_ rfl) (by first | rfl | (go_simp; done) | (go_simp; rfl) | (go_simp; exact i64_w _) | (go_simp; exact i32_w _))) ?_
   refine st (.bool (decide ((a0.size : Int) ≥ 1))) rfl rfl (xr_bin _ _ _ rfl rfl rfl (B.geq_i64 _ _)) ?_
   refine mv_ rfl ?_
   simp only [ls0, ls1]
   by_cases c603 : (a0.size : Int) ≥ 1
   ·rw [if_pos c603] at H
    (try rw [(decide_eq_true c603)])
    refine on_guard (guard_on 3 true 29 rfl rfl rfl) ?_
    refine mv_ rfl ?_
    refine on_guard (guard_on 3 true 29 rfl rfl rfl) ?_
    refine st (.int .i64 (a0.size : Int)) rfl rfl (xr_builtin #[.string a0] (.int .i64 (a0.size : Int)) rfl (mp_ rfl) (by first | rfl | (go_simp; done) | (go_simp; rfl) | (go_simp; exact i64_w _) | (go_simp; exact i32_w _))) ?_
    refine on_guard (guard_on 3 true 29 rfl rfl rfl) ?_
    refine st (.bool (decide ((a0.size : Int) ≤ 24))) rfl rfl (xr_bin _ _ _ rfl rfl rfl (B.leq_i64 _ _)) ?_
    refine st (.bool (decide ((a0.size : Int) ≤ 24))) rfl rfl (xr_pick true _ rfl rfl rfl) ?_
    simp only [ls0, ls1]
    refine mv_ rfl ?_
    by_cases c604 : (a0.size : Int) ≤ 24
    ·rw [if_pos c604] at H
     (try rw [(decide_eq_true c604)])
     refine on_guard (guard_on 8 true 34 rfl rfl rfl) ?_
     refine mv_ rfl ?_
     refine on_guard (guard_on 8 true 34 rfl rfl rfl) ?_
     obtain ⟨t605, A606, H⟩ := bnd H
     refine st_call #[.string a0] rfl rfl Tryd.func75 (by kernel_rfl) rfl rfl (mp_ rfl) ?_
     refine (blazonref06_Keyword.calls k556 a0 t605  (fun z_ => pal [(0, 0)] (C548 z_)) w549 (fun _ => pal_lt rfl _) A606).mono ?_
     rintro _ w608 ⟨C609, rfl, hs610⟩
     refine ⟨_, rfl, ?_⟩
     replace hs610 := Step.lift (U := [(0, 0)]) hs610 [] rfl rfl
     generalize up C548 C609 w549.heap.size [(0, 0)] = C609_ at hs610
     replace HS551 := HS551.trans hs610 hc rfl
     (try simp only [ls0, ls1])
     refine on_guard (guard_on 8 true 34 rfl rfl rfl) ?_
     refine st (.bool (!t605)) rfl rfl (xr_un (.bool t605) _ rfl rfl (by first | rfl | (go_simp; done) | (go_simp; rfl) | (go_simp; exact i64_w _) | (go_simp; exact i32_w _))) ?_
     refine st (.bool (!t605)) rfl rfl (xr_pick true _ rfl rfl rfl) ?_
     refine as_ rfl ?_
     refine wl_end ?_
     (try simp only [ls0, ls1])
     refine hK602 _ _ ?_
     (try clear hK602 K602)
     refine wp_ret ?_
     (try simp only [Exit.inBlock, Exit.then, Exit.noGoto])
     (try simp only [ls0, ls1])
     obtain rfl := Option.some.inj H
     refine bodyPost_ret (results_tmp rfl _ _ _) rfl ?_
     exact ⟨_, rfl, HS551⟩
    rw [if_neg c604] at H
    (try rw [(decide_eq_false c604)])
    refine sk_guard (guard_off 8 true 34 rfl rfl false (by decide) rfl) rfl ?_
    refine sk_guard (guard_off 8 true 34 rfl rfl false (by decide) rfl) rfl ?_
    refine sk_guard (guard_off 8 true 34 rfl rfl false (by decide) rfl) rfl ?_
    refine st (.bool false) rfl rfl (xr_pick false _ rfl rfl rfl) ?_
    simp only [ls0, ls1]
    refine as_ rfl ?_
    refine wl_end ?_
    (try simp only [ls0, ls1])
    refine hK602 _ _ ?_
    (try clear hK602 K602)
    refine wp_ret ?_
    (try simp only [Exit.inBlock, Exit.then, Exit.noGoto])
    (try simp only [ls0, ls1])
    obtain rfl := Option.some.inj H
    refine bodyPost_ret (results_tmp rfl _ _ _) rfl ?_
    exact ⟨_, rfl, HS551⟩
   rw [if_neg c603] at H
   (try rw [(decide_eq_false c603)])
   refine sk_guard (guard_off 3 true 29 rfl rfl false (by decide) rfl) rfl ?_
   refine sk_guard (guard_off 3 true 29 rfl rfl false (by decide) rfl) rfl ?_
   refine sk_guard (guard_off 3 true 29 rfl rfl false (by decide) rfl) rfl ?_
   refine st (.bool false) rfl rfl (xr_pick false _ rfl rfl rfl) ?_
   simp only [ls0, ls1]
   refine mv_ rfl ?_
   refine sk_guard (guard_off 8 true 34 rfl rfl false (by decide) rfl) rfl ?_
   refine sk_guard (guard_off 8 true 34 rfl rfl false (by decide) rfl) rfl ?_
   refine sk_guard (guard_off 8 true 34 rfl rfl false (by decide) rfl) rfl ?_
   simp only [ls0, ls1]
   refine st (.bool false) rfl rfl (xr_pick false _ rfl rfl rfl) ?_
   refine as_ rfl ?_
   refine wl_end ?_
   (try simp only [ls0, ls1])
   refine hK602 _ _ ?_
   (try clear hK602 K602)
   refine wp_ret ?_
   (try simp only [Exit.inBlock, Exit.then, Exit.noGoto])
   (try simp only [ls0, ls1])
   obtain rfl := Option.some.inj H
   refine bodyPost_ret (results_tmp rfl _ _ _) rfl ?_
   exact ⟨_, rfl, HS551⟩

/-! ### blazonref13_Find: function 55 -/
def blazonref13_Find.l0 : Nat → ByteArray → (List ByteArray) → Int → Option (Int)
  | 0, _, _, _ => none
  | k + 1, a1, l0, x76 => if x76 < (l0.length : Int) then (if 0 ≤ x76 then (if (rdOf ByteArray.empty l0 x76) = a1 then (some x76) else (blazonref13_Find.l0 k a1 l0 (wrap64 (x76 + 1)))) else (none)) else (some (-1))
def blazonref13_Find.f (k : Nat) (l0 : List ByteArray) (a1 : ByteArray) : Option (Int) := blazonref13_Find.l0 k a1 l0 0

set_option maxHeartbeats 2000000 in
set_option maxRecDepth 100000 in
theorem blazonref13_Find.calls (k : Nat) (A0 : Option Addr) (c0 : Nat) (l0 : List ByteArray) (a1 : ByteArray) (r : Int) (c : Nat → Nat) (w : World) (hc : ∀ k, c k < 10) (HP0 : Ft c [0] w (fun w_ => Kd.string.C w_ A0 l0.length l0)) (HCP0 : l0.length ≤ c0) (H : blazonref13_Find.f k l0 a1 = some r) :
    Calls Tryd.prog 55 #[.slice A0 l0.length c0, .string a1] w fun e w' => ∃ (c' : Nat → Nat) , e = .returned (.int .i64 r) ∧ Step c w c' w' [] := by
 unfold blazonref13_Find.f at H
 have HS := Step.refl c w []
 go_enter Tryd.func55, Tryd.ntmps55
 refine wp_seq_k fun K49 hK49 => ?_
 refine wl_region ?_
 refine st (.int .i64 0) rfl rfl (xr_assign _ rfl rfl) ?_
 refine wl_end ?_
 (try simp only [ls0, ls1])
 refine hK49 _ _ ?_
 (try clear hK49 K49)
 refine wp_seq_k fun K50 hK50 => ?_
 refine wp_seq_k fun K51 hK51 => ?_
 refine wl_region ?_
 refine st (.int .i64 0) rfl rfl (xr_assign _ rfl rfl) ?_
 refine wl_end ?_
 (try simp only [ls0, ls1])
 refine hK51 _ _ ?_
 (try clear hK51 K51)
 refine wp_block ?_
 (try simp only [ls0, ls1])
 refine wp_looped (looped_fin (fun kq79 a_ w78 => ∃ (C77 : Nat → Nat) (x76 : Int) (g_ : Nat → Value), a_ = ⟨#[.slice A0 l0.length c0, .string a1, (g_ 2), (g_ 3), (g_ 4), .int .i64 x76, (g_ 6), (g_ 7), (g_ 8), (g_ 9), (g_ 10), (g_ 11), (g_ 12), (g_ 13), (g_ 14), (g_ 15), (g_ 16), (g_ 17), (g_ 18)], []⟩ ∧ Step c w C77 w78 [] ∧ kq79 ≤ k ∧ (Ft C77 [0] w78 (fun w_ => Kd.string.C w_ A0 l0.length l0)) ∧ blazonref13_Find.l0 kq79 a1 l0 x76 = some r) ?step fun hL_ => ?init)
 case init =>
  exact jmpL (fun a_ h_ => hL_ k a_ _ h_) (fun g_ => ⟨_, 0, g_, rfl, HS, Nat.le_refl _, HP0, H⟩) rfl
 case step =>
  intro kq79 ih82 a83 w78 hr84
  obtain ⟨C77, x76, g_, rfl, HS80, hk81, HJ75, H⟩ := hr84
  refine looped_round ?_
  cases kq79 with
  | zero => exact absurd H (by simp [blazonref13_Find.l0])
  | succ k85 =>
   simp only [blazonref13_Find.l0] at H
   refine wp_seq_k fun K86 hK86 => ?_
   refine wp_seq_k fun K87 hK87 => ?_
   refine wl_region ?_
   refine mv_ rfl ?_
   refine mv_ rfl ?_
   refine st (.int .i64 (l0.length : Int)) rfl rfl (xr_builtin #[.slice A0 l0.length c0] (.int .i64 (l0.length : Int)) rfl (mp_ rfl) (by first | rfl | (go_simp; done) | (go_simp; rfl) | (go_simp; exact i64_w _) | (go_simp; exact i32_w _))) ?_
   refine st (.bool (decide (x76 < (l0.length : Int)))) rfl rfl (xr_bin _ _ _ rfl rfl rfl (B.lss_i64 _ _)) ?_
   simp only [ls0, ls1]
   refine wl_end ?_
   (try simp only [ls0, ls1])
   refine hK87 _ _ ?_
   (try clear hK87 K87)
   by_cases c88 : x76 < (l0.length : Int)
   ·rw [if_pos c88] at H
    (try rw [(decide_eq_true c88)])
    refine wp_cond_true rfl ?_
    refine wp_skip ?_
    (try simp only [ls0, ls1])
    refine hK86 _ _ ?_
    (try clear hK86 K86)
    refine wp_seq_k fun K89 hK89 => ?_
    refine wp_block ?_
    refine wp_seq_k fun K90 hK90 => ?_
    refine wl_region ?_
    refine mv_ rfl ?_
    refine mv_ rfl ?_
    obtain ⟨c91, H⟩ := if_some H
    obtain ⟨ad92, hA93⟩ := c_addr (Ft.now HJ75) (pos_of (j := x76) (by first | assumption | decide) (by first | assumption | omega))
    refine st (.pointer (some (ad92.add ((x76 : Int).toNat * 1)))) rfl rfl (xr_indexAddr _ _ _ rfl rfl rfl (index_at Tryd.underlying30 info9 hA93 (by first | assumption | decide | omega) (by first | assumption | decide | omega))) ?_
    refine st (.string (rdOf ByteArray.empty l0 x76)) rfl rfl (xr_load _ _ rfl rfl (load_str Tryd.underlying9 rfl hA93 (Ft.now HJ75) (by first | assumption | decide | omega) (by first | assumption | decide | omega))) ?_
    simp only [ls0, ls1]
    refine mv_ rfl ?_
    refine st (.bool (decide ((rdOf ByteArray.empty l0 x76) = a1))) rfl rfl (xr_bin _ _ _ rfl rfl rfl (B.eql_str _ _)) ?_
    refine wl_end ?_
    (try simp only [ls0, ls1])
    refine hK90 _ _ ?_
    (try clear hK90 K90)
    by_cases c94 : (rdOf ByteArray.empty l0 x76) = a1
    ·rw [if_pos c94] at H
     (try rw [(decide_eq_true c94)])
     refine wp_cond_true rfl ?_
     refine wp_seq_k fun K95 hK95 => ?_
     refine wl_region ?_
     refine mv_ rfl ?_
     refine as_ rfl ?_
     refine wl_end ?_
     (try simp only [ls0, ls1])
     refine hK95 _ _ ?_
     (try clear hK95 K95)
     refine wp_ret ?_
     (try simp only [Exit.inBlock, Exit.then, Exit.noGoto])
     (try simp only [ls0, ls1])
     obtain rfl := Option.some.inj H
     refine bodyPost_ret (results_tmp rfl _ _ _) rfl ?_
     exact ⟨_, rfl, HS80⟩
    rw [if_neg c94] at H
    (try rw [(decide_eq_false c94)])
    refine wp_cond_false rfl ?_
    refine wp_skip ?_
    (try simp only [ls0, ls1])
    refine hK89 _ _ ?_
    (try clear hK89 K89)
    refine wl_region ?_
    refine mv_ rfl ?_
    refine st (.int .i64 (wrap64 (x76 + 1))) rfl rfl (xr_bin _ _ _ rfl rfl rfl (B.add_i64 _ _)) ?_
    refine as_ rfl ?_
    refine wl_end ?_
    (try simp only [ls0, ls1])
    exact jmpL (fun a_ h_ => ih82 k85 (by omega) a_ _ h_) (fun g_ => ⟨_, wrap64 (x76 + 1), g_, rfl, HS80, (by omega), HJ75, H⟩) rfl
   rw [if_neg c88] at H
   (try rw [(decide_eq_false c88)])
   refine wp_cond_false rfl ?_
   refine wp_exit ?_
   (try simp only [ls0, ls1])
   refine hK50 _ _ ?_
   (try clear hK50 K50)
   refine wp_seq_k fun K96 hK96 => ?_
   refine wl_region ?_
   refine st (.int .i64 (-1)) rfl rfl (xr_assign _ rfl rfl) ?_
   refine wl_end ?_
   (try simp only [ls0, ls1])
   refine hK96 _ _ ?_
   (try clear hK96 K96)
   refine wp_ret ?_
   (try simp only [Exit.inBlock, Exit.then, Exit.noGoto])
   (try simp only [ls0, ls1])
   obtain rfl := Option.some.inj H
   refine bodyPost_ret (results_tmp rfl _ _ _) rfl ?_
   exact ⟨_, rfl, HS80⟩

/-! ### blazonref13_names: function 53 -/
mutual
def blazonref13_names.j0 : Nat → (List (S53)) → Int → (List ByteArray) → Bool → Option (List ByteArray)
  | 0, _, _, _, _ => none
  | k + 1, l0, x676, x721, x752 => if x752 = true then (if 0 ≤ x676 then (if x676 < (l0.length : Int) then (if x721.length < 8796093022208 then ((some (x721 ++ [(rd_T53 l0 x676).f1] : List ByteArray)).bind fun y763 => (blazonref13_names.l0 k l0 y763 (wrap64 (x676 + 1)))) else (none)) else (none)) else (none)) else (blazonref13_names.l0 k l0 x721 (wrap64 (x676 + 1)))
def blazonref13_names.j1 : Nat → (List (S53)) → Int → (List ByteArray) → Option (List ByteArray)
  | 0, _, _, _ => none
  | k + 1, l0, x676, x721 => if 0 ≤ x676 then (if x676 < (l0.length : Int) then (if ((rd_T53 l0 x676).f1) = (⟨#[]⟩ : ByteArray) then (blazonref13_names.j0 k l0 x676 x721 false) else ((blazonref13_Find.f k x721 ((rd_T53 l0 x676).f1)).bind fun t781 => (blazonref13_names.j0 k l0 x676 x721 (decide (t781 < 0))))) else (none)) else (none)
def blazonref13_names.l0 : Nat → (List (S53)) → (List ByteArray) → Int → Option (List ByteArray)
  | 0, _, _, _ => none
  | k + 1, l0, x670, x676 => if x676 < (l0.length : Int) then (if 0 ≤ x676 then ((blazonref13_Find.f k x670 ((rd_T53 l0 x676).f0)).bind fun t792 => (if t792 < 0 then (if x670.length < 8796093022208 then ((some (x670 ++ [(rd_T53 l0 x676).f0] : List ByteArray)).bind fun y803 => (blazonref13_names.j1 k l0 x676 y803)) else (none)) else (blazonref13_names.j1 k l0 x676 x670))) else (none)) else (some x670)
end
def blazonref13_names.f (k : Nat) (l0 : List (S53)) : Option (List ByteArray) := blazonref13_names.l0 k l0 ([] : List ByteArray) 0

set_option maxHeartbeats 2000000 in
set_option maxRecDepth 100000 in
theorem blazonref13_names.calls (k : Nat) (A0 : Option Addr) (c0 : Nat) (l0 : List (S53)) (r : List ByteArray) (c : Nat → Nat) (w : World) (hc : ∀ k, c k < 10) (HP0 : Ft c [0] w (fun w_ => k53.C w_ A0 l0.length l0)) (HCP0 : l0.length ≤ c0) (H : blazonref13_names.f k l0 = some r) :
    Calls Tryd.prog 53 #[.slice A0 l0.length c0] w fun e w' => ∃ (c' : Nat → Nat) (A_r : Option Addr) (c_r : Nat), e = .returned (.slice A_r r.length c_r) ∧ Step c w c' w' [] ∧ Own c' 5 w' Kd.string 9 (.slice A_r r.length c_r) r ∧ r.length ≤ c_r := by
 unfold blazonref13_names.f at H
 have HS := Step.refl c w []
 go_enter Tryd.func53, Tryd.ntmps53
 refine wp_seq_k fun K407 hK407 => ?_
 refine wl_region ?_
 refine st (.slice none 0 0) rfl rfl (xr_assign _ rfl rfl) ?_
 refine wl_end ?_
 (try simp only [ls0, ls1])
 refine hK407 _ _ ?_
 (try clear hK407 K407)
 refine wp_seq_k fun K408 hK408 => ?_
 refine wl_region ?_
 refine st (.slice none 0 0) rfl rfl (xr_assign _ rfl rfl) ?_
 refine wl_end ?_
 (try simp only [ls0, ls1])
 refine hK408 _ _ ?_
 (try clear hK408 K408)
 refine wp_seq_k fun K409 hK409 => ?_
 refine wp_seq_k fun K410 hK410 => ?_
 refine wl_region ?_
 refine st (.int .i64 0) rfl rfl (xr_assign _ rfl rfl) ?_
 refine wl_end ?_
 (try simp only [ls0, ls1])
 refine hK410 _ _ ?_
 (try clear hK410 K410)
 refine wp_block ?_
 (try simp only [ls0, ls1])
 refine wp_looped (looped_fin (fun kq679 a_ w678 => ∃ (C677 : Nat → Nat) (x676 : Int) (A671 : Option Addr) (n672 cp673 : Nat) (x670 : List ByteArray) (g_ : Nat → Value), a_ = ⟨#[.slice A0 l0.length c0, (g_ 1), (g_ 2), .slice A671 n672 cp673, .int .i64 x676, (g_ 5), (g_ 6), (g_ 7), (g_ 8), (g_ 9), (g_ 10), (g_ 11), (g_ 12), (g_ 13), (g_ 14), (g_ 15), (g_ 16), (g_ 17), (g_ 18), (g_ 19), (g_ 20), (g_ 21), (g_ 22), (g_ 23), (g_ 24), (g_ 25), (g_ 26), (g_ 27), (g_ 28), (g_ 29), (g_ 30), (g_ 31), (g_ 32), (g_ 33), (g_ 34), (g_ 35), (g_ 36), (g_ 37), (g_ 38), (g_ 39), (g_ 40), (g_ 41), (g_ 42), (g_ 43), (g_ 44), (g_ 45), (g_ 46), (g_ 47), (g_ 48), (g_ 49), (g_ 50), (g_ 51)], []⟩ ∧ Step c w C677 w678 [] ∧ kq679 ≤ k ∧ (Ft C677 [0] w678 (fun w_ => k53.C w_ A0 l0.length l0)) ∧ (Own C677 11 w678 Kd.string 9 (.slice A671 n672 cp673) x670) ∧ (n672 ≤ cp673) ∧ blazonref13_names.l0 kq679 l0 x670 x676 = some r) ?step fun hL_ => ?init)
 case init =>
  exact jmpL (fun a_ h_ => hL_ k a_ _ h_) (fun g_ => ⟨_, 0, none, 0, 0, ([] : List ByteArray), g_, rfl, HS, Nat.le_refl _, HP0, (Own.nil _ _ _ _ _), (Nat.le_refl 0), H⟩) rfl
 case step =>
  intro kq679 ih682 a683 w678 hr684
  obtain ⟨C677, x676, A671, n672, cp673, x670, g_, rfl, HS680, hk681, HJ669, HJ675, HC674, H⟩ := hr684
  refine looped_round ?_
  obtain rfl : n672 = x670.length := HJ675.at_.1
  cases kq679 with
  | zero => exact absurd H (by simp [blazonref13_names.l0])
  | succ k685 =>
   simp only [blazonref13_names.l0] at H
   refine wp_seq_k fun K686 hK686 => ?_
   refine wp_seq_k fun K687 hK687 => ?_
   refine wl_region ?_
   refine mv_ rfl ?_
   refine mv_ rfl ?_
   refine st (.int .i64 (l0.length : Int)) rfl rfl (xr_builtin #[.slice A0 l0.length c0] (.int .i64 (l0.length : Int)) rfl (mp_ rfl) (by first | rfl | (go_simp; done) | (go_simp; rfl) | (go_simp; exact i64_w _) | (go_simp; exact i32_w _))) ?_
   refine st (.bool (decide (x676 < (l0.length : Int)))) rfl rfl (xr_bin _ _ _ rfl rfl rfl (B.lss_i64 _ _)) ?_
   simp only [ls0, ls1]
   refine wl_end ?_
   (try simp only [ls0, ls1])
   refine hK687 _ _ ?_
   (try clear hK687 K687)
   by_cases c688 : x676 < (l0.length : Int)
   ·rw [if_pos c688] at H
    (try rw [(decide_eq_true c688)])
    refine wp_cond_true rfl ?_
    refine wp_skip ?_
    (try simp only [ls0, ls1])
    refine hK686 _ _ ?_
    (try clear hK686 K686)
    refine wp_seq_k fun K689 hK689 => ?_
    refine wp_block ?_
    refine wp_seq_k fun K690 hK690 => ?_
    have hj716 : ∀ (kq727 : Nat) (C717 : Nat → Nat) (w718 : World) (A722 : Option Addr) (n723 cp724 : Nat) (x721 : List ByteArray) (g_ : Nat → Value), Step c w C717 w718 [] → kq727 ≤ k685 → (Ft C717 [0] w718 (fun w_ => k53.C w_ A0 l0.length l0)) → (Own C717 12 w718 Kd.string 9 (.slice A722 n723 cp724) x721) → (n723 ≤ cp724) → blazonref13_names.j1 kq727 l0 x676 x721 = some r → K690 ⟨#[.slice A0 l0.length c0, (g_ 1), (g_ 2), .slice A722 n723 cp724, .int .i64 x676, (g_ 5), (g_ 6), (g_ 7), (g_ 8), (g_ 9), (g_ 10), (g_ 11), (g_ 12), (g_ 13), (g_ 14), (g_ 15), (g_ 16), (g_ 17), (g_ 18), (g_ 19), (g_ 20), (g_ 21), (g_ 22), (g_ 23), (g_ 24), (g_ 25), (g_ 26), (g_ 27), (g_ 28), (g_ 29), (g_ 30), (g_ 31), (g_ 32), (g_ 33), (g_ 34), (g_ 35), (g_ 36), (g_ 37), (g_ 38), (g_ 39), (g_ 40), (g_ 41), (g_ 42), (g_ 43), (g_ 44), (g_ 45), (g_ 46), (g_ 47), (g_ 48), (g_ 49), (g_ 50), (g_ 51)], []⟩ w718 := by
     intro kq727 C717 w718 A722 n723 cp724 x721 g_ HS719 hk728 HJ720 HJ726 HC725 H
     obtain rfl : n723 = x721.length := HJ726.at_.1
     cases kq727 with
     | zero => exact absurd H (by simp [blazonref13_names.j1])
     | succ k729 =>
      simp only [blazonref13_names.j1] at H
      refine hK690 _ _ ?_
      (try clear hK690)
      refine wp_seq_k fun K730 hK730 => ?_
      have hj746 : ∀ (kq753 : Nat) (C747 : Nat → Nat) (w748 : World) (x752 : Bool) (g_ : Nat → Value), Step c w C747 w748 [] → kq753 ≤ k729 → (Ft C747 [0] w748 (fun w_ => k53.C w_ A0 l0.length l0)) → (Own C747 12 w748 Kd.string 9 (.slice A722 x721.length cp724) x721) → blazonref13_names.j0 kq753 l0 x676 x721 x752 = some r → K730 ⟨#[.slice A0 l0.length c0, (g_ 1), (g_ 2), .slice A722 x721.length cp724, .int .i64 x676, (g_ 5), (g_ 6), (g_ 7), (g_ 8), (g_ 9), (g_ 10), (g_ 11), (g_ 12), (g_ 13), (g_ 14), (g_ 15), (g_ 16), (g_ 17), (g_ 18), (g_ 19), (g_ 20), (g_ 21), (g_ 22), (g_ 23), (g_ 24), (g_ 25), (g_ 26), (g_ 27), (g_ 28), (g_ 29), (g_ 30), (g_ 31), (g_ 32), (g_ 33), (g_ 34), (g_ 35), (g_ 36), (g_ 37), (g_ 38), (g_ 39), (g_ 40), (g_ 41), .bool x752, (g_ 43), (g_ 44), (g_ 45), (g_ 46), (g_ 47), (g_ 48), (g_ 49), (g_ 50), (g_ 51)], []⟩ w748 := by
       intro kq753 C747 w748 x752 g_ HS749 hk754 HJ750 HJ751 H
       cases kq753 with
       | zero => exact absurd H (by simp [blazonref13_names.j0])
       | succ k755 =>
        simp only [blazonref13_names.j0] at H
        refine hK730 _ _ ?_
        (try clear hK730)
        by_cases c756 : x752 = true
        ·rw [if_pos c756] at H
         (try rw [c756])
         refine wp_cond_true rfl ?_
         refine wl_region ?_
         refine mv_ rfl ?_
         refine mv_ rfl ?_
         simp only [ls0, ls1]
         refine mv_ rfl ?_
         obtain ⟨c757, H⟩ := if_some H
         obtain ⟨c758, H⟩ := if_some H
         obtain ⟨ad759, hA760⟩ := c_addr (Ft.now HJ750) (pos_of (j := x676) (by first | assumption | decide) (by first | assumption | omega))
         refine st (.pointer (some (ad759.add ((x676 : Int).toNat * 3)))) rfl rfl (xr_indexAddr _ _ _ rfl rfl rfl (index_at Tryd.underlying22 info53 hA760 (by first | assumption | decide | omega) (by first | assumption | decide | omega))) ?_
         refine st (.pointer (some ((ad759.add ((x676 : Int).toNat * 3)).add 1))) rfl rfl (xr_fieldAddr _ _ rfl rfl (field_at2 Tryd.underlying53 rfl rfl (by kernel_rfl))) ?_
         refine st (.string ((rd_T53 l0 x676).f1)) rfl rfl (xr_load (.pointer (some ((ad759.add ((x676 : Int).toNat * 3)).add 1))) (.string ((rd_T53 l0 x676).f1)) rfl rfl (by obtain ⟨ad_, cs_, e_, _, hK_, hc_⟩ := Kd.C_get (Ft.now HJ750) z53 x676 (by first | assumption | decide | omega) (by first | assumption | decide | omega); rw [hA760] at e_; injection e_ with e_; subst e_; obtain rfl := k53_open hK_; exact load_cell Tryd.underlying9 rfl (by first | (rw [add_add]; exact hc_ 1 _ rfl) | (have h_ := hc_ 1 _ rfl; rw [Nat.add_zero] at h_; exact h_)))) ?_
         simp only [ls0, ls1]
         refine ev_run (w1 := w748.alloc (.cells #[.string ((rd_T53 l0 x676).f1)] 9)) (.slice (some ⟨w748.heap.size, 0, none⟩) 1 1) rfl rfl (by first | (go_simp; done) | (go_simp; rfl)) ?_
         (try simp only [Act.put, List.setIfInBounds_toArray, ls0, ls1])
         obtain ⟨c762, H⟩ := if_some H
         obtain ⟨y763, A764, H⟩ := bnd H
         refine Own.append Kd.string (C := C747) (i := 12) rfl (.tmp 43) (.tmp 49) 30 9 (.string ⟨#[]⟩) 16 rfl Tryd.underlying30 info9 rfl (by decide) (by decide) (.slice A722 x721.length cp724) x721 ((rd_T53 l0 x676).f1) [.string ((rd_T53 l0 x676).f1)] rfl rfl (fk_str _ _ ((rd_T53 l0 x676).f1)) HJ751 (by decide) (by omega) (Option.some.inj A764) ?_
         intro A765 cp766 w767 C768 HO769 HC770 hs771
         replace HJ750 := HJ750.thru hs771 rfl
         replace HS749 := HS749.trans hs771 hc rfl
         (try simp only [ls0, ls1])
         refine as_ rfl ?_
         refine wl_end ?_
         (try simp only [ls0, ls1])
         refine hK689 _ _ ?_
         (try clear hK689 K689)
         refine wl_region ?_
         refine mv_ rfl ?_
         refine st (.int .i64 (wrap64 (x676 + 1))) rfl rfl (xr_bin _ _ _ rfl rfl rfl (B.add_i64 _ _)) ?_
         refine as_ rfl ?_
         refine wl_end ?_
         (try simp only [ls0, ls1])
         replace HJ750 := Ft.recol (a := 12) (b := 11) HJ750 (.inl rfl)
         replace HO769 := Own.recolor (b := 11) HO769 (by decide)
         replace HS749 := Step.recol (a := 12) (b := 11) HS749 hc (by decide)
         exact jmpL (fun a_ h_ => ih682 k755 (by omega) a_ _ h_) (fun g_ => ⟨_, wrap64 (x676 + 1), A765, y763.length, cp766, y763, g_, rfl, HS749, (by omega), HJ750, HO769, HC770, H⟩) rfl
        rw [if_neg c756] at H
        (try rw [(Bool.eq_false_iff.mpr c756)])
        refine wp_cond_false rfl ?_
        refine wp_skip ?_
        (try simp only [ls0, ls1])
        refine hK689 _ _ ?_
        (try clear hK689 K689)
        refine wl_region ?_
        refine mv_ rfl ?_
        refine st (.int .i64 (wrap64 (x676 + 1))) rfl rfl (xr_bin _ _ _ rfl rfl rfl (B.add_i64 _ _)) ?_
        refine as_ rfl ?_
        refine wl_end ?_
        (try simp only [ls0, ls1])
        replace HJ750 := Ft.recol (a := 12) (b := 11) HJ750 (.inl rfl)
        replace HJ751 := Own.recolor (b := 11) HJ751 (by decide)
        replace HS749 := Step.recol (a := 12) (b := 11) HS749 hc (by decide)
        exact jmpL (fun a_ h_ => ih682 k755 (by omega) a_ _ h_) (fun g_ => ⟨_, wrap64 (x676 + 1), A722, x721.length, cp724, x721, g_, rfl, HS749, (by omega), HJ750, HJ751, HC725, H⟩) rfl
      refine wl_region ?_
      refine mv_ rfl ?_
      refine mv_ rfl ?_
      obtain ⟨c772, H⟩ := if_some H
      obtain ⟨c773, H⟩ := if_some H
      obtain ⟨ad774, hA775⟩ := c_addr (Ft.now HJ720) (pos_of (j := x676) (by first | assumption | decide) (by first | assumption | omega))
      refine st (.pointer (some (ad774.add ((x676 : Int).toNat * 3)))) rfl rfl (xr_indexAddr _ _ _ rfl rfl rfl (index_at Tryd.underlying22 info53 hA775 (by first | assumption | decide | omega) (by first | assumption | decide | omega))) ?_
      refine st (.pointer (some ((ad774.add ((x676 : Int).toNat * 3)).add 1))) rfl rfl (xr_fieldAddr _ _ rfl rfl (field_at2 Tryd.underlying53 rfl rfl (by kernel_rfl))) ?_
      simp only [ls0, ls1]
      refine st (.string ((rd_T53 l0 x676).f1)) rfl rfl (xr_load (.pointer (some ((ad774.add ((x676 : Int).toNat * 3)).add 1))) (.string ((rd_T53 l0 x676).f1)) rfl rfl (by obtain ⟨ad_, cs_, e_, _, hK_, hc_⟩ := Kd.C_get (Ft.now HJ720) z53 x676 (by first | assumption | decide | omega) (by first | assumption | decide | omega); rw [hA775] at e_; injection e_ with e_; subst e_; obtain rfl := k53_open hK_; exact load_cell Tryd.underlying9 rfl (by first | (rw [add_add]; exact hc_ 1 _ rfl) | (have h_ := hc_ 1 _ rfl; rw [Nat.add_zero] at h_; exact h_)))) ?_
      refine st (.bool (!decide (((rd_T53 l0 x676).f1) = (⟨#[]⟩ : ByteArray)))) rfl rfl (xr_bin _ _ _ rfl rfl rfl (B.neq_str _ _)) ?_
      refine mv_ rfl ?_
      by_cases c777 : ((rd_T53 l0 x676).f1) = (⟨#[]⟩ : ByteArray)
      ·rw [if_pos c777] at H
       (try rw [(decide_eq_true c777)])
       (try simp only [Bool.not_true, Bool.not_false])
       refine sk_guard (guard_off 6 true 33 rfl rfl false (by decide) rfl) rfl ?_
       simp only [ls0, ls1]
       refine sk_guard (guard_off 6 true 33 rfl rfl false (by decide) rfl) rfl ?_
       refine sk_guard (guard_off 6 true 33 rfl rfl false (by decide) rfl) rfl ?_
       refine sk_guard (guard_off 6 true 33 rfl rfl false (by decide) rfl) rfl ?_
       refine sk_guard (guard_off 6 true 33 rfl rfl false (by decide) rfl) rfl ?_
       simp only [ls0, ls1]
       refine sk_guard (guard_off 6 true 33 rfl rfl false (by decide) rfl) rfl ?_
       refine sk_guard (guard_off 6 true 33 rfl rfl false (by decide) rfl) rfl ?_
       refine sk_guard (guard_off 6 true 33 rfl rfl false (by decide) rfl) rfl ?_
       refine st (.bool false) rfl rfl (xr_pick false _ rfl rfl rfl) ?_
       simp only [ls0, ls1]
       refine wl_end ?_
       (try simp only [ls0, ls1])
       exact jmp (fun g_ => hj746 _ _ _ (false) g_ HS719 (by omega) HJ720 HJ726 H) rfl
      rw [if_neg c777] at H
      (try rw [(decide_eq_false c777)])
      (try simp only [Bool.not_true, Bool.not_false])
      refine on_guard (guard_on 6 true 33 rfl rfl rfl) ?_
      refine mv_ rfl ?_
      refine on_guard (guard_on 6 true 33 rfl rfl rfl) ?_
      refine mv_ rfl ?_
      refine on_guard (guard_on 6 true 33 rfl rfl rfl) ?_
      refine mv_ rfl ?_
      refine on_guard (guard_on 6 true 33 rfl rfl rfl) ?_
      obtain ⟨ad778, hA779⟩ := c_addr (Ft.now HJ720) (pos_of (j := x676) (by first | assumption | decide) (by first | assumption | omega))
      refine st (.pointer (some (ad778.add ((x676 : Int).toNat * 3)))) rfl rfl (xr_indexAddr _ _ _ rfl rfl rfl (index_at Tryd.underlying22 info53 hA779 (by first | assumption | decide | omega) (by first | assumption | decide | omega))) ?_
      simp only [ls0, ls1]
      refine on_guard (guard_on 6 true 33 rfl rfl rfl) ?_
      refine st (.pointer (some ((ad778.add ((x676 : Int).toNat * 3)).add 1))) rfl rfl (xr_fieldAddr _ _ rfl rfl (field_at2 Tryd.underlying53 rfl rfl (by kernel_rfl))) ?_
      refine on_guard (guard_on 6 true 33 rfl rfl rfl) ?_
      refine st (.string ((rd_T53 l0 x676).f1)) rfl rfl (xr_load (.pointer (some ((ad778.add ((x676 : Int).toNat * 3)).add 1))) (.string ((rd_T53 l0 x676).f1)) rfl rfl (by obtain ⟨ad_, cs_, e_, _, hK_, hc_⟩ := Kd.C_get (Ft.now HJ720) z53 x676 (by first | assumption | decide | omega) (by first | assumption | decide | omega); rw [hA779] at e_; injection e_ with e_; subst e_; obtain rfl := k53_open hK_; exact load_cell Tryd.underlying9 rfl (by first | (rw [add_add]; exact hc_ 1 _ rfl) | (have h_ := hc_ 1 _ rfl; rw [Nat.add_zero] at h_; exact h_)))) ?_
      refine on_guard (guard_on 6 true 33 rfl rfl rfl) ?_
      obtain ⟨t781, A782, H⟩ := bnd H
      refine st_call #[.slice A722 x721.length cp724, .string ((rd_T53 l0 x676).f1)] rfl rfl Tryd.func55 (by kernel_rfl) rfl rfl (mp_ rfl) ?_
      refine (blazonref13_Find.calls k729 A722 cp724 x721 ((rd_T53 l0 x676).f1) t781  (fun z_ => pal [(0, 0), (12, 0)] (C717 z_)) w718 (fun _ => pal_lt rfl _) (Ft.arg (HJ726.ft) rfl) HC725 A782).mono ?_
      rintro _ w784 ⟨C785, rfl, hs786⟩
      refine ⟨_, rfl, ?_⟩
      replace hs786 := Step.lift (U := [(0, 0)]) hs786 [] rfl rfl
      generalize up C717 C785 w718.heap.size [(0, 0)] = C785_ at hs786
      replace HJ720 := HJ720.thru hs786 rfl
      replace HJ726 := HJ726.thru hs786 rfl
      replace HS719 := HS719.trans hs786 hc rfl
      (try simp only [ls0, ls1])
      refine on_guard (guard_on 6 true 33 rfl rfl rfl) ?_
      refine st (.bool (decide (t781 < 0))) rfl rfl (xr_bin _ _ _ rfl rfl rfl (B.lss_i64 _ _)) ?_
      refine st (.bool (decide (t781 < 0))) rfl rfl (xr_pick true _ rfl rfl rfl) ?_
      refine wl_end ?_
      (try simp only [ls0, ls1])
      exact jmp (fun g_ => hj746 _ _ _ (decide (t781 < 0)) g_ HS719 (by omega) HJ720 HJ726 H) rfl
    refine wp_seq_k fun K787 hK787 => ?_
    refine wl_region ?_
    refine mv_ rfl ?_
    refine mv_ rfl ?_
    refine mv_ rfl ?_
    obtain ⟨c788, H⟩ := if_some H
    obtain ⟨ad789, hA790⟩ := c_addr (Ft.now HJ669) (pos_of (j := x676) (by first | assumption | decide) (by first | assumption | omega))
    refine st (.pointer (some (ad789.add ((x676 : Int).toNat * 3)))) rfl rfl (xr_indexAddr _ _ _ rfl rfl rfl (index_at Tryd.underlying22 info53 hA790 (by first | assumption | decide | omega) (by first | assumption | decide | omega))) ?_
    simp only [ls0, ls1]
    refine st (.pointer (some ((ad789.add ((x676 : Int).toNat * 3)).add 0))) rfl rfl (xr_fieldAddr _ _ rfl rfl (field_at2 Tryd.underlying53 rfl rfl (by kernel_rfl))) ?_
    refine st (.string ((rd_T53 l0 x676).f0)) rfl rfl (xr_load (.pointer (some ((ad789.add ((x676 : Int).toNat * 3)).add 0))) (.string ((rd_T53 l0 x676).f0)) rfl rfl (by obtain ⟨ad_, cs_, e_, _, hK_, hc_⟩ := Kd.C_get (Ft.now HJ669) z53 x676 (by first | assumption | decide | omega) (by first | assumption | decide | omega); rw [hA790] at e_; injection e_ with e_; subst e_; obtain rfl := k53_open hK_; exact load_cell Tryd.underlying9 rfl (by first | (rw [add_add]; exact hc_ 0 _ rfl) | (have h_ := hc_ 0 _ rfl; rw [Nat.add_zero] at h_; exact h_)))) ?_
    obtain ⟨t792, A793, H⟩ := bnd H
    refine st_call #[.slice A671 x670.length cp673, .string ((rd_T53 l0 x676).f0)] rfl rfl Tryd.func55 (by kernel_rfl) rfl rfl (mp_ rfl) ?_
    refine (blazonref13_Find.calls k685 A671 cp673 x670 ((rd_T53 l0 x676).f0) t792  (fun z_ => pal [(0, 0), (11, 0)] (C677 z_)) w678 (fun _ => pal_lt rfl _) (Ft.arg (HJ675.ft) rfl) HC674 A793).mono ?_
    rintro _ w795 ⟨C796, rfl, hs797⟩
    refine ⟨_, rfl, ?_⟩
    replace hs797 := Step.lift (U := [(0, 0)]) hs797 [] rfl rfl
    generalize up C677 C796 w678.heap.size [(0, 0)] = C796_ at hs797
    replace HJ669 := HJ669.thru hs797 rfl
    replace HJ675 := HJ675.thru hs797 rfl
    replace HS680 := HS680.trans hs797 hc rfl
    (try simp only [ls0, ls1])
    refine st (.bool (decide (t792 < 0))) rfl rfl (xr_bin _ _ _ rfl rfl rfl (B.lss_i64 _ _)) ?_
    refine wl_end ?_
    (try simp only [ls0, ls1])
    refine hK787 _ _ ?_
    (try clear hK787 K787)
    by_cases c798 : t792 < 0
    ·rw [if_pos c798] at H
     (try rw [(decide_eq_true c798)])
     refine wp_cond_true rfl ?_
     refine wl_region ?_
     refine mv_ rfl ?_
     refine mv_ rfl ?_
     refine mv_ rfl ?_
     obtain ⟨ad799, hA800⟩ := c_addr (Ft.now HJ669) (pos_of (j := x676) (by first | assumption | decide) (by first | assumption | omega))
     refine st (.pointer (some (ad799.add ((x676 : Int).toNat * 3)))) rfl rfl (xr_indexAddr _ _ _ rfl rfl rfl (index_at Tryd.underlying22 info53 hA800 (by first | assumption | decide | omega) (by first | assumption | decide | omega))) ?_
     simp only [ls0, ls1]
     refine st (.pointer (some ((ad799.add ((x676 : Int).toNat * 3)).add 0))) rfl rfl (xr_fieldAddr _ _ rfl rfl (field_at2 Tryd.underlying53 rfl rfl (by kernel_rfl))) ?_
     refine st (.string ((rd_T53 l0 x676).f0)) rfl rfl (xr_load (.pointer (some ((ad799.add ((x676 : Int).toNat * 3)).add 0))) (.string ((rd_T53 l0 x676).f0)) rfl rfl (by obtain ⟨ad_, cs_, e_, _, hK_, hc_⟩ := Kd.C_get (Ft.now HJ669) z53 x676 (by first | assumption | decide | omega) (by first | assumption | decide | omega); rw [hA800] at e_; injection e_ with e_; subst e_; obtain rfl := k53_open hK_; exact load_cell Tryd.underlying9 rfl (by first | (rw [add_add]; exact hc_ 0 _ rfl) | (have h_ := hc_ 0 _ rfl; rw [Nat.add_zero] at h_; exact h_)))) ?_
     refine ev_run (w1 := w795.alloc (.cells #[.string ((rd_T53 l0 x676).f0)] 9)) (.slice (some ⟨w795.heap.size, 0, none⟩) 1 1) rfl rfl (by first | (go_simp; done) | (go_simp; rfl)) ?_
     (try simp only [Act.put, List.setIfInBounds_toArray, ls0, ls1])
     obtain ⟨c802, H⟩ := if_some H
     obtain ⟨y803, A804, H⟩ := bnd H
     refine Own.append Kd.string (C := C796_) (i := 11) rfl (.tmp 19) (.tmp 25) 30 9 (.string ⟨#[]⟩) 16 rfl Tryd.underlying30 info9 rfl (by decide) (by decide) (.slice A671 x670.length cp673) x670 ((rd_T53 l0 x676).f0) [.string ((rd_T53 l0 x676).f0)] rfl rfl (fk_str _ _ ((rd_T53 l0 x676).f0)) HJ675 (by decide) (by omega) (Option.some.inj A804) ?_
     intro A805 cp806 w807 C808 HO809 HC810 hs811
     replace HJ669 := HJ669.thru hs811 rfl
     replace HS680 := HS680.trans hs811 hc rfl
     (try simp only [ls0, ls1])
     refine as_ rfl ?_
     refine wl_end ?_
     replace HJ669 := Ft.recol (a := 11) (b := 12) HJ669 (.inl rfl)
     replace HO809 := Own.recolor (b := 12) HO809 (by decide)
     replace HS680 := Step.recol (a := 11) (b := 12) HS680 hc (by decide)
     (try simp only [ls0, ls1])
     exact jmp (fun g_ => hj716 _ _ _ (A805) (y803.length) (cp806) (y803) g_ HS680 (by omega) HJ669 HO809 HC810 H) rfl
    rw [if_neg c798] at H
    (try rw [(decide_eq_false c798)])
    refine wp_cond_false rfl ?_
    refine wp_skip ?_
    replace HJ669 := Ft.recol (a := 11) (b := 12) HJ669 (.inl rfl)
    replace HJ675 := Own.recolor (b := 12) HJ675 (by decide)
    replace HS680 := Step.recol (a := 11) (b := 12) HS680 hc (by decide)
    (try simp only [ls0, ls1])
    exact jmp (fun g_ => hj716 _ _ _ (A671) (x670.length) (cp673) (x670) g_ HS680 (by omega) HJ669 HJ675 HC674 H) rfl
   rw [if_neg c688] at H
   (try rw [(decide_eq_false c688)])
   refine wp_cond_false rfl ?_
   refine wp_exit ?_
   (try simp only [ls0, ls1])
   refine hK409 _ _ ?_
   (try clear hK409 K409)
   refine wp_seq_k fun K812 hK812 => ?_
   refine wl_region ?_
   refine mv_ rfl ?_
   refine as_ rfl ?_
   refine wl_end ?_
   (try simp only [ls0, ls1])
   refine hK812 _ _ ?_
   (try clear hK812 K812)
   refine wp_ret ?_
   (try simp only [Exit.inBlock, Exit.then, Exit.noGoto])
   (try simp only [ls0, ls1])
   replace HJ669 := Ft.recol (a := 11) (b := 5) HJ669 (.inl rfl)
   replace HJ675 := Own.recolor (b := 5) HJ675 (by decide)
   replace HS680 := Step.recol (a := 11) (b := 5) HS680 hc (by decide)
   obtain rfl := Option.some.inj H
   refine bodyPost_ret (results_tmp rfl _ _ _) rfl ?_
   exact ⟨_, A671, cp673, rfl, HS680, HJ675, HC674⟩

end Go.Proofs.YtpfepkkpbampkaaDoor.PLnw
