-- By cprint.py, a program of this work. Lean checks it.
import Derived.Test.YtpfepkkpbampkaaDoorPIrnx0
import Derived.Test.YtpfepkkpbampkaaDoorPIrnx1
import Derived.Test.YtpfepkkpbampkaaDoorPIrnx4
namespace Go.Proofs.YtpfepkkpbampkaaDoor.PIrn
open Go.RowKit Go.Proofs.YtpfepkkpbampkaaDoorW.PrintWords Go.Proofs.YtpfepkkpbampkaaDoorW.PrintLast Go.Proofs.YtpfepkkpbampkaaDoorW.PrintMore
set_option linter.unusedVariables false
set_option linter.unusedSimpArgs false

/-! ### lattice_New: function 17 -/
def lattice_New.f (k : Nat) (x0 : Option S81) : Option ((Option S107) × Int × Int × Int) := (order_Order_Len.f x0).bind fun t67 => (if t67 = 0 then (some ((none : Option S107), 0, 0, 1)) else ((lattice_Lattice_fill.f k x0 0 1 0 (zer 4096 (0 : Int)) (zer 4096 (0 : Int)) 0).bind fun bt85 => ((lattice_Lattice_whole.f k (some (⟨x0, (⟨(⟨1⟩ : S92), (⟨(⟨0, 0⟩ : S94)⟩ : S96)⟩ : S98), bt85.1, bt85.2, (⟨0⟩ : S105)⟩ : S107) : Option S107)).bind fun bt101 => (if bt101.2.2 = true then ((lattice_Lattice_spreads.f k (some (⟨x0, (⟨(⟨1⟩ : S92), (⟨(⟨0, 0⟩ : S94)⟩ : S96)⟩ : S98), bt85.1, bt85.2, (⟨0⟩ : S105)⟩ : S107) : Option S107)).bind fun bt114 => (if bt114.2.2 = true then (some ((some (⟨x0, (⟨(⟨1⟩ : S92), (⟨(⟨0, 0⟩ : S94)⟩ : S96)⟩ : S98), bt85.1, bt85.2, (⟨0⟩ : S105)⟩ : S107) : Option S107), 0, 0, 0)) else (some ((none : Option S107), bt114.1, bt114.2.1, 17)))) else (some ((none : Option S107), bt101.1, bt101.2.1, 17))))))

set_option maxHeartbeats 2000000 in
set_option maxRecDepth 100000 in
theorem lattice_New.calls (k : Nat) (v0 : Value) (x0 : Option S81) (r1 : Option S107) (r2 : Int) (r3 : Int) (r4 : Int) (c : Nat → Nat) (w : World) (hc : ∀ k, c k < 10) (HG : Ft c [0] w GTab) (HP0 : Ft c [0] w (fun w_ => (Kd.ptr 81 k81).K w_ x0 [v0])) (H : lattice_New.f k x0 = some (r1, r2, r3, r4)) :
    Calls Tryd.prog 17 #[v0] w fun e w' => ∃ (c' : Nat → Nat) (v_r1 : Value), e = .returned (.tuple #[v_r1, .int .i64 r2, .int .i64 r3, .int .i64 r4]) ∧ Step c w c' w' [] ∧ OwnPt c' 5 w' 107 k107 v_r1 r1 := by
 unfold lattice_New.f at H
 have HS := Step.refl c w []
 go_enter Tryd.func17, Tryd.ntmps17
 refine wp_seq_k fun K64 hK64 => ?_
 refine wl_region ?_
 refine st (.pointer none) rfl rfl (xr_assign _ rfl rfl) ?_
 refine st (.int .i64 0) rfl rfl (xr_assign _ rfl rfl) ?_
 refine st (.int .i64 0) rfl rfl (xr_assign _ rfl rfl) ?_
 refine st (.int .i64 0) rfl rfl (xr_assign _ rfl rfl) ?_
 simp only [ls0, ls1]
 refine wl_end ?_
 (try simp only [ls0, ls1])
 refine hK64 _ _ ?_
 (try clear hK64 K64)
 refine wp_seq_k fun K65 hK65 => ?_
 refine wp_seq_k fun K66 hK66 => ?_
 refine wl_region ?_
 refine mv_ rfl ?_
 obtain ⟨t67, A68, H⟩ := bnd H
 refine st_call #[v0] rfl rfl Tryd.func21 (by kernel_rfl) rfl rfl (mp_ rfl) ?_
 refine (order_Order_Len.calls v0 x0 t67  (fun z_ => pal [(0, 0)] (c z_)) w (fun _ => pal_lt rfl _) (Ft.arg HP0 rfl) A68).mono ?_
 rintro _ w70 ⟨C71, rfl, hs72⟩
 refine ⟨_, rfl, ?_⟩
 replace hs72 := Step.lift (U := [(0, 0)]) hs72 [] rfl rfl
 generalize up c C71 w.heap.size [(0, 0)] = C71_ at hs72
 replace HG := HG.thru hs72 rfl
 replace HP0 := HP0.thru hs72 rfl
 replace HS := HS.trans hs72 hc rfl
 (try simp only [ls0, ls1])
 refine st (.bool (decide (t67 = 0))) rfl rfl (xr_bin _ _ _ rfl rfl rfl (B.eql_i64 _ _)) ?_
 refine wl_end ?_
 (try simp only [ls0, ls1])
 refine hK66 _ _ ?_
 (try clear hK66 K66)
 by_cases c73 : t67 = 0
 ·rw [if_pos c73] at H
  (try rw [(decide_eq_true c73)])
  refine wp_cond_true rfl ?_
  refine wp_seq_k fun K74 hK74 => ?_
  refine wl_region ?_
  refine st (.pointer none) rfl rfl (xr_assign _ rfl rfl) ?_
  refine st (.int .i64 0) rfl rfl (xr_assign _ rfl rfl) ?_
  refine st (.int .i64 0) rfl rfl (xr_assign _ rfl rfl) ?_
  refine st (.int .i64 1) rfl rfl (xr_assign _ rfl rfl) ?_
  simp only [ls0, ls1]
  refine wl_end ?_
  (try simp only [ls0, ls1])
  refine hK74 _ _ ?_
  (try clear hK74 K74)
  refine wp_ret ?_
  (try simp only [Exit.inBlock, Exit.then, Exit.noGoto])
  (try simp only [ls0, ls1])
  simp only [Option.some.injEq, Prod.mk.injEq] at H
  obtain ⟨rfl, rfl, rfl, rfl⟩ := H
  refine bodyPost_ret (by simp [results, Tryd.results17]; rfl) rfl ?_
  exact ⟨_, (.pointer none), rfl, HS, (OwnPt.nil _ _ _ _ _)⟩
 rw [if_neg c73] at H
 (try rw [(decide_eq_false c73)])
 refine wp_cond_false rfl ?_
 refine wp_skip ?_
 (try simp only [ls0, ls1])
 refine hK65 _ _ ?_
 (try clear hK65 K65)
 refine wp_seq_k fun K75 hK75 => ?_
 refine wl_region ?_
 refine mv_ rfl ?_
 refine st (.agg (List.toArray ([v0, .int .u32 0, .int .i32 0, .int .u32 0] ++ (List.map (Value.int .i8) (zer 4096 (0 : Int)) ++ (List.map (Value.int .i8) (zer 4096 (0 : Int)) ++ ([.int .i64 0])))))) rfl rfl (xr_build1 (u := .pointer none) (v := v0) (pre := []) (post := [.int .u32 0, .int .i32 0, .int .u32 0] ++ (List.map (Value.int .i8) (zer 4096 (0 : Int)) ++ (List.map (Value.int .i8) (zer 4096 (0 : Int)) ++ ([.int .i64 0])))) (places := #[(0, 1), (1, 3), (4, 4096), (4100, 4096), (8196, 1)]) rfl rfl Tryd.underlying107 (by kernel_rfl) (fun _ => by kernel_rfl) rfl rfl (one_cells ((Kd.ptr 81 k81).K_one (Ft.now HP0) _ (List.mem_singleton.2 rfl))) (by first | (simp only [List.append_assoc, List.cons_append, List.nil_append, List.append_nil]; done) | rfl)) ?_
 refine bx_new (C := C71_) 107 ([v0, .int .u32 0, .int .i32 0, .int .u32 0] ++ (List.map (Value.int .i8) (zer 4096 (0 : Int)) ++ (List.map (Value.int .i8) (zer 4096 (0 : Int)) ++ ([.int .i64 0])))) 11 rfl rfl (xr_box rfl rfl) ?_
 intro g76 w77 C78 HX79 hs80
 replace HG := HG.thru hs80 rfl
 replace HP0 := HP0.thru hs80 rfl
 replace HS := HS.trans hs80 hc rfl
 (try simp only [ls0, ls1])
 refine as_ rfl ?_
 refine wl_end ?_
 (try simp only [ls0, ls1])
 refine hK75 _ _ ?_
 (try clear hK75 K75)
 refine wp_seq_k fun K81 hK81 => ?_
 refine wl_region ?_
 refine mv_ rfl ?_
 refine st (.pointer (some ⟨g76, 0, none⟩)) rfl rfl (xr_nilCheck _ rfl rfl) ?_
 refine st (.pointer (some ⟨g76, 1, none⟩)) rfl rfl (xr_fieldAddr _ _ rfl rfl (bx_field2 Tryd.underlying107 rfl rfl (by kernel_rfl))) ?_
 refine mv_ rfl ?_
 simp only [ls0, ls1]
 refine st (.func (.func 57) #[.pointer (some ⟨g76, 0, none⟩)] #[]) rfl rfl (xr_makeFunc #[.pointer (some ⟨g76, 0, none⟩)] #[] rfl (mp_ rfl) (mp_ rfl)) ?_
 refine st_call #[.pointer (some ⟨g76, 1, none⟩), .func (.func 57) #[.pointer (some ⟨g76, 0, none⟩)] #[]] rfl rfl Tryd.func56 (by kernel_rfl) rfl rfl (mp_ rfl) ?_
 refine once_go (C := C78) HX79 ?_
 intro w82 HX83 hs84
 replace HX83 : Bx C78 11 w82 g76 107 ([v0, .int .u32 0, .int .i32 1, .int .u32 0] ++ (List.map (Value.int .i8) (zer 4096 (0 : Int)) ++ (List.map (Value.int .i8) (zer 4096 (0 : Int)) ++ ([.int .i64 0])))) := HX83
 replace HG := HG.thru hs84 rfl
 replace HP0 := HP0.thru hs84 rfl
 replace HS := HS.trans hs84 hc rfl
 obtain ⟨⟨t85, t86⟩, A87, H⟩ := bnd H
 (try dsimp only at H)
 refine (lattice_Lattice_fill.calls k g76 v0 x0 0 1 0 (zer 4096 (0 : Int)) (zer 4096 (0 : Int)) 0 t85 t86  (fun z_ => pal [(0, 0), (11, 1)] (C78 z_)) w82 (fun _ => pal_lt rfl _) (Ft.arg HG rfl) (Bx.arg HX83 rfl) (Ft.arg HP0 rfl) zer_length zer_length A87).mono ?_
 rintro _ w89 ⟨C90, rfl, hs91, HL92, HL93, HX94⟩
 refine ⟨_, rfl, ?_⟩
 replace HX94 := Bx.res (U := [(0, 0), (1, 11)]) (j := 11) HX94 hs91 (by rfl) (by decide) rfl
 replace hs91 := Step.lift (U := [(0, 0), (1, 11)]) hs91 [11] rfl rfl
 generalize up C78 C90 w82.heap.size [(0, 0), (1, 11)] = C90_ at HX94 hs91
 replace HG := HG.thru hs91 rfl
 replace HP0 := HP0.thru hs91 rfl
 replace HS := HS.trans hs91 hc rfl
 (try simp only [ls0, ls1])
 refine once_end (C := C90_) HX94 ?_
 intro w95 HX96 hs97
 replace HX96 : Bx C90_ 11 w95 g76 107 ([v0, .int .u32 1, .int .i32 0, .int .u32 0] ++ (List.map (Value.int .i8) t85 ++ (List.map (Value.int .i8) t86 ++ ([.int .i64 0])))) := HX96
 replace HG := HG.thru hs97 rfl
 replace HP0 := HP0.thru hs97 rfl
 replace HS := HS.trans hs97 hc rfl
 (try simp only [ls0, ls1])
 refine wl_end ?_
 (try simp only [ls0, ls1])
 refine hK81 _ _ ?_
 (try clear hK81 K81)
 refine wp_seq_k fun K98 hK98 => ?_
 refine wp_seq_k fun K99 hK99 => ?_
 refine wl_region ?_
 refine mv_ rfl ?_
 have HP100 : Ft C90_ [0, 11] w95 (fun w_ => (Kd.ptr 107 k107).K w_ (some (⟨x0, (⟨(⟨1⟩ : S92), (⟨(⟨0, 0⟩ : S94)⟩ : S96)⟩ : S98), t85, t86, (⟨0⟩ : S105)⟩ : S107)) [.pointer (some ⟨g76, 0, none⟩)]) := ptr_mk (Ft.more (HX96.ft) rfl) (k107_mkF _ _ (⟨x0, (⟨(⟨1⟩ : S92), (⟨(⟨0, 0⟩ : S94)⟩ : S96)⟩ : S98), t85, t86, (⟨0⟩ : S105)⟩ : S107) (Ft.more HP0 rfl) HL92 HL93)
 obtain ⟨⟨t101, t102, t103⟩, A104, H⟩ := bnd H
 (try dsimp only at H)
 refine st_call #[.pointer (some ⟨g76, 0, none⟩)] rfl rfl Tryd.func58 (by kernel_rfl) rfl rfl (mp_ rfl) ?_
 refine (lattice_Lattice_whole.calls k (.pointer (some ⟨g76, 0, none⟩)) (some (⟨x0, (⟨(⟨1⟩ : S92), (⟨(⟨0, 0⟩ : S94)⟩ : S96)⟩ : S98), t85, t86, (⟨0⟩ : S105)⟩ : S107) : Option S107) t101 t102 t103  (fun z_ => pal [(0, 0), (11, 0)] (C90_ z_)) w95 (fun _ => pal_lt rfl _) (Ft.arg HP100 rfl) A104).mono ?_
 rintro _ w106 ⟨C107, rfl, hs108⟩
 refine ⟨_, rfl, ?_⟩
 replace hs108 := Step.lift (U := [(0, 0)]) hs108 [] rfl rfl
 generalize up C90_ C107 w95.heap.size [(0, 0)] = C107_ at hs108
 replace HG := HG.thru hs108 rfl
 replace HP0 := HP0.thru hs108 rfl
 replace HX96 := HX96.thru hs108 rfl
 replace HS := HS.trans hs108 hc rfl
 (try simp only [ls0, ls1])
 refine mv_ rfl ?_
 refine st (.int .i64 t101) rfl rfl (xr_extract (.tuple #[.int .i64 t101, .int .i64 t102, .bool t103]) _ rfl rfl rfl) ?_
 refine st (.int .i64 t102) rfl rfl (xr_extract (.tuple #[.int .i64 t101, .int .i64 t102, .bool t103]) _ rfl rfl rfl) ?_
 refine st (.bool t103) rfl rfl (xr_extract (.tuple #[.int .i64 t101, .int .i64 t102, .bool t103]) _ rfl rfl rfl) ?_
 simp only [ls0, ls1]
 refine as_ rfl ?_
 refine as_ rfl ?_
 refine as_ rfl ?_
 refine wl_end ?_
 (try simp only [ls0, ls1])
 refine hK99 _ _ ?_
 (try clear hK99 K99)
 refine wp_seq_k fun K109 hK109 => ?_
 refine wl_region ?_
 refine mv_ rfl ?_
 refine st (.bool (!t103)) rfl rfl (xr_un (.bool t103) _ rfl rfl (by first | rfl | (go_simp; done) | (go_simp; rfl) | (go_simp; exact i64_w _) | (go_simp; exact i32_w _))) ?_
 refine wl_end ?_
 (try simp only [ls0, ls1])
 refine hK109 _ _ ?_
 (try clear hK109 K109)
 by_cases c110 : t103 = true
 ·rw [if_pos c110] at H
  (try rw [c110])
  (try simp only [Bool.not_true, Bool.not_false])
  refine wp_cond_false rfl ?_
  refine wp_skip ?_
  (try simp only [ls0, ls1])
  refine hK98 _ _ ?_
  (try clear hK98 K98)
  refine wp_seq_k fun K111 hK111 => ?_
  refine wp_seq_k fun K112 hK112 => ?_
  refine wl_region ?_
  refine mv_ rfl ?_
  have HP113 : Ft C107_ [0, 11] w106 (fun w_ => (Kd.ptr 107 k107).K w_ (some (⟨x0, (⟨(⟨1⟩ : S92), (⟨(⟨0, 0⟩ : S94)⟩ : S96)⟩ : S98), t85, t86, (⟨0⟩ : S105)⟩ : S107)) [.pointer (some ⟨g76, 0, none⟩)]) := ptr_mk (Ft.more (HX96.ft) rfl) (k107_mkF _ _ (⟨x0, (⟨(⟨1⟩ : S92), (⟨(⟨0, 0⟩ : S94)⟩ : S96)⟩ : S98), t85, t86, (⟨0⟩ : S105)⟩ : S107) (Ft.more HP0 rfl) HL92 HL93)
  obtain ⟨⟨t114, t115, t116⟩, A117, H⟩ := bnd H
  (try dsimp only at H)
  refine st_call #[.pointer (some ⟨g76, 0, none⟩)] rfl rfl Tryd.func59 (by kernel_rfl) rfl rfl (mp_ rfl) ?_
  refine (lattice_Lattice_spreads.calls k (.pointer (some ⟨g76, 0, none⟩)) (some (⟨x0, (⟨(⟨1⟩ : S92), (⟨(⟨0, 0⟩ : S94)⟩ : S96)⟩ : S98), t85, t86, (⟨0⟩ : S105)⟩ : S107) : Option S107) t114 t115 t116  (fun z_ => pal [(0, 0), (11, 0)] (C107_ z_)) w106 (fun _ => pal_lt rfl _) (Ft.arg HP113 rfl) A117).mono ?_
  rintro _ w119 ⟨C120, rfl, hs121⟩
  refine ⟨_, rfl, ?_⟩
  replace hs121 := Step.lift (U := [(0, 0)]) hs121 [] rfl rfl
  generalize up C107_ C120 w106.heap.size [(0, 0)] = C120_ at hs121
  replace HG := HG.thru hs121 rfl
  replace HP0 := HP0.thru hs121 rfl
  replace HX96 := HX96.thru hs121 rfl
  replace HS := HS.trans hs121 hc rfl
  (try simp only [ls0, ls1])
  refine mv_ rfl ?_
  refine st (.int .i64 t114) rfl rfl (xr_extract (.tuple #[.int .i64 t114, .int .i64 t115, .bool t116]) _ rfl rfl rfl) ?_
  refine st (.int .i64 t115) rfl rfl (xr_extract (.tuple #[.int .i64 t114, .int .i64 t115, .bool t116]) _ rfl rfl rfl) ?_
  refine st (.bool t116) rfl rfl (xr_extract (.tuple #[.int .i64 t114, .int .i64 t115, .bool t116]) _ rfl rfl rfl) ?_
  simp only [ls0, ls1]
  refine as_ rfl ?_
  refine as_ rfl ?_
  refine as_ rfl ?_
  refine wl_end ?_
  (try simp only [ls0, ls1])
  refine hK112 _ _ ?_
  (try clear hK112 K112)
  refine wp_seq_k fun K122 hK122 => ?_
  refine wl_region ?_
  refine mv_ rfl ?_
  refine st (.bool (!t116)) rfl rfl (xr_un (.bool t116) _ rfl rfl (by first | rfl | (go_simp; done) | (go_simp; rfl) | (go_simp; exact i64_w _) | (go_simp; exact i32_w _))) ?_
  refine wl_end ?_
  (try simp only [ls0, ls1])
  refine hK122 _ _ ?_
  (try clear hK122 K122)
  by_cases c123 : t116 = true
  ·rw [if_pos c123] at H
   (try rw [c123])
   (try simp only [Bool.not_true, Bool.not_false])
   refine wp_cond_false rfl ?_
   refine wp_skip ?_
   (try simp only [ls0, ls1])
   refine hK111 _ _ ?_
   (try clear hK111 K111)
   refine wp_seq_k fun K124 hK124 => ?_
   refine wl_region ?_
   refine mv_ rfl ?_
   refine as_ rfl ?_
   refine st (.int .i64 0) rfl rfl (xr_assign _ rfl rfl) ?_
   refine st (.int .i64 0) rfl rfl (xr_assign _ rfl rfl) ?_
   simp only [ls0, ls1]
   refine st (.int .i64 0) rfl rfl (xr_assign _ rfl rfl) ?_
   refine wl_end ?_
   (try simp only [ls0, ls1])
   refine hK124 _ _ ?_
   (try clear hK124 K124)
   refine wp_ret ?_
   (try simp only [Exit.inBlock, Exit.then, Exit.noGoto])
   (try simp only [ls0, ls1])
   have HP125 : OwnPt C120_ 11 w119 107 k107 (.pointer (some ⟨g76, 0, none⟩)) (some (⟨x0, (⟨(⟨1⟩ : S92), (⟨(⟨0, 0⟩ : S94)⟩ : S96)⟩ : S98), t85, t86, (⟨0⟩ : S105)⟩ : S107)) := OwnPt.mk HX96 (k107_mkF _ _ (⟨x0, (⟨(⟨1⟩ : S92), (⟨(⟨0, 0⟩ : S94)⟩ : S96)⟩ : S98), t85, t86, (⟨0⟩ : S105)⟩ : S107) (Ft.more HP0 rfl) HL92 HL93)
   replace HG := Ft.recol (a := 11) (b := 5) HG (.inl rfl)
   replace HP0 := Ft.recol (a := 11) (b := 5) HP0 (.inl rfl)
   replace HP125 := OwnPt.recolor (b := 5) HP125 (by decide)
   replace HS := Step.recol (a := 11) (b := 5) HS hc (by decide)
   simp only [Option.some.injEq, Prod.mk.injEq] at H
   obtain ⟨rfl, rfl, rfl, rfl⟩ := H
   refine bodyPost_ret (by simp [results, Tryd.results17]; rfl) rfl ?_
   exact ⟨_, (.pointer (some ⟨g76, 0, none⟩)), rfl, HS, HP125⟩
  rw [if_neg c123] at H
  (try rw [(Bool.eq_false_iff.mpr c123)])
  (try simp only [Bool.not_true, Bool.not_false])
  refine wp_cond_true rfl ?_
  refine wp_seq_k fun K126 hK126 => ?_
  refine wl_region ?_
  refine mv_ rfl ?_
  refine mv_ rfl ?_
  refine st (.pointer none) rfl rfl (xr_assign _ rfl rfl) ?_
  refine as_ rfl ?_
  simp only [ls0, ls1]
  refine as_ rfl ?_
  refine st (.int .i64 17) rfl rfl (xr_assign _ rfl rfl) ?_
  refine wl_end ?_
  (try simp only [ls0, ls1])
  refine hK126 _ _ ?_
  (try clear hK126 K126)
  refine wp_ret ?_
  (try simp only [Exit.inBlock, Exit.then, Exit.noGoto])
  (try simp only [ls0, ls1])
  simp only [Option.some.injEq, Prod.mk.injEq] at H
  obtain ⟨rfl, rfl, rfl, rfl⟩ := H
  refine bodyPost_ret (by simp [results, Tryd.results17]; rfl) rfl ?_
  exact ⟨_, (.pointer none), rfl, HS, (OwnPt.nil _ _ _ _ _)⟩
 rw [if_neg c110] at H
 (try rw [(Bool.eq_false_iff.mpr c110)])
 (try simp only [Bool.not_true, Bool.not_false])
 refine wp_cond_true rfl ?_
 refine wp_seq_k fun K127 hK127 => ?_
 refine wl_region ?_
 refine mv_ rfl ?_
 refine mv_ rfl ?_
 refine st (.pointer none) rfl rfl (xr_assign _ rfl rfl) ?_
 refine as_ rfl ?_
 simp only [ls0, ls1]
 refine as_ rfl ?_
 refine st (.int .i64 17) rfl rfl (xr_assign _ rfl rfl) ?_
 refine wl_end ?_
 (try simp only [ls0, ls1])
 refine hK127 _ _ ?_
 (try clear hK127 K127)
 refine wp_ret ?_
 (try simp only [Exit.inBlock, Exit.then, Exit.noGoto])
 (try simp only [ls0, ls1])
 simp only [Option.some.injEq, Prod.mk.injEq] at H
 obtain ⟨rfl, rfl, rfl, rfl⟩ := H
 refine bodyPost_ret (by simp [results, Tryd.results17]; rfl) rfl ?_
 exact ⟨_, (.pointer none), rfl, HS, (OwnPt.nil _ _ _ _ _)⟩

/-! ### blazonref14_Join: function 60 -/
mutual
def blazonref14_Join.l0 : Nat → Int → Int → (List ByteArray) → (List (List Bool)) → Int → Bool → Int → Option (Int)
  | 0, _, _, _, _, _, _, _ => none
  | k + 1, a1, a2, l0_0, l0_1, x2535, x2964, x2965 => if x2965 < (l0_0.length : Int) then (if 0 ≤ a1 then (if a1 < (l0_1.length : Int) then (if 0 ≤ x2965 then (if x2965 < ((rd_L10 l0_1 a1).length : Int) then (if rdOf false (rd_L10 l0_1 a1) x2965 = true then (if 0 ≤ a2 then (if a2 < (l0_1.length : Int) then (if x2965 < ((rd_L10 l0_1 a2).length : Int) then (if rdOf false (rd_L10 l0_1 a2) x2965 = true then (if 0 ≤ x2535 then (if x2535 < (l0_1.length : Int) then (if x2965 < ((rd_L10 l0_1 x2535).length : Int) then (if rdOf false (rd_L10 l0_1 x2535) x2965 = true then (blazonref14_Join.l0 k a1 a2 l0_0 l0_1 x2535 x2964 (wrap64 (x2965 + 1))) else (blazonref14_Join.l0 k a1 a2 l0_0 l0_1 x2535 false (wrap64 (x2965 + 1)))) else (none)) else (none)) else (none)) else (blazonref14_Join.l0 k a1 a2 l0_0 l0_1 x2535 x2964 (wrap64 (x2965 + 1)))) else (none)) else (none)) else (none)) else (blazonref14_Join.l0 k a1 a2 l0_0 l0_1 x2535 x2964 (wrap64 (x2965 + 1)))) else (none)) else (none)) else (none)) else (none)) else (if x2964 = true then (some x2535) else (blazonref14_Join.l1 k a1 a2 l0_0 l0_1 (wrap64 (x2535 + 1))))
def blazonref14_Join.l1 : Nat → Int → Int → (List ByteArray) → (List (List Bool)) → Int → Option (Int)
  | 0, _, _, _, _, _ => none
  | k + 1, a1, a2, l0_0, l0_1, x2535 => if x2535 < (l0_0.length : Int) then (if 0 ≤ a1 then (if a1 < (l0_1.length : Int) then (if 0 ≤ x2535 then (if x2535 < ((rd_L10 l0_1 a1).length : Int) then (if rdOf false (rd_L10 l0_1 a1) x2535 = true then (if 0 ≤ a2 then (if a2 < (l0_1.length : Int) then (if x2535 < ((rd_L10 l0_1 a2).length : Int) then (if rdOf false (rd_L10 l0_1 a2) x2535 = true then (blazonref14_Join.l0 k a1 a2 l0_0 l0_1 x2535 true 0) else (blazonref14_Join.l1 k a1 a2 l0_0 l0_1 (wrap64 (x2535 + 1)))) else (none)) else (none)) else (none)) else (blazonref14_Join.l1 k a1 a2 l0_0 l0_1 (wrap64 (x2535 + 1)))) else (none)) else (none)) else (none)) else (none)) else (some (-1))
end
def blazonref14_Join.f (k : Nat) (l0_0 : List ByteArray) (l0_1 : List (List Bool)) (a1 : Int) (a2 : Int) : Option (Int) := blazonref14_Join.l1 k a1 a2 l0_0 l0_1 0

set_option maxHeartbeats 2000000 in
set_option maxRecDepth 100000 in
theorem blazonref14_Join.calls (k : Nat) (A0_0 : Option Addr) (c0_0 : Nat) (l0_0 : List ByteArray) (A0_1 : Option Addr) (c0_1 : Nat) (l0_1 : List (List Bool)) (a1 : Int) (a2 : Int) (r : Int) (c : Nat → Nat) (w : World) (hc : ∀ k, c k < 10) (HP0_0 : Ft c [0] w (fun w_ => Kd.string.C w_ A0_0 l0_0.length l0_0)) (HCP0_0 : l0_0.length ≤ c0_0) (HP0_1 : Ft c [0] w (fun w_ => (Kd.slice 4 Kd.bool).C w_ A0_1 l0_1.length l0_1)) (HCP0_1 : l0_1.length ≤ c0_1) (H : blazonref14_Join.f k l0_0 l0_1 a1 a2 = some r) :
    Calls Tryd.prog 60 #[.agg #[.slice A0_0 l0_0.length c0_0, .slice A0_1 l0_1.length c0_1], .int .i64 a1, .int .i64 a2] w fun e w' => ∃ (c' : Nat → Nat) , e = .returned (.int .i64 r) ∧ Step c w c' w' [] := by
 unfold blazonref14_Join.f at H
 have HS := Step.refl c w []
 go_enter Tryd.func60, Tryd.ntmps60
 refine wp_seq_k fun K1525 hK1525 => ?_
 refine wl_region ?_
 refine bx_new (C := c) 33 ([.slice A0_0 l0_0.length c0_0, .slice A0_1 l0_1.length c0_1]) 11 rfl rfl (by first | (go_simp; done) | (go_simp; rfl)) ?_
 intro g1526 w1527 C1528 HX1529 hs1530
 replace HP0_0 := HP0_0.thru hs1530 rfl
 replace HP0_1 := HP0_1.thru hs1530 rfl
 replace HS := HS.trans hs1530 hc rfl
 (try simp only [ls0, ls1])
 refine st (.int .i64 0) rfl rfl (xr_assign _ rfl rfl) ?_
 refine wl_end ?_
 (try simp only [ls0, ls1])
 refine hK1525 _ _ ?_
 (try clear hK1525 K1525)
 refine wp_seq_k fun K1531 hK1531 => ?_
 refine wp_seq_k fun K1532 hK1532 => ?_
 refine wl_region ?_
 refine st (.int .i64 0) rfl rfl (xr_assign _ rfl rfl) ?_
 refine wl_end ?_
 (try simp only [ls0, ls1])
 refine hK1532 _ _ ?_
 (try clear hK1532 K1532)
 refine wp_block ?_
 (try simp only [ls0, ls1])
 refine wp_looped (looped_fin (fun kq2541 a_ w2540 => ∃ (C2539 : Nat → Nat) (x2535 : Int) (g_ : Nat → Value), a_ = ⟨#[(g_ 0), .int .i64 a1, .int .i64 a2, .pointer (some ⟨g1526, 0, none⟩), (g_ 4), (g_ 5), (g_ 6), .int .i64 x2535, (g_ 8), (g_ 9), (g_ 10), (g_ 11), (g_ 12), (g_ 13), (g_ 14), (g_ 15), (g_ 16), (g_ 17), (g_ 18), (g_ 19), (g_ 20), (g_ 21), (g_ 22), (g_ 23), (g_ 24), (g_ 25), (g_ 26), (g_ 27), (g_ 28), (g_ 29), (g_ 30), (g_ 31), (g_ 32), (g_ 33), (g_ 34), (g_ 35), (g_ 36), (g_ 37), (g_ 38), (g_ 39), (g_ 40), (g_ 41), (g_ 42), (g_ 43), (g_ 44), (g_ 45), (g_ 46), (g_ 47), (g_ 48), (g_ 49), (g_ 50), (g_ 51), (g_ 52), (g_ 53), (g_ 54), (g_ 55), (g_ 56), (g_ 57), (g_ 58), (g_ 59), (g_ 60), (g_ 61), (g_ 62), (g_ 63), (g_ 64), (g_ 65), (g_ 66), (g_ 67), (g_ 68), (g_ 69), (g_ 70), (g_ 71), (g_ 72), (g_ 73), (g_ 74)], []⟩ ∧ Step c w C2539 w2540 [] ∧ kq2541 ≤ k ∧ (Ft C2539 [0] w2540 (fun w_ => Kd.string.C w_ A0_0 l0_0.length l0_0)) ∧ (Ft C2539 [0] w2540 (fun w_ => (Kd.slice 4 Kd.bool).C w_ A0_1 l0_1.length l0_1)) ∧ (Bx C2539 11 w2540 g1526 33 ([.slice A0_0 l0_0.length c0_0, .slice A0_1 l0_1.length c0_1])) ∧ blazonref14_Join.l1 kq2541 a1 a2 l0_0 l0_1 x2535 = some r) ?step fun hL_ => ?init)
 case init =>
  exact jmpL (fun a_ h_ => hL_ k a_ _ h_) (fun g_ => ⟨_, 0, g_, rfl, HS, Nat.le_refl _, HP0_0, HP0_1, HX1529, H⟩) rfl
 case step =>
  intro kq2541 ih2544 a2545 w2540 hr2546
  obtain ⟨C2539, x2535, g_, rfl, HS2542, hk2543, HJ2536, HJ2537, HJ2538, H⟩ := hr2546
  refine looped_round ?_
  cases kq2541 with
  | zero => exact absurd H (by simp [blazonref14_Join.l1])
  | succ k2547 =>
   simp only [blazonref14_Join.l1] at H
   refine wp_seq_k fun K2548 hK2548 => ?_
   refine wp_seq_k fun K2549 hK2549 => ?_
   refine wl_region ?_
   refine mv_ rfl ?_
   refine st (.pointer (some ⟨g1526, 0, none⟩)) rfl rfl (xr_fieldAddr _ _ rfl rfl (bx_field2 Tryd.underlying33 rfl rfl (by kernel_rfl))) ?_
   refine st (.slice A0_0 l0_0.length c0_0) rfl rfl (xr_load _ _ rfl rfl (load_cell Tryd.underlying30 rfl (bx_cell (HJ2538).2 0 rfl))) ?_
   refine st (.int .i64 (l0_0.length : Int)) rfl rfl (xr_builtin #[.slice A0_0 l0_0.length c0_0] (.int .i64 (l0_0.length : Int)) rfl (mp_ rfl) (by first | rfl | (go_simp; done) | (go_simp; rfl) | (go_simp; exact i64_w _) | (go_simp; exact i32_w _))) ?_
   simp only [ls0, ls1]
   refine st (.bool (decide (x2535 < (l0_0.length : Int)))) rfl rfl (xr_bin _ _ _ rfl rfl rfl (B.lss_i64 _ _)) ?_
   refine wl_end ?_
   (try simp only [ls0, ls1])
   refine hK2549 _ _ ?_
   (try clear hK2549 K2549)
   by_cases c2550 : x2535 < (l0_0.length : Int)
   ·rw [if_pos c2550] at H
    (try rw [(decide_eq_true c2550)])
    refine wp_cond_true rfl ?_
    refine wp_skip ?_
    (try simp only [ls0, ls1])
    refine hK2548 _ _ ?_
    (try clear hK2548 K2548)
    refine wp_seq_k fun K2551 hK2551 => ?_
    refine wp_block ?_
    refine wp_seq_k fun K2552 hK2552 => ?_
    refine wp_seq_k fun K2595 hK2595 => ?_
    refine wl_region ?_
    refine st (.pointer (some ⟨g1526, 1, none⟩)) rfl rfl (xr_fieldAddr _ _ rfl rfl (bx_field2 Tryd.underlying33 rfl rfl (by kernel_rfl))) ?_
    refine st (.slice A0_1 l0_1.length c0_1) rfl rfl (xr_load _ _ rfl rfl (load_cell Tryd.underlying31 rfl (bx_cell (HJ2538).2 1 rfl))) ?_
    simp only [ls0, ls1]
    refine mv_ rfl ?_
    obtain ⟨c2616, H⟩ := if_some H
    obtain ⟨c2617, H⟩ := if_some H
    obtain ⟨ad2618, hA2619⟩ := c_addr (Ft.now HJ2537) (pos_of (j := a1) (by first | assumption | decide) (by first | assumption | omega))
    refine st (.pointer (some (ad2618.add ((a1 : Int).toNat * 1)))) rfl rfl (xr_indexAddr _ _ _ rfl rfl rfl (index_at Tryd.underlying31 info74 hA2619 (by first | assumption | decide | omega) (by first | assumption | decide | omega))) ?_
    obtain ⟨csq2621, _, hKq2621, hcq2621, hinq2621⟩ := Ft.elem HJ2537 hA2619 [] a1 (by first | assumption | decide | omega) (by first | assumption | decide | omega) (by decide)
    obtain ⟨Aq2621_0, cpq2621_0, rfl, HCq2621_0, HRq2621_0⟩ := slice_openF hKq2621
    replace HRq2621_0 : Ft C2539 [0] w2540 (fun w_ => Kd.bool.C w_ Aq2621_0 (rd_L10 l0_1 a1).length (rd_L10 l0_1 a1)) := HRq2621_0
    refine st (.slice Aq2621_0 (rd_L10 l0_1 a1).length cpq2621_0) rfl rfl (xr_load (.pointer (some (ad2618.add ((a1 : Int).toNat * 1)))) (.slice Aq2621_0 (rd_L10 l0_1 a1).length cpq2621_0) rfl rfl (load_cell Tryd.underlying74 rfl (by have h_ := (hcq2621 0 _ rfl); rw [add_zero_] at h_; exact h_))) ?_
    refine mv_ rfl ?_
    simp only [ls0, ls1]
    obtain ⟨c2622, H⟩ := if_some H
    obtain ⟨c2623, H⟩ := if_some H
    obtain ⟨ad2624, hA2625⟩ := c_addr (Ft.now HRq2621_0) (pos_of (j := x2535) (by first | assumption | decide) (by first | assumption | omega))
    refine st (.pointer (some (ad2624.add ((x2535 : Int).toNat * 1)))) rfl rfl (xr_indexAddr _ _ _ rfl rfl rfl (index_at Tryd.underlying74 info4 hA2625 (by first | assumption | decide | omega) (by first | assumption | decide | omega))) ?_
    refine st (.bool (rdOf false (rd_L10 l0_1 a1) x2535)) rfl rfl (xr_load _ _ rfl rfl (load_bool Tryd.underlying4 rfl hA2625 (Ft.now HRq2621_0) (by first | assumption | decide | omega) (by first | assumption | decide | omega))) ?_
    refine st (.bool (!(rdOf false (rd_L10 l0_1 a1) x2535))) rfl rfl (xr_un (.bool (rdOf false (rd_L10 l0_1 a1) x2535)) _ rfl rfl (by first | rfl | (go_simp; done) | (go_simp; rfl) | (go_simp; exact i64_w _) | (go_simp; exact i32_w _))) ?_
    refine mv_ rfl ?_
    simp only [ls0, ls1]
    by_cases c2626 : rdOf false (rd_L10 l0_1 a1) x2535 = true
    ·rw [if_pos c2626] at H
     (try rw [c2626])
     (try simp only [Bool.not_true, Bool.not_false])
     refine on_guard (guard_on 9 false 26 rfl rfl rfl) ?_
     refine st (.pointer (some ⟨g1526, 1, none⟩)) rfl rfl (xr_fieldAddr _ _ rfl rfl (bx_field2 Tryd.underlying33 rfl rfl (by kernel_rfl))) ?_
     refine on_guard (guard_on 9 false 26 rfl rfl rfl) ?_
     refine st (.slice A0_1 l0_1.length c0_1) rfl rfl (xr_load _ _ rfl rfl (load_cell Tryd.underlying31 rfl (bx_cell (HJ2538).2 1 rfl))) ?_
     refine on_guard (guard_on 9 false 26 rfl rfl rfl) ?_
     refine mv_ rfl ?_
     refine on_guard (guard_on 9 false 26 rfl rfl rfl) ?_
     obtain ⟨c2627, H⟩ := if_some H
     obtain ⟨c2628, H⟩ := if_some H
     obtain ⟨ad2629, hA2630⟩ := c_addr (Ft.now HJ2537) (pos_of (j := a2) (by first | assumption | decide) (by first | assumption | omega))
     refine st (.pointer (some (ad2629.add ((a2 : Int).toNat * 1)))) rfl rfl (xr_indexAddr _ _ _ rfl rfl rfl (index_at Tryd.underlying31 info74 hA2630 (by first | assumption | decide | omega) (by first | assumption | decide | omega))) ?_
     simp only [ls0, ls1]
     refine on_guard (guard_on 9 false 26 rfl rfl rfl) ?_
     obtain ⟨csq2632, _, hKq2632, hcq2632, hinq2632⟩ := Ft.elem HJ2537 hA2630 [] a2 (by first | assumption | decide | omega) (by first | assumption | decide | omega) (by decide)
     obtain ⟨Aq2632_0, cpq2632_0, rfl, HCq2632_0, HRq2632_0⟩ := slice_openF hKq2632
     replace HRq2632_0 : Ft C2539 [0] w2540 (fun w_ => Kd.bool.C w_ Aq2632_0 (rd_L10 l0_1 a2).length (rd_L10 l0_1 a2)) := HRq2632_0
     refine st (.slice Aq2632_0 (rd_L10 l0_1 a2).length cpq2632_0) rfl rfl (xr_load (.pointer (some (ad2629.add ((a2 : Int).toNat * 1)))) (.slice Aq2632_0 (rd_L10 l0_1 a2).length cpq2632_0) rfl rfl (load_cell Tryd.underlying74 rfl (by have h_ := (hcq2632 0 _ rfl); rw [add_zero_] at h_; exact h_))) ?_
     refine on_guard (guard_on 9 false 26 rfl rfl rfl) ?_
     refine mv_ rfl ?_
     refine on_guard (guard_on 9 false 26 rfl rfl rfl) ?_
     obtain ⟨c2633, H⟩ := if_some H
     obtain ⟨ad2634, hA2635⟩ := c_addr (Ft.now HRq2632_0) (pos_of (j := x2535) (by first | assumption | decide) (by first | assumption | omega))
     refine st (.pointer (some (ad2634.add ((x2535 : Int).toNat * 1)))) rfl rfl (xr_indexAddr _ _ _ rfl rfl rfl (index_at Tryd.underlying74 info4 hA2635 (by first | assumption | decide | omega) (by first | assumption | decide | omega))) ?_
     refine on_guard (guard_on 9 false 26 rfl rfl rfl) ?_
     refine st (.bool (rdOf false (rd_L10 l0_1 a2) x2535)) rfl rfl (xr_load _ _ rfl rfl (load_bool Tryd.underlying4 rfl hA2635 (Ft.now HRq2632_0) (by first | assumption | decide | omega) (by first | assumption | decide | omega))) ?_
     simp only [ls0, ls1]
     refine on_guard (guard_on 9 false 26 rfl rfl rfl) ?_
     refine st (.bool (!(rdOf false (rd_L10 l0_1 a2) x2535))) rfl rfl (xr_un (.bool (rdOf false (rd_L10 l0_1 a2) x2535)) _ rfl rfl (by first | rfl | (go_simp; done) | (go_simp; rfl) | (go_simp; exact i64_w _) | (go_simp; exact i32_w _))) ?_
     refine st (.bool (!(rdOf false (rd_L10 l0_1 a2) x2535))) rfl rfl (xr_pick false _ rfl rfl rfl) ?_
     refine wl_end ?_
     (try simp only [ls0, ls1])
     refine hK2595 _ _ ?_
     (try clear hK2595 K2595)
     by_cases c2636 : rdOf false (rd_L10 l0_1 a2) x2535 = true
     ·rw [if_pos c2636] at H
      (try rw [c2636])
      (try simp only [Bool.not_true, Bool.not_false])
      refine wp_cond_false rfl ?_
      refine wp_skip ?_
      (try simp only [ls0, ls1])
      refine hK2552 _ _ ?_
      (try clear hK2552 K2552)
      refine wp_seq_k fun K2637 hK2637 => ?_
      refine wl_region ?_
      refine st (.bool true) rfl rfl (xr_assign _ rfl rfl) ?_
      refine wl_end ?_
      (try simp only [ls0, ls1])
      refine hK2637 _ _ ?_
      (try clear hK2637 K2637)
      refine wp_seq_k fun K2638 hK2638 => ?_
      refine wp_seq_k fun K2842 hK2842 => ?_
      refine wl_region ?_
      refine st (.int .i64 0) rfl rfl (xr_assign _ rfl rfl) ?_
      refine wl_end ?_
      (try simp only [ls0, ls1])
      refine hK2842 _ _ ?_
      (try clear hK2842 K2842)
      refine wp_block ?_
      (try simp only [ls0, ls1])
      refine wp_looped (looped_fin (fun kq2972 a_ w2971 => ∃ (C2970 : Nat → Nat) (x2964 : Bool) (x2965 : Int) (g_ : Nat → Value), a_ = ⟨#[(g_ 0), .int .i64 a1, .int .i64 a2, .pointer (some ⟨g1526, 0, none⟩), (g_ 4), (g_ 5), (g_ 6), .int .i64 x2535, .bool x2964, .int .i64 x2965, (g_ 10), (g_ 11), (g_ 12), (g_ 13), (g_ 14), (g_ 15), (g_ 16), (g_ 17), (g_ 18), (g_ 19), (g_ 20), (g_ 21), (g_ 22), (g_ 23), (g_ 24), (g_ 25), (g_ 26), .pointer (some ⟨g1526, 1, none⟩), .slice A0_1 l0_1.length c0_1, .int .i64 a2, (g_ 30), .slice Aq2632_0 (rd_L10 l0_1 a2).length cpq2632_0, .int .i64 x2535, (g_ 33), .bool true, .bool false, (g_ 36), (g_ 37), (g_ 38), (g_ 39), (g_ 40), (g_ 41), (g_ 42), (g_ 43), (g_ 44), (g_ 45), (g_ 46), (g_ 47), (g_ 48), (g_ 49), (g_ 50), (g_ 51), (g_ 52), (g_ 53), (g_ 54), (g_ 55), (g_ 56), (g_ 57), (g_ 58), (g_ 59), (g_ 60), (g_ 61), (g_ 62), (g_ 63), (g_ 64), (g_ 65), (g_ 66), (g_ 67), (g_ 68), (g_ 69), (g_ 70), (g_ 71), (g_ 72), (g_ 73), (g_ 74)], []⟩ ∧ Step c w C2970 w2971 [] ∧ kq2972 ≤ k2547 ∧ (Ft C2970 [0] w2971 (fun w_ => (Kd.slice 4 Kd.bool).C w_ A0_1 l0_1.length l0_1)) ∧ (Ft C2970 [0] w2971 (fun w_ => Kd.bool.C w_ Aq2632_0 ((rd_L10 l0_1 a2).length) (rd_L10 l0_1 a2))) ∧ (Ft C2970 [0] w2971 (fun w_ => Kd.string.C w_ A0_0 l0_0.length l0_0)) ∧ (Bx C2970 11 w2971 g1526 33 ([.slice A0_0 l0_0.length c0_0, .slice A0_1 l0_1.length c0_1])) ∧ blazonref14_Join.l0 kq2972 a1 a2 l0_0 l0_1 x2535 x2964 x2965 = some r) ?step fun hL_ => ?init)
      case init =>
       exact jmpL (fun a_ h_ => hL_ k2547 a_ _ h_) (fun g_ => ⟨_, true, 0, g_, rfl, HS2542, Nat.le_refl _, HJ2537, HRq2632_0, HJ2536, HJ2538, H⟩) rfl
      case step =>
       intro kq2972 ih2975 a2976 w2971 hr2977
       obtain ⟨C2970, x2964, x2965, g_, rfl, HS2973, hk2974, HJ2966, HJ2967, HJ2968, HJ2969, H⟩ := hr2977
       refine looped_round ?_
       cases kq2972 with
       | zero => exact absurd H (by simp [blazonref14_Join.l0])
       | succ k2978 =>
        simp only [blazonref14_Join.l0] at H
        refine wp_seq_k fun K2979 hK2979 => ?_
        refine wp_seq_k fun K2980 hK2980 => ?_
        refine wl_region ?_
        refine mv_ rfl ?_
        refine st (.pointer (some ⟨g1526, 0, none⟩)) rfl rfl (xr_fieldAddr _ _ rfl rfl (bx_field2 Tryd.underlying33 rfl rfl (by kernel_rfl))) ?_
        refine st (.slice A0_0 l0_0.length c0_0) rfl rfl (xr_load _ _ rfl rfl (load_cell Tryd.underlying30 rfl (bx_cell (HJ2969).2 0 rfl))) ?_
        refine st (.int .i64 (l0_0.length : Int)) rfl rfl (xr_builtin #[.slice A0_0 l0_0.length c0_0] (.int .i64 (l0_0.length : Int)) rfl (mp_ rfl) (by first | rfl | (go_simp; done) | (go_simp; rfl) | (go_simp; exact i64_w _) | (go_simp; exact i32_w _))) ?_
        simp only [ls0, ls1]
        refine st (.bool (decide (x2965 < (l0_0.length : Int)))) rfl rfl (xr_bin _ _ _ rfl rfl rfl (B.lss_i64 _ _)) ?_
        refine wl_end ?_
        (try simp only [ls0, ls1])
        refine hK2980 _ _ ?_
        (try clear hK2980 K2980)
        by_cases c2981 : x2965 < (l0_0.length : Int)
        ·rw [if_pos c2981] at H
         (try rw [(decide_eq_true c2981)])
         refine wp_cond_true rfl ?_
         refine wp_skip ?_
         (try simp only [ls0, ls1])
         refine hK2979 _ _ ?_
         (try clear hK2979 K2979)
         refine wp_seq_k fun K2982 hK2982 => ?_
         refine wp_block ?_
         refine wp_seq_k fun K2983 hK2983 => ?_
         refine wl_region ?_
         refine st (.pointer (some ⟨g1526, 1, none⟩)) rfl rfl (xr_fieldAddr _ _ rfl rfl (bx_field2 Tryd.underlying33 rfl rfl (by kernel_rfl))) ?_
         simp only [ls0, ls1]
         refine st (.slice A0_1 l0_1.length c0_1) rfl rfl (xr_load _ _ rfl rfl (load_cell Tryd.underlying31 rfl (bx_cell (HJ2969).2 1 rfl))) ?_
         refine mv_ rfl ?_
         obtain ⟨c3014, H⟩ := if_some H
         obtain ⟨c3015, H⟩ := if_some H
         obtain ⟨ad3016, hA3017⟩ := c_addr (Ft.now HJ2966) (pos_of (j := a1) (by first | assumption | decide) (by first | assumption | omega))
         refine st (.pointer (some (ad3016.add ((a1 : Int).toNat * 1)))) rfl rfl (xr_indexAddr _ _ _ rfl rfl rfl (index_at Tryd.underlying31 info74 hA3017 (by first | assumption | decide | omega) (by first | assumption | decide | omega))) ?_
         obtain ⟨csq3019, _, hKq3019, hcq3019, hinq3019⟩ := Ft.elem HJ2966 hA3017 [] a1 (by first | assumption | decide | omega) (by first | assumption | decide | omega) (by decide)
         obtain ⟨Aq3019_0, cpq3019_0, rfl, HCq3019_0, HRq3019_0⟩ := slice_openF hKq3019
         replace HRq3019_0 : Ft C2970 [0] w2971 (fun w_ => Kd.bool.C w_ Aq3019_0 (rd_L10 l0_1 a1).length (rd_L10 l0_1 a1)) := HRq3019_0
         refine st (.slice Aq3019_0 (rd_L10 l0_1 a1).length cpq3019_0) rfl rfl (xr_load (.pointer (some (ad3016.add ((a1 : Int).toNat * 1)))) (.slice Aq3019_0 (rd_L10 l0_1 a1).length cpq3019_0) rfl rfl (load_cell Tryd.underlying74 rfl (by have h_ := (hcq3019 0 _ rfl); rw [add_zero_] at h_; exact h_))) ?_
         simp only [ls0, ls1]
         refine mv_ rfl ?_
         obtain ⟨c3020, H⟩ := if_some H
         obtain ⟨c3021, H⟩ := if_some H
         obtain ⟨ad3022, hA3023⟩ := c_addr (Ft.now HRq3019_0) (pos_of (j := x2965) (by first | assumption | decide) (by first | assumption | omega))
         refine st (.pointer (some (ad3022.add ((x2965 : Int).toNat * 1)))) rfl rfl (xr_indexAddr _ _ _ rfl rfl rfl (index_at Tryd.underlying74 info4 hA3023 (by first | assumption | decide | omega) (by first | assumption | decide | omega))) ?_
         refine st (.bool (rdOf false (rd_L10 l0_1 a1) x2965)) rfl rfl (xr_load _ _ rfl rfl (load_bool Tryd.underlying4 rfl hA3023 (Ft.now HRq3019_0) (by first | assumption | decide | omega) (by first | assumption | decide | omega))) ?_
         refine mv_ rfl ?_
         simp only [ls0, ls1]
         by_cases c3024 : rdOf false (rd_L10 l0_1 a1) x2965 = true
         ·rw [if_pos c3024] at H
          (try rw [c3024])
          refine on_guard (guard_on 8 true 52 rfl rfl rfl) ?_
          refine st (.pointer (some ⟨g1526, 1, none⟩)) rfl rfl (xr_fieldAddr _ _ rfl rfl (bx_field2 Tryd.underlying33 rfl rfl (by kernel_rfl))) ?_
          refine on_guard (guard_on 8 true 52 rfl rfl rfl) ?_
          refine st (.slice A0_1 l0_1.length c0_1) rfl rfl (xr_load _ _ rfl rfl (load_cell Tryd.underlying31 rfl (bx_cell (HJ2969).2 1 rfl))) ?_
          refine on_guard (guard_on 8 true 52 rfl rfl rfl) ?_
          refine mv_ rfl ?_
          refine on_guard (guard_on 8 true 52 rfl rfl rfl) ?_
          obtain ⟨c3025, H⟩ := if_some H
          obtain ⟨c3026, H⟩ := if_some H
          obtain ⟨ad3027, hA3028⟩ := c_addr (Ft.now HJ2966) (pos_of (j := a2) (by first | assumption | decide) (by first | assumption | omega))
          refine st (.pointer (some (ad3027.add ((a2 : Int).toNat * 1)))) rfl rfl (xr_indexAddr _ _ _ rfl rfl rfl (index_at Tryd.underlying31 info74 hA3028 (by first | assumption | decide | omega) (by first | assumption | decide | omega))) ?_
          simp only [ls0, ls1]
          refine on_guard (guard_on 8 true 52 rfl rfl rfl) ?_
          obtain ⟨csq3030, _, hKq3030, hcq3030, hinq3030⟩ := Ft.elem HJ2966 hA3028 [] a2 (by first | assumption | decide | omega) (by first | assumption | decide | omega) (by decide)
          obtain ⟨Aq3030_0, cpq3030_0, rfl, HCq3030_0, HRq3030_0⟩ := slice_openF hKq3030
          replace HRq3030_0 : Ft C2970 [0] w2971 (fun w_ => Kd.bool.C w_ Aq3030_0 (rd_L10 l0_1 a2).length (rd_L10 l0_1 a2)) := HRq3030_0
          refine st (.slice Aq3030_0 (rd_L10 l0_1 a2).length cpq3030_0) rfl rfl (xr_load (.pointer (some (ad3027.add ((a2 : Int).toNat * 1)))) (.slice Aq3030_0 (rd_L10 l0_1 a2).length cpq3030_0) rfl rfl (load_cell Tryd.underlying74 rfl (by have h_ := (hcq3030 0 _ rfl); rw [add_zero_] at h_; exact h_))) ?_
          refine on_guard (guard_on 8 true 52 rfl rfl rfl) ?_
          refine mv_ rfl ?_
          refine on_guard (guard_on 8 true 52 rfl rfl rfl) ?_
          obtain ⟨c3031, H⟩ := if_some H
          obtain ⟨ad3032, hA3033⟩ := c_addr (Ft.now HRq3030_0) (pos_of (j := x2965) (by first | assumption | decide) (by first | assumption | omega))
          refine st (.pointer (some (ad3032.add ((x2965 : Int).toNat * 1)))) rfl rfl (xr_indexAddr _ _ _ rfl rfl rfl (index_at Tryd.underlying74 info4 hA3033 (by first | assumption | decide | omega) (by first | assumption | decide | omega))) ?_
          refine on_guard (guard_on 8 true 52 rfl rfl rfl) ?_
          refine st (.bool (rdOf false (rd_L10 l0_1 a2) x2965)) rfl rfl (xr_load _ _ rfl rfl (load_bool Tryd.underlying4 rfl hA3033 (Ft.now HRq3030_0) (by first | assumption | decide | omega) (by first | assumption | decide | omega))) ?_
          simp only [ls0, ls1]
          refine st (.bool (rdOf false (rd_L10 l0_1 a2) x2965)) rfl rfl (xr_pick true _ rfl rfl rfl) ?_
          refine mv_ rfl ?_
          by_cases c3034 : rdOf false (rd_L10 l0_1 a2) x2965 = true
          ·rw [if_pos c3034] at H
           (try rw [c3034])
           refine on_guard (guard_on 18 true 62 rfl rfl rfl) ?_
           refine st (.pointer (some ⟨g1526, 1, none⟩)) rfl rfl (xr_fieldAddr _ _ rfl rfl (bx_field2 Tryd.underlying33 rfl rfl (by kernel_rfl))) ?_
           refine on_guard (guard_on 18 true 62 rfl rfl rfl) ?_
           refine st (.slice A0_1 l0_1.length c0_1) rfl rfl (xr_load _ _ rfl rfl (load_cell Tryd.underlying31 rfl (bx_cell (HJ2969).2 1 rfl))) ?_
           simp only [ls0, ls1]
           refine on_guard (guard_on 18 true 62 rfl rfl rfl) ?_
           refine mv_ rfl ?_
           refine on_guard (guard_on 18 true 62 rfl rfl rfl) ?_
           obtain ⟨c3035, H⟩ := if_some H
           obtain ⟨c3036, H⟩ := if_some H
           obtain ⟨ad3037, hA3038⟩ := c_addr (Ft.now HJ2966) (pos_of (j := x2535) (by first | assumption | decide) (by first | assumption | omega))
           refine st (.pointer (some (ad3037.add ((x2535 : Int).toNat * 1)))) rfl rfl (xr_indexAddr _ _ _ rfl rfl rfl (index_at Tryd.underlying31 info74 hA3038 (by first | assumption | decide | omega) (by first | assumption | decide | omega))) ?_
           refine on_guard (guard_on 18 true 62 rfl rfl rfl) ?_
           obtain ⟨csq3040, _, hKq3040, hcq3040, hinq3040⟩ := Ft.elem HJ2966 hA3038 [] x2535 (by first | assumption | decide | omega) (by first | assumption | decide | omega) (by decide)
           obtain ⟨Aq3040_0, cpq3040_0, rfl, HCq3040_0, HRq3040_0⟩ := slice_openF hKq3040
           replace HRq3040_0 : Ft C2970 [0] w2971 (fun w_ => Kd.bool.C w_ Aq3040_0 (rd_L10 l0_1 x2535).length (rd_L10 l0_1 x2535)) := HRq3040_0
           refine st (.slice Aq3040_0 (rd_L10 l0_1 x2535).length cpq3040_0) rfl rfl (xr_load (.pointer (some (ad3037.add ((x2535 : Int).toNat * 1)))) (.slice Aq3040_0 (rd_L10 l0_1 x2535).length cpq3040_0) rfl rfl (load_cell Tryd.underlying74 rfl (by have h_ := (hcq3040 0 _ rfl); rw [add_zero_] at h_; exact h_))) ?_
           refine on_guard (guard_on 18 true 62 rfl rfl rfl) ?_
           refine mv_ rfl ?_
           simp only [ls0, ls1]
           refine on_guard (guard_on 18 true 62 rfl rfl rfl) ?_
           obtain ⟨c3041, H⟩ := if_some H
           obtain ⟨ad3042, hA3043⟩ := c_addr (Ft.now HRq3040_0) (pos_of (j := x2965) (by first | assumption | decide) (by first | assumption | omega))
           refine st (.pointer (some (ad3042.add ((x2965 : Int).toNat * 1)))) rfl rfl (xr_indexAddr _ _ _ rfl rfl rfl (index_at Tryd.underlying74 info4 hA3043 (by first | assumption | decide | omega) (by first | assumption | decide | omega))) ?_
           refine on_guard (guard_on 18 true 62 rfl rfl rfl) ?_
           refine st (.bool (rdOf false (rd_L10 l0_1 x2535) x2965)) rfl rfl (xr_load _ _ rfl rfl (load_bool Tryd.underlying4 rfl hA3043 (Ft.now HRq3040_0) (by first | assumption | decide | omega) (by first | assumption | decide | omega))) ?_
           refine on_guard (guard_on 18 true 62 rfl rfl rfl) ?_
           refine st (.bool (!(rdOf false (rd_L10 l0_1 x2535) x2965))) rfl rfl (xr_un (.bool (rdOf false (rd_L10 l0_1 x2535) x2965)) _ rfl rfl (by first | rfl | (go_simp; done) | (go_simp; rfl) | (go_simp; exact i64_w _) | (go_simp; exact i32_w _))) ?_
           refine st (.bool (!(rdOf false (rd_L10 l0_1 x2535) x2965))) rfl rfl (xr_pick true _ rfl rfl rfl) ?_
           simp only [ls0, ls1]
           refine wl_end ?_
           (try simp only [ls0, ls1])
           refine hK2983 _ _ ?_
           (try clear hK2983 K2983)
           by_cases c3044 : rdOf false (rd_L10 l0_1 x2535) x2965 = true
           ·rw [if_pos c3044] at H
            (try rw [c3044])
            (try simp only [Bool.not_true, Bool.not_false])
            refine wp_cond_false rfl ?_
            refine wp_skip ?_
            (try simp only [ls0, ls1])
            refine hK2982 _ _ ?_
            (try clear hK2982 K2982)
            refine wl_region ?_
            refine mv_ rfl ?_
            refine st (.int .i64 (wrap64 (x2965 + 1))) rfl rfl (xr_bin _ _ _ rfl rfl rfl (B.add_i64 _ _)) ?_
            refine as_ rfl ?_
            refine wl_end ?_
            (try simp only [ls0, ls1])
            exact jmpL (fun a_ h_ => ih2975 k2978 (by omega) a_ _ h_) (fun g_ => ⟨_, x2964, wrap64 (x2965 + 1), g_, rfl, HS2973, (by omega), HJ2966, HJ2967, HJ2968, HJ2969, H⟩) rfl
           rw [if_neg c3044] at H
           (try rw [(Bool.eq_false_iff.mpr c3044)])
           (try simp only [Bool.not_true, Bool.not_false])
           refine wp_cond_true rfl ?_
           refine wl_region ?_
           refine st (.bool false) rfl rfl (xr_assign _ rfl rfl) ?_
           refine wl_end ?_
           (try simp only [ls0, ls1])
           refine hK2982 _ _ ?_
           (try clear hK2982 K2982)
           refine wl_region ?_
           refine mv_ rfl ?_
           refine st (.int .i64 (wrap64 (x2965 + 1))) rfl rfl (xr_bin _ _ _ rfl rfl rfl (B.add_i64 _ _)) ?_
           refine as_ rfl ?_
           refine wl_end ?_
           (try simp only [ls0, ls1])
           exact jmpL (fun a_ h_ => ih2975 k2978 (by omega) a_ _ h_) (fun g_ => ⟨_, false, wrap64 (x2965 + 1), g_, rfl, HS2973, (by omega), HJ2966, HJ2967, HJ2968, HJ2969, H⟩) rfl
          rw [if_neg c3034] at H
          (try rw [(Bool.eq_false_iff.mpr c3034)])
          refine sk_guard (guard_off 18 true 62 rfl rfl false (by decide) rfl) rfl ?_
          refine sk_guard (guard_off 18 true 62 rfl rfl false (by decide) rfl) rfl ?_
          refine sk_guard (guard_off 18 true 62 rfl rfl false (by decide) rfl) rfl ?_
          refine sk_guard (guard_off 18 true 62 rfl rfl false (by decide) rfl) rfl ?_
          simp only [ls0, ls1]
          refine sk_guard (guard_off 18 true 62 rfl rfl false (by decide) rfl) rfl ?_
          refine sk_guard (guard_off 18 true 62 rfl rfl false (by decide) rfl) rfl ?_
          refine sk_guard (guard_off 18 true 62 rfl rfl false (by decide) rfl) rfl ?_
          refine sk_guard (guard_off 18 true 62 rfl rfl false (by decide) rfl) rfl ?_
          simp only [ls0, ls1]
          refine sk_guard (guard_off 18 true 62 rfl rfl false (by decide) rfl) rfl ?_
          refine st (.bool false) rfl rfl (xr_pick false _ rfl rfl rfl) ?_
          refine wl_end ?_
          (try simp only [ls0, ls1])
          refine hK2983 _ _ ?_
          (try clear hK2983 K2983)
          refine wp_cond_false rfl ?_
          refine wp_skip ?_
          (try simp only [ls0, ls1])
          refine hK2982 _ _ ?_
          (try clear hK2982 K2982)
          refine wl_region ?_
          refine mv_ rfl ?_
          refine st (.int .i64 (wrap64 (x2965 + 1))) rfl rfl (xr_bin _ _ _ rfl rfl rfl (B.add_i64 _ _)) ?_
          refine as_ rfl ?_
          refine wl_end ?_
          (try simp only [ls0, ls1])
          exact jmpL (fun a_ h_ => ih2975 k2978 (by omega) a_ _ h_) (fun g_ => ⟨_, x2964, wrap64 (x2965 + 1), g_, rfl, HS2973, (by omega), HJ2966, HJ2967, HJ2968, HJ2969, H⟩) rfl
         rw [if_neg c3024] at H
         (try rw [(Bool.eq_false_iff.mpr c3024)])
         refine sk_guard (guard_off 8 true 52 rfl rfl false (by decide) rfl) rfl ?_
         refine sk_guard (guard_off 8 true 52 rfl rfl false (by decide) rfl) rfl ?_
         refine sk_guard (guard_off 8 true 52 rfl rfl false (by decide) rfl) rfl ?_
         refine sk_guard (guard_off 8 true 52 rfl rfl false (by decide) rfl) rfl ?_
         simp only [ls0, ls1]
         refine sk_guard (guard_off 8 true 52 rfl rfl false (by decide) rfl) rfl ?_
         refine sk_guard (guard_off 8 true 52 rfl rfl false (by decide) rfl) rfl ?_
         refine sk_guard (guard_off 8 true 52 rfl rfl false (by decide) rfl) rfl ?_
         refine sk_guard (guard_off 8 true 52 rfl rfl false (by decide) rfl) rfl ?_
         simp only [ls0, ls1]
         refine st (.bool false) rfl rfl (xr_pick false _ rfl rfl rfl) ?_
         refine mv_ rfl ?_
         refine sk_guard (guard_off 18 true 62 rfl rfl false (by decide) rfl) rfl ?_
         refine sk_guard (guard_off 18 true 62 rfl rfl false (by decide) rfl) rfl ?_
         simp only [ls0, ls1]
         refine sk_guard (guard_off 18 true 62 rfl rfl false (by decide) rfl) rfl ?_
         refine sk_guard (guard_off 18 true 62 rfl rfl false (by decide) rfl) rfl ?_
         refine sk_guard (guard_off 18 true 62 rfl rfl false (by decide) rfl) rfl ?_
         refine sk_guard (guard_off 18 true 62 rfl rfl false (by decide) rfl) rfl ?_
         simp only [ls0, ls1]
         refine sk_guard (guard_off 18 true 62 rfl rfl false (by decide) rfl) rfl ?_
         refine sk_guard (guard_off 18 true 62 rfl rfl false (by decide) rfl) rfl ?_
         refine sk_guard (guard_off 18 true 62 rfl rfl false (by decide) rfl) rfl ?_
         refine st (.bool false) rfl rfl (xr_pick false _ rfl rfl rfl) ?_
         simp only [ls0, ls1]
         refine wl_end ?_
         (try simp only [ls0, ls1])
         refine hK2983 _ _ ?_
         (try clear hK2983 K2983)
         refine wp_cond_false rfl ?_
         refine wp_skip ?_
         (try simp only [ls0, ls1])
         refine hK2982 _ _ ?_
         (try clear hK2982 K2982)
         refine wl_region ?_
         refine mv_ rfl ?_
         refine st (.int .i64 (wrap64 (x2965 + 1))) rfl rfl (xr_bin _ _ _ rfl rfl rfl (B.add_i64 _ _)) ?_
         refine as_ rfl ?_
         refine wl_end ?_
         (try simp only [ls0, ls1])
         exact jmpL (fun a_ h_ => ih2975 k2978 (by omega) a_ _ h_) (fun g_ => ⟨_, x2964, wrap64 (x2965 + 1), g_, rfl, HS2973, (by omega), HJ2966, HJ2967, HJ2968, HJ2969, H⟩) rfl
        rw [if_neg c2981] at H
        (try rw [(decide_eq_false c2981)])
        refine wp_cond_false rfl ?_
        refine wp_exit ?_
        (try simp only [ls0, ls1])
        refine hK2638 _ _ ?_
        (try clear hK2638 K2638)
        refine wp_seq_k fun K3045 hK3045 => ?_
        refine wl_region ?_
        refine mv_ rfl ?_
        refine wl_end ?_
        (try simp only [ls0, ls1])
        refine hK3045 _ _ ?_
        (try clear hK3045 K3045)
        by_cases c3046 : x2964 = true
        ·rw [if_pos c3046] at H
         (try rw [c3046])
         refine wp_cond_true rfl ?_
         refine wp_seq_k fun K3047 hK3047 => ?_
         refine wl_region ?_
         refine mv_ rfl ?_
         refine as_ rfl ?_
         refine wl_end ?_
         (try simp only [ls0, ls1])
         refine hK3047 _ _ ?_
         (try clear hK3047 K3047)
         refine wp_ret ?_
         (try simp only [Exit.inBlock, Exit.then, Exit.noGoto])
         (try simp only [ls0, ls1])
         obtain rfl := Option.some.inj H
         refine bodyPost_ret (results_tmp rfl _ _ _) rfl ?_
         exact ⟨_, rfl, HS2973⟩
        rw [if_neg c3046] at H
        (try rw [(Bool.eq_false_iff.mpr c3046)])
        refine wp_cond_false rfl ?_
        refine wp_skip ?_
        (try simp only [ls0, ls1])
        refine hK2551 _ _ ?_
        (try clear hK2551 K2551)
        refine wl_region ?_
        refine mv_ rfl ?_
        refine st (.int .i64 (wrap64 (x2535 + 1))) rfl rfl (xr_bin _ _ _ rfl rfl rfl (B.add_i64 _ _)) ?_
        refine as_ rfl ?_
        refine wl_end ?_
        (try simp only [ls0, ls1])
        exact jmpL (fun a_ h_ => ih2544 k2978 (by omega) a_ _ h_) (fun g_ => ⟨_, wrap64 (x2535 + 1), g_, rfl, HS2973, (by omega), HJ2968, HJ2966, HJ2969, H⟩) rfl
     rw [if_neg c2636] at H
     (try rw [(Bool.eq_false_iff.mpr c2636)])
     (try simp only [Bool.not_true, Bool.not_false])
     refine wp_cond_true rfl ?_
     refine wp_exit ?_
     (try simp only [ls0, ls1])
     refine hK2551 _ _ ?_
     (try clear hK2551 K2551)
     refine wl_region ?_
     refine mv_ rfl ?_
     refine st (.int .i64 (wrap64 (x2535 + 1))) rfl rfl (xr_bin _ _ _ rfl rfl rfl (B.add_i64 _ _)) ?_
     refine as_ rfl ?_
     refine wl_end ?_
     (try simp only [ls0, ls1])
     exact jmpL (fun a_ h_ => ih2544 k2547 (by omega) a_ _ h_) (fun g_ => ⟨_, wrap64 (x2535 + 1), g_, rfl, HS2542, (by omega), HJ2536, HJ2537, HJ2538, H⟩) rfl
    rw [if_neg c2626] at H
    (try rw [(Bool.eq_false_iff.mpr c2626)])
    (try simp only [Bool.not_true, Bool.not_false])
    refine sk_guard (guard_off 9 false 26 rfl rfl true (by decide) rfl) rfl ?_
    refine sk_guard (guard_off 9 false 26 rfl rfl true (by decide) rfl) rfl ?_
    refine sk_guard (guard_off 9 false 26 rfl rfl true (by decide) rfl) rfl ?_
    refine sk_guard (guard_off 9 false 26 rfl rfl true (by decide) rfl) rfl ?_
    simp only [ls0, ls1]
    refine sk_guard (guard_off 9 false 26 rfl rfl true (by decide) rfl) rfl ?_
    refine sk_guard (guard_off 9 false 26 rfl rfl true (by decide) rfl) rfl ?_
    refine sk_guard (guard_off 9 false 26 rfl rfl true (by decide) rfl) rfl ?_
    refine sk_guard (guard_off 9 false 26 rfl rfl true (by decide) rfl) rfl ?_
    simp only [ls0, ls1]
    refine sk_guard (guard_off 9 false 26 rfl rfl true (by decide) rfl) rfl ?_
    refine st (.bool true) rfl rfl (xr_pick true _ rfl rfl rfl) ?_
    refine wl_end ?_
    (try simp only [ls0, ls1])
    refine hK2595 _ _ ?_
    (try clear hK2595 K2595)
    refine wp_cond_true rfl ?_
    refine wp_exit ?_
    (try simp only [ls0, ls1])
    refine hK2551 _ _ ?_
    (try clear hK2551 K2551)
    refine wl_region ?_
    refine mv_ rfl ?_
    refine st (.int .i64 (wrap64 (x2535 + 1))) rfl rfl (xr_bin _ _ _ rfl rfl rfl (B.add_i64 _ _)) ?_
    refine as_ rfl ?_
    refine wl_end ?_
    (try simp only [ls0, ls1])
    exact jmpL (fun a_ h_ => ih2544 k2547 (by omega) a_ _ h_) (fun g_ => ⟨_, wrap64 (x2535 + 1), g_, rfl, HS2542, (by omega), HJ2536, HJ2537, HJ2538, H⟩) rfl
   rw [if_neg c2550] at H
   (try rw [(decide_eq_false c2550)])
   refine wp_cond_false rfl ?_
   refine wp_exit ?_
   (try simp only [ls0, ls1])
   refine hK1531 _ _ ?_
   (try clear hK1531 K1531)
   refine wp_seq_k fun K3048 hK3048 => ?_
   refine wl_region ?_
   refine st (.int .i64 (-1)) rfl rfl (xr_assign _ rfl rfl) ?_
   refine wl_end ?_
   (try simp only [ls0, ls1])
   refine hK3048 _ _ ?_
   (try clear hK3048 K3048)
   refine wp_ret ?_
   (try simp only [Exit.inBlock, Exit.then, Exit.noGoto])
   (try simp only [ls0, ls1])
   obtain rfl := Option.some.inj H
   refine bodyPost_ret (results_tmp rfl _ _ _) rfl ?_
   exact ⟨_, rfl, HS2542⟩

/-! ### blazonref14_Meet: function 61 -/
mutual
def blazonref14_Meet.l0 : Nat → Int → Int → (List ByteArray) → (List (List Bool)) → Int → Bool → Int → Option (Int)
  | 0, _, _, _, _, _, _, _ => none
  | k + 1, a1, a2, l0_0, l0_1, x2527, x2948, x2949 => if x2949 < (l0_0.length : Int) then (if 0 ≤ x2949 then (if x2949 < (l0_1.length : Int) then (if 0 ≤ a1 then (if a1 < ((rd_L10 l0_1 x2949).length : Int) then (if rdOf false (rd_L10 l0_1 x2949) a1 = true then (if 0 ≤ a2 then (if a2 < ((rd_L10 l0_1 x2949).length : Int) then (if rdOf false (rd_L10 l0_1 x2949) a2 = true then (if 0 ≤ x2527 then (if x2527 < ((rd_L10 l0_1 x2949).length : Int) then (if rdOf false (rd_L10 l0_1 x2949) x2527 = true then (blazonref14_Meet.l0 k a1 a2 l0_0 l0_1 x2527 x2948 (wrap64 (x2949 + 1))) else (blazonref14_Meet.l0 k a1 a2 l0_0 l0_1 x2527 false (wrap64 (x2949 + 1)))) else (none)) else (none)) else (blazonref14_Meet.l0 k a1 a2 l0_0 l0_1 x2527 x2948 (wrap64 (x2949 + 1)))) else (none)) else (none)) else (blazonref14_Meet.l0 k a1 a2 l0_0 l0_1 x2527 x2948 (wrap64 (x2949 + 1)))) else (none)) else (none)) else (none)) else (none)) else (if x2948 = true then (some x2527) else (blazonref14_Meet.l1 k a1 a2 l0_0 l0_1 (wrap64 (x2527 + 1))))
def blazonref14_Meet.l1 : Nat → Int → Int → (List ByteArray) → (List (List Bool)) → Int → Option (Int)
  | 0, _, _, _, _, _ => none
  | k + 1, a1, a2, l0_0, l0_1, x2527 => if x2527 < (l0_0.length : Int) then (if 0 ≤ x2527 then (if x2527 < (l0_1.length : Int) then (if 0 ≤ a1 then (if a1 < ((rd_L10 l0_1 x2527).length : Int) then (if rdOf false (rd_L10 l0_1 x2527) a1 = true then (if 0 ≤ a2 then (if a2 < ((rd_L10 l0_1 x2527).length : Int) then (if rdOf false (rd_L10 l0_1 x2527) a2 = true then (blazonref14_Meet.l0 k a1 a2 l0_0 l0_1 x2527 true 0) else (blazonref14_Meet.l1 k a1 a2 l0_0 l0_1 (wrap64 (x2527 + 1)))) else (none)) else (none)) else (blazonref14_Meet.l1 k a1 a2 l0_0 l0_1 (wrap64 (x2527 + 1)))) else (none)) else (none)) else (none)) else (none)) else (some (-1))
end
def blazonref14_Meet.f (k : Nat) (l0_0 : List ByteArray) (l0_1 : List (List Bool)) (a1 : Int) (a2 : Int) : Option (Int) := blazonref14_Meet.l1 k a1 a2 l0_0 l0_1 0

set_option maxHeartbeats 2000000 in
set_option maxRecDepth 100000 in
theorem blazonref14_Meet.calls (k : Nat) (A0_0 : Option Addr) (c0_0 : Nat) (l0_0 : List ByteArray) (A0_1 : Option Addr) (c0_1 : Nat) (l0_1 : List (List Bool)) (a1 : Int) (a2 : Int) (r : Int) (c : Nat → Nat) (w : World) (hc : ∀ k, c k < 10) (HP0_0 : Ft c [0] w (fun w_ => Kd.string.C w_ A0_0 l0_0.length l0_0)) (HCP0_0 : l0_0.length ≤ c0_0) (HP0_1 : Ft c [0] w (fun w_ => (Kd.slice 4 Kd.bool).C w_ A0_1 l0_1.length l0_1)) (HCP0_1 : l0_1.length ≤ c0_1) (H : blazonref14_Meet.f k l0_0 l0_1 a1 a2 = some r) :
    Calls Tryd.prog 61 #[.agg #[.slice A0_0 l0_0.length c0_0, .slice A0_1 l0_1.length c0_1], .int .i64 a1, .int .i64 a2] w fun e w' => ∃ (c' : Nat → Nat) , e = .returned (.int .i64 r) ∧ Step c w c' w' [] := by
 unfold blazonref14_Meet.f at H
 have HS := Step.refl c w []
 go_enter Tryd.func61, Tryd.ntmps61
 refine wp_seq_k fun K1515 hK1515 => ?_
 refine wl_region ?_
 refine bx_new (C := c) 33 ([.slice A0_0 l0_0.length c0_0, .slice A0_1 l0_1.length c0_1]) 11 rfl rfl (by first | (go_simp; done) | (go_simp; rfl)) ?_
 intro g1516 w1517 C1518 HX1519 hs1520
 replace HP0_0 := HP0_0.thru hs1520 rfl
 replace HP0_1 := HP0_1.thru hs1520 rfl
 replace HS := HS.trans hs1520 hc rfl
 (try simp only [ls0, ls1])
 refine st (.int .i64 0) rfl rfl (xr_assign _ rfl rfl) ?_
 refine wl_end ?_
 (try simp only [ls0, ls1])
 refine hK1515 _ _ ?_
 (try clear hK1515 K1515)
 refine wp_seq_k fun K1521 hK1521 => ?_
 refine wp_seq_k fun K1522 hK1522 => ?_
 refine wl_region ?_
 refine st (.int .i64 0) rfl rfl (xr_assign _ rfl rfl) ?_
 refine wl_end ?_
 (try simp only [ls0, ls1])
 refine hK1522 _ _ ?_
 (try clear hK1522 K1522)
 refine wp_block ?_
 (try simp only [ls0, ls1])
 refine wp_looped (looped_fin (fun kq2533 a_ w2532 => ∃ (C2531 : Nat → Nat) (x2527 : Int) (g_ : Nat → Value), a_ = ⟨#[(g_ 0), .int .i64 a1, .int .i64 a2, .pointer (some ⟨g1516, 0, none⟩), (g_ 4), (g_ 5), (g_ 6), .int .i64 x2527, (g_ 8), (g_ 9), (g_ 10), (g_ 11), (g_ 12), (g_ 13), (g_ 14), (g_ 15), (g_ 16), (g_ 17), (g_ 18), (g_ 19), (g_ 20), (g_ 21), (g_ 22), (g_ 23), (g_ 24), (g_ 25), (g_ 26), (g_ 27), (g_ 28), (g_ 29), (g_ 30), (g_ 31), (g_ 32), (g_ 33), (g_ 34), (g_ 35), (g_ 36), (g_ 37), (g_ 38), (g_ 39), (g_ 40), (g_ 41), (g_ 42), (g_ 43), (g_ 44), (g_ 45), (g_ 46), (g_ 47), (g_ 48), (g_ 49), (g_ 50), (g_ 51), (g_ 52), (g_ 53), (g_ 54), (g_ 55), (g_ 56), (g_ 57), (g_ 58), (g_ 59), (g_ 60), (g_ 61), (g_ 62), (g_ 63), (g_ 64), (g_ 65), (g_ 66), (g_ 67), (g_ 68), (g_ 69), (g_ 70), (g_ 71), (g_ 72), (g_ 73), (g_ 74)], []⟩ ∧ Step c w C2531 w2532 [] ∧ kq2533 ≤ k ∧ (Ft C2531 [0] w2532 (fun w_ => Kd.string.C w_ A0_0 l0_0.length l0_0)) ∧ (Ft C2531 [0] w2532 (fun w_ => (Kd.slice 4 Kd.bool).C w_ A0_1 l0_1.length l0_1)) ∧ (Bx C2531 11 w2532 g1516 33 ([.slice A0_0 l0_0.length c0_0, .slice A0_1 l0_1.length c0_1])) ∧ blazonref14_Meet.l1 kq2533 a1 a2 l0_0 l0_1 x2527 = some r) ?step fun hL_ => ?init)
 case init =>
  exact jmpL (fun a_ h_ => hL_ k a_ _ h_) (fun g_ => ⟨_, 0, g_, rfl, HS, Nat.le_refl _, HP0_0, HP0_1, HX1519, H⟩) rfl
 case step =>
  intro kq2533 ih2536 a2537 w2532 hr2538
  obtain ⟨C2531, x2527, g_, rfl, HS2534, hk2535, HJ2528, HJ2529, HJ2530, H⟩ := hr2538
  refine looped_round ?_
  cases kq2533 with
  | zero => exact absurd H (by simp [blazonref14_Meet.l1])
  | succ k2539 =>
   simp only [blazonref14_Meet.l1] at H
   refine wp_seq_k fun K2540 hK2540 => ?_
   refine wp_seq_k fun K2541 hK2541 => ?_
   refine wl_region ?_
   refine mv_ rfl ?_
   refine st (.pointer (some ⟨g1516, 0, none⟩)) rfl rfl (xr_fieldAddr _ _ rfl rfl (bx_field2 Tryd.underlying33 rfl rfl (by kernel_rfl))) ?_
   refine st (.slice A0_0 l0_0.length c0_0) rfl rfl (xr_load _ _ rfl rfl (load_cell Tryd.underlying30 rfl (bx_cell (HJ2530).2 0 rfl))) ?_
   refine st (.int .i64 (l0_0.length : Int)) rfl rfl (xr_builtin #[.slice A0_0 l0_0.length c0_0] (.int .i64 (l0_0.length : Int)) rfl (mp_ rfl) (by first | rfl | (go_simp; done) | (go_simp; rfl) | (go_simp; exact i64_w _) | (go_simp; exact i32_w _))) ?_
   simp only [ls0, ls1]
   refine st (.bool (decide (x2527 < (l0_0.length : Int)))) rfl rfl (xr_bin _ _ _ rfl rfl rfl (B.lss_i64 _ _)) ?_
   refine wl_end ?_
   (try simp only [ls0, ls1])
   refine hK2541 _ _ ?_
   (try clear hK2541 K2541)
   by_cases c2542 : x2527 < (l0_0.length : Int)
   ·rw [if_pos c2542] at H
    (try rw [(decide_eq_true c2542)])
    refine wp_cond_true rfl ?_
    refine wp_skip ?_
    (try simp only [ls0, ls1])
    refine hK2540 _ _ ?_
    (try clear hK2540 K2540)
    refine wp_seq_k fun K2543 hK2543 => ?_
    refine wp_block ?_
    refine wp_seq_k fun K2544 hK2544 => ?_
    refine wp_seq_k fun K2585 hK2585 => ?_
    refine wl_region ?_
    refine st (.pointer (some ⟨g1516, 1, none⟩)) rfl rfl (xr_fieldAddr _ _ rfl rfl (bx_field2 Tryd.underlying33 rfl rfl (by kernel_rfl))) ?_
    refine st (.slice A0_1 l0_1.length c0_1) rfl rfl (xr_load _ _ rfl rfl (load_cell Tryd.underlying31 rfl (bx_cell (HJ2530).2 1 rfl))) ?_
    simp only [ls0, ls1]
    refine mv_ rfl ?_
    obtain ⟨c2605, H⟩ := if_some H
    obtain ⟨c2606, H⟩ := if_some H
    obtain ⟨ad2607, hA2608⟩ := c_addr (Ft.now HJ2529) (pos_of (j := x2527) (by first | assumption | decide) (by first | assumption | omega))
    refine st (.pointer (some (ad2607.add ((x2527 : Int).toNat * 1)))) rfl rfl (xr_indexAddr _ _ _ rfl rfl rfl (index_at Tryd.underlying31 info74 hA2608 (by first | assumption | decide | omega) (by first | assumption | decide | omega))) ?_
    obtain ⟨csq2610, _, hKq2610, hcq2610, hinq2610⟩ := Ft.elem HJ2529 hA2608 [] x2527 (by first | assumption | decide | omega) (by first | assumption | decide | omega) (by decide)
    obtain ⟨Aq2610_0, cpq2610_0, rfl, HCq2610_0, HRq2610_0⟩ := slice_openF hKq2610
    replace HRq2610_0 : Ft C2531 [0] w2532 (fun w_ => Kd.bool.C w_ Aq2610_0 (rd_L10 l0_1 x2527).length (rd_L10 l0_1 x2527)) := HRq2610_0
    refine st (.slice Aq2610_0 (rd_L10 l0_1 x2527).length cpq2610_0) rfl rfl (xr_load (.pointer (some (ad2607.add ((x2527 : Int).toNat * 1)))) (.slice Aq2610_0 (rd_L10 l0_1 x2527).length cpq2610_0) rfl rfl (load_cell Tryd.underlying74 rfl (by have h_ := (hcq2610 0 _ rfl); rw [add_zero_] at h_; exact h_))) ?_
    refine mv_ rfl ?_
    simp only [ls0, ls1]
    obtain ⟨c2611, H⟩ := if_some H
    obtain ⟨c2612, H⟩ := if_some H
    obtain ⟨ad2613, hA2614⟩ := c_addr (Ft.now HRq2610_0) (pos_of (j := a1) (by first | assumption | decide) (by first | assumption | omega))
    refine st (.pointer (some (ad2613.add ((a1 : Int).toNat * 1)))) rfl rfl (xr_indexAddr _ _ _ rfl rfl rfl (index_at Tryd.underlying74 info4 hA2614 (by first | assumption | decide | omega) (by first | assumption | decide | omega))) ?_
    refine st (.bool (rdOf false (rd_L10 l0_1 x2527) a1)) rfl rfl (xr_load _ _ rfl rfl (load_bool Tryd.underlying4 rfl hA2614 (Ft.now HRq2610_0) (by first | assumption | decide | omega) (by first | assumption | decide | omega))) ?_
    refine st (.bool (!(rdOf false (rd_L10 l0_1 x2527) a1))) rfl rfl (xr_un (.bool (rdOf false (rd_L10 l0_1 x2527) a1)) _ rfl rfl (by first | rfl | (go_simp; done) | (go_simp; rfl) | (go_simp; exact i64_w _) | (go_simp; exact i32_w _))) ?_
    refine mv_ rfl ?_
    simp only [ls0, ls1]
    by_cases c2615 : rdOf false (rd_L10 l0_1 x2527) a1 = true
    ·rw [if_pos c2615] at H
     (try rw [c2615])
     (try simp only [Bool.not_true, Bool.not_false])
     refine on_guard (guard_on 9 false 26 rfl rfl rfl) ?_
     refine st (.pointer (some ⟨g1516, 1, none⟩)) rfl rfl (xr_fieldAddr _ _ rfl rfl (bx_field2 Tryd.underlying33 rfl rfl (by kernel_rfl))) ?_
     refine on_guard (guard_on 9 false 26 rfl rfl rfl) ?_
     refine st (.slice A0_1 l0_1.length c0_1) rfl rfl (xr_load _ _ rfl rfl (load_cell Tryd.underlying31 rfl (bx_cell (HJ2530).2 1 rfl))) ?_
     refine on_guard (guard_on 9 false 26 rfl rfl rfl) ?_
     refine mv_ rfl ?_
     refine on_guard (guard_on 9 false 26 rfl rfl rfl) ?_
     obtain ⟨ad2616, hA2617⟩ := c_addr (Ft.now HJ2529) (pos_of (j := x2527) (by first | assumption | decide) (by first | assumption | omega))
     refine st (.pointer (some (ad2616.add ((x2527 : Int).toNat * 1)))) rfl rfl (xr_indexAddr _ _ _ rfl rfl rfl (index_at Tryd.underlying31 info74 hA2617 (by first | assumption | decide | omega) (by first | assumption | decide | omega))) ?_
     simp only [ls0, ls1]
     refine on_guard (guard_on 9 false 26 rfl rfl rfl) ?_
     obtain ⟨csq2619, _, hKq2619, hcq2619, hinq2619⟩ := Ft.elem HJ2529 hA2617 [] x2527 (by first | assumption | decide | omega) (by first | assumption | decide | omega) (by decide)
     obtain ⟨Aq2619_0, cpq2619_0, rfl, HCq2619_0, HRq2619_0⟩ := slice_openF hKq2619
     replace HRq2619_0 : Ft C2531 [0] w2532 (fun w_ => Kd.bool.C w_ Aq2619_0 (rd_L10 l0_1 x2527).length (rd_L10 l0_1 x2527)) := HRq2619_0
     refine st (.slice Aq2619_0 (rd_L10 l0_1 x2527).length cpq2619_0) rfl rfl (xr_load (.pointer (some (ad2616.add ((x2527 : Int).toNat * 1)))) (.slice Aq2619_0 (rd_L10 l0_1 x2527).length cpq2619_0) rfl rfl (load_cell Tryd.underlying74 rfl (by have h_ := (hcq2619 0 _ rfl); rw [add_zero_] at h_; exact h_))) ?_
     refine on_guard (guard_on 9 false 26 rfl rfl rfl) ?_
     refine mv_ rfl ?_
     refine on_guard (guard_on 9 false 26 rfl rfl rfl) ?_
     obtain ⟨c2620, H⟩ := if_some H
     obtain ⟨c2621, H⟩ := if_some H
     obtain ⟨ad2622, hA2623⟩ := c_addr (Ft.now HRq2619_0) (pos_of (j := a2) (by first | assumption | decide) (by first | assumption | omega))
     refine st (.pointer (some (ad2622.add ((a2 : Int).toNat * 1)))) rfl rfl (xr_indexAddr _ _ _ rfl rfl rfl (index_at Tryd.underlying74 info4 hA2623 (by first | assumption | decide | omega) (by first | assumption | decide | omega))) ?_
     refine on_guard (guard_on 9 false 26 rfl rfl rfl) ?_
     refine st (.bool (rdOf false (rd_L10 l0_1 x2527) a2)) rfl rfl (xr_load _ _ rfl rfl (load_bool Tryd.underlying4 rfl hA2623 (Ft.now HRq2619_0) (by first | assumption | decide | omega) (by first | assumption | decide | omega))) ?_
     simp only [ls0, ls1]
     refine on_guard (guard_on 9 false 26 rfl rfl rfl) ?_
     refine st (.bool (!(rdOf false (rd_L10 l0_1 x2527) a2))) rfl rfl (xr_un (.bool (rdOf false (rd_L10 l0_1 x2527) a2)) _ rfl rfl (by first | rfl | (go_simp; done) | (go_simp; rfl) | (go_simp; exact i64_w _) | (go_simp; exact i32_w _))) ?_
     refine st (.bool (!(rdOf false (rd_L10 l0_1 x2527) a2))) rfl rfl (xr_pick false _ rfl rfl rfl) ?_
     refine wl_end ?_
     (try simp only [ls0, ls1])
     refine hK2585 _ _ ?_
     (try clear hK2585 K2585)
     by_cases c2624 : rdOf false (rd_L10 l0_1 x2527) a2 = true
     ·rw [if_pos c2624] at H
      (try rw [c2624])
      (try simp only [Bool.not_true, Bool.not_false])
      refine wp_cond_false rfl ?_
      refine wp_skip ?_
      (try simp only [ls0, ls1])
      refine hK2544 _ _ ?_
      (try clear hK2544 K2544)
      refine wp_seq_k fun K2625 hK2625 => ?_
      refine wl_region ?_
      refine st (.bool true) rfl rfl (xr_assign _ rfl rfl) ?_
      refine wl_end ?_
      (try simp only [ls0, ls1])
      refine hK2625 _ _ ?_
      (try clear hK2625 K2625)
      refine wp_seq_k fun K2626 hK2626 => ?_
      refine wp_seq_k fun K2826 hK2826 => ?_
      refine wl_region ?_
      refine st (.int .i64 0) rfl rfl (xr_assign _ rfl rfl) ?_
      refine wl_end ?_
      (try simp only [ls0, ls1])
      refine hK2826 _ _ ?_
      (try clear hK2826 K2826)
      refine wp_block ?_
      (try simp only [ls0, ls1])
      refine wp_looped (looped_fin (fun kq2956 a_ w2955 => ∃ (C2954 : Nat → Nat) (x2948 : Bool) (x2949 : Int) (g_ : Nat → Value), a_ = ⟨#[(g_ 0), .int .i64 a1, .int .i64 a2, .pointer (some ⟨g1516, 0, none⟩), (g_ 4), (g_ 5), (g_ 6), .int .i64 x2527, .bool x2948, .int .i64 x2949, (g_ 10), (g_ 11), (g_ 12), (g_ 13), (g_ 14), (g_ 15), (g_ 16), (g_ 17), (g_ 18), (g_ 19), (g_ 20), (g_ 21), (g_ 22), (g_ 23), (g_ 24), (g_ 25), (g_ 26), .pointer (some ⟨g1516, 1, none⟩), .slice A0_1 l0_1.length c0_1, .int .i64 x2527, (g_ 30), .slice Aq2619_0 (rd_L10 l0_1 x2527).length cpq2619_0, .int .i64 a2, (g_ 33), .bool true, .bool false, (g_ 36), (g_ 37), (g_ 38), (g_ 39), (g_ 40), (g_ 41), (g_ 42), (g_ 43), (g_ 44), (g_ 45), (g_ 46), (g_ 47), (g_ 48), (g_ 49), (g_ 50), (g_ 51), (g_ 52), (g_ 53), (g_ 54), (g_ 55), (g_ 56), (g_ 57), (g_ 58), (g_ 59), (g_ 60), (g_ 61), (g_ 62), (g_ 63), (g_ 64), (g_ 65), (g_ 66), (g_ 67), (g_ 68), (g_ 69), (g_ 70), (g_ 71), (g_ 72), (g_ 73), (g_ 74)], []⟩ ∧ Step c w C2954 w2955 [] ∧ kq2956 ≤ k2539 ∧ (Ft C2954 [0] w2955 (fun w_ => (Kd.slice 4 Kd.bool).C w_ A0_1 l0_1.length l0_1)) ∧ (Ft C2954 [0] w2955 (fun w_ => Kd.bool.C w_ Aq2619_0 ((rd_L10 l0_1 x2527).length) (rd_L10 l0_1 x2527))) ∧ (Ft C2954 [0] w2955 (fun w_ => Kd.string.C w_ A0_0 l0_0.length l0_0)) ∧ (Bx C2954 11 w2955 g1516 33 ([.slice A0_0 l0_0.length c0_0, .slice A0_1 l0_1.length c0_1])) ∧ blazonref14_Meet.l0 kq2956 a1 a2 l0_0 l0_1 x2527 x2948 x2949 = some r) ?step fun hL_ => ?init)
      case init =>
       exact jmpL (fun a_ h_ => hL_ k2539 a_ _ h_) (fun g_ => ⟨_, true, 0, g_, rfl, HS2534, Nat.le_refl _, HJ2529, HRq2619_0, HJ2528, HJ2530, H⟩) rfl
      case step =>
       intro kq2956 ih2959 a2960 w2955 hr2961
       obtain ⟨C2954, x2948, x2949, g_, rfl, HS2957, hk2958, HJ2950, HJ2951, HJ2952, HJ2953, H⟩ := hr2961
       refine looped_round ?_
       cases kq2956 with
       | zero => exact absurd H (by simp [blazonref14_Meet.l0])
       | succ k2962 =>
        simp only [blazonref14_Meet.l0] at H
        refine wp_seq_k fun K2963 hK2963 => ?_
        refine wp_seq_k fun K2964 hK2964 => ?_
        refine wl_region ?_
        refine mv_ rfl ?_
        refine st (.pointer (some ⟨g1516, 0, none⟩)) rfl rfl (xr_fieldAddr _ _ rfl rfl (bx_field2 Tryd.underlying33 rfl rfl (by kernel_rfl))) ?_
        refine st (.slice A0_0 l0_0.length c0_0) rfl rfl (xr_load _ _ rfl rfl (load_cell Tryd.underlying30 rfl (bx_cell (HJ2953).2 0 rfl))) ?_
        refine st (.int .i64 (l0_0.length : Int)) rfl rfl (xr_builtin #[.slice A0_0 l0_0.length c0_0] (.int .i64 (l0_0.length : Int)) rfl (mp_ rfl) (by first | rfl | (go_simp; done) | (go_simp; rfl) | (go_simp; exact i64_w _) | (go_simp; exact i32_w _))) ?_
        simp only [ls0, ls1]
        refine st (.bool (decide (x2949 < (l0_0.length : Int)))) rfl rfl (xr_bin _ _ _ rfl rfl rfl (B.lss_i64 _ _)) ?_
        refine wl_end ?_
        (try simp only [ls0, ls1])
        refine hK2964 _ _ ?_
        (try clear hK2964 K2964)
        by_cases c2965 : x2949 < (l0_0.length : Int)
        ·rw [if_pos c2965] at H
         (try rw [(decide_eq_true c2965)])
         refine wp_cond_true rfl ?_
         refine wp_skip ?_
         (try simp only [ls0, ls1])
         refine hK2963 _ _ ?_
         (try clear hK2963 K2963)
         refine wp_seq_k fun K2966 hK2966 => ?_
         refine wp_block ?_
         refine wp_seq_k fun K2967 hK2967 => ?_
         refine wl_region ?_
         refine st (.pointer (some ⟨g1516, 1, none⟩)) rfl rfl (xr_fieldAddr _ _ rfl rfl (bx_field2 Tryd.underlying33 rfl rfl (by kernel_rfl))) ?_
         simp only [ls0, ls1]
         refine st (.slice A0_1 l0_1.length c0_1) rfl rfl (xr_load _ _ rfl rfl (load_cell Tryd.underlying31 rfl (bx_cell (HJ2953).2 1 rfl))) ?_
         refine mv_ rfl ?_
         obtain ⟨c2996, H⟩ := if_some H
         obtain ⟨c2997, H⟩ := if_some H
         obtain ⟨ad2998, hA2999⟩ := c_addr (Ft.now HJ2950) (pos_of (j := x2949) (by first | assumption | decide) (by first | assumption | omega))
         refine st (.pointer (some (ad2998.add ((x2949 : Int).toNat * 1)))) rfl rfl (xr_indexAddr _ _ _ rfl rfl rfl (index_at Tryd.underlying31 info74 hA2999 (by first | assumption | decide | omega) (by first | assumption | decide | omega))) ?_
         obtain ⟨csq3001, _, hKq3001, hcq3001, hinq3001⟩ := Ft.elem HJ2950 hA2999 [] x2949 (by first | assumption | decide | omega) (by first | assumption | decide | omega) (by decide)
         obtain ⟨Aq3001_0, cpq3001_0, rfl, HCq3001_0, HRq3001_0⟩ := slice_openF hKq3001
         replace HRq3001_0 : Ft C2954 [0] w2955 (fun w_ => Kd.bool.C w_ Aq3001_0 (rd_L10 l0_1 x2949).length (rd_L10 l0_1 x2949)) := HRq3001_0
         refine st (.slice Aq3001_0 (rd_L10 l0_1 x2949).length cpq3001_0) rfl rfl (xr_load (.pointer (some (ad2998.add ((x2949 : Int).toNat * 1)))) (.slice Aq3001_0 (rd_L10 l0_1 x2949).length cpq3001_0) rfl rfl (load_cell Tryd.underlying74 rfl (by have h_ := (hcq3001 0 _ rfl); rw [add_zero_] at h_; exact h_))) ?_
         simp only [ls0, ls1]
         refine mv_ rfl ?_
         obtain ⟨c3002, H⟩ := if_some H
         obtain ⟨c3003, H⟩ := if_some H
         obtain ⟨ad3004, hA3005⟩ := c_addr (Ft.now HRq3001_0) (pos_of (j := a1) (by first | assumption | decide) (by first | assumption | omega))
         refine st (.pointer (some (ad3004.add ((a1 : Int).toNat * 1)))) rfl rfl (xr_indexAddr _ _ _ rfl rfl rfl (index_at Tryd.underlying74 info4 hA3005 (by first | assumption | decide | omega) (by first | assumption | decide | omega))) ?_
         refine st (.bool (rdOf false (rd_L10 l0_1 x2949) a1)) rfl rfl (xr_load _ _ rfl rfl (load_bool Tryd.underlying4 rfl hA3005 (Ft.now HRq3001_0) (by first | assumption | decide | omega) (by first | assumption | decide | omega))) ?_
         refine mv_ rfl ?_
         simp only [ls0, ls1]
         by_cases c3006 : rdOf false (rd_L10 l0_1 x2949) a1 = true
         ·rw [if_pos c3006] at H
          (try rw [c3006])
          refine on_guard (guard_on 8 true 52 rfl rfl rfl) ?_
          refine st (.pointer (some ⟨g1516, 1, none⟩)) rfl rfl (xr_fieldAddr _ _ rfl rfl (bx_field2 Tryd.underlying33 rfl rfl (by kernel_rfl))) ?_
          refine on_guard (guard_on 8 true 52 rfl rfl rfl) ?_
          refine st (.slice A0_1 l0_1.length c0_1) rfl rfl (xr_load _ _ rfl rfl (load_cell Tryd.underlying31 rfl (bx_cell (HJ2953).2 1 rfl))) ?_
          refine on_guard (guard_on 8 true 52 rfl rfl rfl) ?_
          refine mv_ rfl ?_
          refine on_guard (guard_on 8 true 52 rfl rfl rfl) ?_
          obtain ⟨ad3007, hA3008⟩ := c_addr (Ft.now HJ2950) (pos_of (j := x2949) (by first | assumption | decide) (by first | assumption | omega))
          refine st (.pointer (some (ad3007.add ((x2949 : Int).toNat * 1)))) rfl rfl (xr_indexAddr _ _ _ rfl rfl rfl (index_at Tryd.underlying31 info74 hA3008 (by first | assumption | decide | omega) (by first | assumption | decide | omega))) ?_
          simp only [ls0, ls1]
          refine on_guard (guard_on 8 true 52 rfl rfl rfl) ?_
          obtain ⟨csq3010, _, hKq3010, hcq3010, hinq3010⟩ := Ft.elem HJ2950 hA3008 [] x2949 (by first | assumption | decide | omega) (by first | assumption | decide | omega) (by decide)
          obtain ⟨Aq3010_0, cpq3010_0, rfl, HCq3010_0, HRq3010_0⟩ := slice_openF hKq3010
          replace HRq3010_0 : Ft C2954 [0] w2955 (fun w_ => Kd.bool.C w_ Aq3010_0 (rd_L10 l0_1 x2949).length (rd_L10 l0_1 x2949)) := HRq3010_0
          refine st (.slice Aq3010_0 (rd_L10 l0_1 x2949).length cpq3010_0) rfl rfl (xr_load (.pointer (some (ad3007.add ((x2949 : Int).toNat * 1)))) (.slice Aq3010_0 (rd_L10 l0_1 x2949).length cpq3010_0) rfl rfl (load_cell Tryd.underlying74 rfl (by have h_ := (hcq3010 0 _ rfl); rw [add_zero_] at h_; exact h_))) ?_
          refine on_guard (guard_on 8 true 52 rfl rfl rfl) ?_
          refine mv_ rfl ?_
          refine on_guard (guard_on 8 true 52 rfl rfl rfl) ?_
          obtain ⟨c3011, H⟩ := if_some H
          obtain ⟨c3012, H⟩ := if_some H
          obtain ⟨ad3013, hA3014⟩ := c_addr (Ft.now HRq3010_0) (pos_of (j := a2) (by first | assumption | decide) (by first | assumption | omega))
          refine st (.pointer (some (ad3013.add ((a2 : Int).toNat * 1)))) rfl rfl (xr_indexAddr _ _ _ rfl rfl rfl (index_at Tryd.underlying74 info4 hA3014 (by first | assumption | decide | omega) (by first | assumption | decide | omega))) ?_
          refine on_guard (guard_on 8 true 52 rfl rfl rfl) ?_
          refine st (.bool (rdOf false (rd_L10 l0_1 x2949) a2)) rfl rfl (xr_load _ _ rfl rfl (load_bool Tryd.underlying4 rfl hA3014 (Ft.now HRq3010_0) (by first | assumption | decide | omega) (by first | assumption | decide | omega))) ?_
          simp only [ls0, ls1]
          refine st (.bool (rdOf false (rd_L10 l0_1 x2949) a2)) rfl rfl (xr_pick true _ rfl rfl rfl) ?_
          refine mv_ rfl ?_
          by_cases c3015 : rdOf false (rd_L10 l0_1 x2949) a2 = true
          ·rw [if_pos c3015] at H
           (try rw [c3015])
           refine on_guard (guard_on 18 true 62 rfl rfl rfl) ?_
           refine st (.pointer (some ⟨g1516, 1, none⟩)) rfl rfl (xr_fieldAddr _ _ rfl rfl (bx_field2 Tryd.underlying33 rfl rfl (by kernel_rfl))) ?_
           refine on_guard (guard_on 18 true 62 rfl rfl rfl) ?_
           refine st (.slice A0_1 l0_1.length c0_1) rfl rfl (xr_load _ _ rfl rfl (load_cell Tryd.underlying31 rfl (bx_cell (HJ2953).2 1 rfl))) ?_
           simp only [ls0, ls1]
           refine on_guard (guard_on 18 true 62 rfl rfl rfl) ?_
           refine mv_ rfl ?_
           refine on_guard (guard_on 18 true 62 rfl rfl rfl) ?_
           obtain ⟨ad3016, hA3017⟩ := c_addr (Ft.now HJ2950) (pos_of (j := x2949) (by first | assumption | decide) (by first | assumption | omega))
           refine st (.pointer (some (ad3016.add ((x2949 : Int).toNat * 1)))) rfl rfl (xr_indexAddr _ _ _ rfl rfl rfl (index_at Tryd.underlying31 info74 hA3017 (by first | assumption | decide | omega) (by first | assumption | decide | omega))) ?_
           refine on_guard (guard_on 18 true 62 rfl rfl rfl) ?_
           obtain ⟨csq3019, _, hKq3019, hcq3019, hinq3019⟩ := Ft.elem HJ2950 hA3017 [] x2949 (by first | assumption | decide | omega) (by first | assumption | decide | omega) (by decide)
           obtain ⟨Aq3019_0, cpq3019_0, rfl, HCq3019_0, HRq3019_0⟩ := slice_openF hKq3019
           replace HRq3019_0 : Ft C2954 [0] w2955 (fun w_ => Kd.bool.C w_ Aq3019_0 (rd_L10 l0_1 x2949).length (rd_L10 l0_1 x2949)) := HRq3019_0
           refine st (.slice Aq3019_0 (rd_L10 l0_1 x2949).length cpq3019_0) rfl rfl (xr_load (.pointer (some (ad3016.add ((x2949 : Int).toNat * 1)))) (.slice Aq3019_0 (rd_L10 l0_1 x2949).length cpq3019_0) rfl rfl (load_cell Tryd.underlying74 rfl (by have h_ := (hcq3019 0 _ rfl); rw [add_zero_] at h_; exact h_))) ?_
           refine on_guard (guard_on 18 true 62 rfl rfl rfl) ?_
           refine mv_ rfl ?_
           simp only [ls0, ls1]
           refine on_guard (guard_on 18 true 62 rfl rfl rfl) ?_
           obtain ⟨c3020, H⟩ := if_some H
           obtain ⟨c3021, H⟩ := if_some H
           obtain ⟨ad3022, hA3023⟩ := c_addr (Ft.now HRq3019_0) (pos_of (j := x2527) (by first | assumption | decide) (by first | assumption | omega))
           refine st (.pointer (some (ad3022.add ((x2527 : Int).toNat * 1)))) rfl rfl (xr_indexAddr _ _ _ rfl rfl rfl (index_at Tryd.underlying74 info4 hA3023 (by first | assumption | decide | omega) (by first | assumption | decide | omega))) ?_
           refine on_guard (guard_on 18 true 62 rfl rfl rfl) ?_
           refine st (.bool (rdOf false (rd_L10 l0_1 x2949) x2527)) rfl rfl (xr_load _ _ rfl rfl (load_bool Tryd.underlying4 rfl hA3023 (Ft.now HRq3019_0) (by first | assumption | decide | omega) (by first | assumption | decide | omega))) ?_
           refine on_guard (guard_on 18 true 62 rfl rfl rfl) ?_
           refine st (.bool (!(rdOf false (rd_L10 l0_1 x2949) x2527))) rfl rfl (xr_un (.bool (rdOf false (rd_L10 l0_1 x2949) x2527)) _ rfl rfl (by first | rfl | (go_simp; done) | (go_simp; rfl) | (go_simp; exact i64_w _) | (go_simp; exact i32_w _))) ?_
           refine st (.bool (!(rdOf false (rd_L10 l0_1 x2949) x2527))) rfl rfl (xr_pick true _ rfl rfl rfl) ?_
           simp only [ls0, ls1]
           refine wl_end ?_
           (try simp only [ls0, ls1])
           refine hK2967 _ _ ?_
           (try clear hK2967 K2967)
           by_cases c3024 : rdOf false (rd_L10 l0_1 x2949) x2527 = true
           ·rw [if_pos c3024] at H
            (try rw [c3024])
            (try simp only [Bool.not_true, Bool.not_false])
            refine wp_cond_false rfl ?_
            refine wp_skip ?_
            (try simp only [ls0, ls1])
            refine hK2966 _ _ ?_
            (try clear hK2966 K2966)
            refine wl_region ?_
            refine mv_ rfl ?_
            refine st (.int .i64 (wrap64 (x2949 + 1))) rfl rfl (xr_bin _ _ _ rfl rfl rfl (B.add_i64 _ _)) ?_
            refine as_ rfl ?_
            refine wl_end ?_
            (try simp only [ls0, ls1])
            exact jmpL (fun a_ h_ => ih2959 k2962 (by omega) a_ _ h_) (fun g_ => ⟨_, x2948, wrap64 (x2949 + 1), g_, rfl, HS2957, (by omega), HJ2950, HJ2951, HJ2952, HJ2953, H⟩) rfl
           rw [if_neg c3024] at H
           (try rw [(Bool.eq_false_iff.mpr c3024)])
           (try simp only [Bool.not_true, Bool.not_false])
           refine wp_cond_true rfl ?_
           refine wl_region ?_
           refine st (.bool false) rfl rfl (xr_assign _ rfl rfl) ?_
           refine wl_end ?_
           (try simp only [ls0, ls1])
           refine hK2966 _ _ ?_
           (try clear hK2966 K2966)
           refine wl_region ?_
           refine mv_ rfl ?_
           refine st (.int .i64 (wrap64 (x2949 + 1))) rfl rfl (xr_bin _ _ _ rfl rfl rfl (B.add_i64 _ _)) ?_
           refine as_ rfl ?_
           refine wl_end ?_
           (try simp only [ls0, ls1])
           exact jmpL (fun a_ h_ => ih2959 k2962 (by omega) a_ _ h_) (fun g_ => ⟨_, false, wrap64 (x2949 + 1), g_, rfl, HS2957, (by omega), HJ2950, HJ2951, HJ2952, HJ2953, H⟩) rfl
          rw [if_neg c3015] at H
          (try rw [(Bool.eq_false_iff.mpr c3015)])
          refine sk_guard (guard_off 18 true 62 rfl rfl false (by decide) rfl) rfl ?_
          refine sk_guard (guard_off 18 true 62 rfl rfl false (by decide) rfl) rfl ?_
          refine sk_guard (guard_off 18 true 62 rfl rfl false (by decide) rfl) rfl ?_
          refine sk_guard (guard_off 18 true 62 rfl rfl false (by decide) rfl) rfl ?_
          simp only [ls0, ls1]
          refine sk_guard (guard_off 18 true 62 rfl rfl false (by decide) rfl) rfl ?_
          refine sk_guard (guard_off 18 true 62 rfl rfl false (by decide) rfl) rfl ?_
          refine sk_guard (guard_off 18 true 62 rfl rfl false (by decide) rfl) rfl ?_
          refine sk_guard (guard_off 18 true 62 rfl rfl false (by decide) rfl) rfl ?_
          simp only [ls0, ls1]
          refine sk_guard (guard_off 18 true 62 rfl rfl false (by decide) rfl) rfl ?_
          refine st (.bool false) rfl rfl (xr_pick false _ rfl rfl rfl) ?_
          refine wl_end ?_
          (try simp only [ls0, ls1])
          refine hK2967 _ _ ?_
          (try clear hK2967 K2967)
          refine wp_cond_false rfl ?_
          refine wp_skip ?_
          (try simp only [ls0, ls1])
          refine hK2966 _ _ ?_
          (try clear hK2966 K2966)
          refine wl_region ?_
          refine mv_ rfl ?_
          refine st (.int .i64 (wrap64 (x2949 + 1))) rfl rfl (xr_bin _ _ _ rfl rfl rfl (B.add_i64 _ _)) ?_
          refine as_ rfl ?_
          refine wl_end ?_
          (try simp only [ls0, ls1])
          exact jmpL (fun a_ h_ => ih2959 k2962 (by omega) a_ _ h_) (fun g_ => ⟨_, x2948, wrap64 (x2949 + 1), g_, rfl, HS2957, (by omega), HJ2950, HJ2951, HJ2952, HJ2953, H⟩) rfl
         rw [if_neg c3006] at H
         (try rw [(Bool.eq_false_iff.mpr c3006)])
         refine sk_guard (guard_off 8 true 52 rfl rfl false (by decide) rfl) rfl ?_
         refine sk_guard (guard_off 8 true 52 rfl rfl false (by decide) rfl) rfl ?_
         refine sk_guard (guard_off 8 true 52 rfl rfl false (by decide) rfl) rfl ?_
         refine sk_guard (guard_off 8 true 52 rfl rfl false (by decide) rfl) rfl ?_
         simp only [ls0, ls1]
         refine sk_guard (guard_off 8 true 52 rfl rfl false (by decide) rfl) rfl ?_
         refine sk_guard (guard_off 8 true 52 rfl rfl false (by decide) rfl) rfl ?_
         refine sk_guard (guard_off 8 true 52 rfl rfl false (by decide) rfl) rfl ?_
         refine sk_guard (guard_off 8 true 52 rfl rfl false (by decide) rfl) rfl ?_
         simp only [ls0, ls1]
         refine st (.bool false) rfl rfl (xr_pick false _ rfl rfl rfl) ?_
         refine mv_ rfl ?_
         refine sk_guard (guard_off 18 true 62 rfl rfl false (by decide) rfl) rfl ?_
         refine sk_guard (guard_off 18 true 62 rfl rfl false (by decide) rfl) rfl ?_
         simp only [ls0, ls1]
         refine sk_guard (guard_off 18 true 62 rfl rfl false (by decide) rfl) rfl ?_
         refine sk_guard (guard_off 18 true 62 rfl rfl false (by decide) rfl) rfl ?_
         refine sk_guard (guard_off 18 true 62 rfl rfl false (by decide) rfl) rfl ?_
         refine sk_guard (guard_off 18 true 62 rfl rfl false (by decide) rfl) rfl ?_
         simp only [ls0, ls1]
         refine sk_guard (guard_off 18 true 62 rfl rfl false (by decide) rfl) rfl ?_
         refine sk_guard (guard_off 18 true 62 rfl rfl false (by decide) rfl) rfl ?_
         refine sk_guard (guard_off 18 true 62 rfl rfl false (by decide) rfl) rfl ?_
         refine st (.bool false) rfl rfl (xr_pick false _ rfl rfl rfl) ?_
         simp only [ls0, ls1]
         refine wl_end ?_
         (try simp only [ls0, ls1])
         refine hK2967 _ _ ?_
         (try clear hK2967 K2967)
         refine wp_cond_false rfl ?_
         refine wp_skip ?_
         (try simp only [ls0, ls1])
         refine hK2966 _ _ ?_
         (try clear hK2966 K2966)
         refine wl_region ?_
         refine mv_ rfl ?_
         refine st (.int .i64 (wrap64 (x2949 + 1))) rfl rfl (xr_bin _ _ _ rfl rfl rfl (B.add_i64 _ _)) ?_
         refine as_ rfl ?_
         refine wl_end ?_
         (try simp only [ls0, ls1])
         exact jmpL (fun a_ h_ => ih2959 k2962 (by omega) a_ _ h_) (fun g_ => ⟨_, x2948, wrap64 (x2949 + 1), g_, rfl, HS2957, (by omega), HJ2950, HJ2951, HJ2952, HJ2953, H⟩) rfl
        rw [if_neg c2965] at H
        (try rw [(decide_eq_false c2965)])
        refine wp_cond_false rfl ?_
        refine wp_exit ?_
        (try simp only [ls0, ls1])
        refine hK2626 _ _ ?_
        (try clear hK2626 K2626)
        refine wp_seq_k fun K3025 hK3025 => ?_
        refine wl_region ?_
        refine mv_ rfl ?_
        refine wl_end ?_
        (try simp only [ls0, ls1])
        refine hK3025 _ _ ?_
        (try clear hK3025 K3025)
        by_cases c3026 : x2948 = true
        ·rw [if_pos c3026] at H
         (try rw [c3026])
         refine wp_cond_true rfl ?_
         refine wp_seq_k fun K3027 hK3027 => ?_
         refine wl_region ?_
         refine mv_ rfl ?_
         refine as_ rfl ?_
         refine wl_end ?_
         (try simp only [ls0, ls1])
         refine hK3027 _ _ ?_
         (try clear hK3027 K3027)
         refine wp_ret ?_
         (try simp only [Exit.inBlock, Exit.then, Exit.noGoto])
         (try simp only [ls0, ls1])
         obtain rfl := Option.some.inj H
         refine bodyPost_ret (results_tmp rfl _ _ _) rfl ?_
         exact ⟨_, rfl, HS2957⟩
        rw [if_neg c3026] at H
        (try rw [(Bool.eq_false_iff.mpr c3026)])
        refine wp_cond_false rfl ?_
        refine wp_skip ?_
        (try simp only [ls0, ls1])
        refine hK2543 _ _ ?_
        (try clear hK2543 K2543)
        refine wl_region ?_
        refine mv_ rfl ?_
        refine st (.int .i64 (wrap64 (x2527 + 1))) rfl rfl (xr_bin _ _ _ rfl rfl rfl (B.add_i64 _ _)) ?_
        refine as_ rfl ?_
        refine wl_end ?_
        (try simp only [ls0, ls1])
        exact jmpL (fun a_ h_ => ih2536 k2962 (by omega) a_ _ h_) (fun g_ => ⟨_, wrap64 (x2527 + 1), g_, rfl, HS2957, (by omega), HJ2952, HJ2950, HJ2953, H⟩) rfl
     rw [if_neg c2624] at H
     (try rw [(Bool.eq_false_iff.mpr c2624)])
     (try simp only [Bool.not_true, Bool.not_false])
     refine wp_cond_true rfl ?_
     refine wp_exit ?_
     (try simp only [ls0, ls1])
     refine hK2543 _ _ ?_
     (try clear hK2543 K2543)
     refine wl_region ?_
     refine mv_ rfl ?_
     refine st (.int .i64 (wrap64 (x2527 + 1))) rfl rfl (xr_bin _ _ _ rfl rfl rfl (B.add_i64 _ _)) ?_
     refine as_ rfl ?_
     refine wl_end ?_
     (try simp only [ls0, ls1])
     exact jmpL (fun a_ h_ => ih2536 k2539 (by omega) a_ _ h_) (fun g_ => ⟨_, wrap64 (x2527 + 1), g_, rfl, HS2534, (by omega), HJ2528, HJ2529, HJ2530, H⟩) rfl
    rw [if_neg c2615] at H
    (try rw [(Bool.eq_false_iff.mpr c2615)])
    (try simp only [Bool.not_true, Bool.not_false])
    refine sk_guard (guard_off 9 false 26 rfl rfl true (by decide) rfl) rfl ?_
    refine sk_guard (guard_off 9 false 26 rfl rfl true (by decide) rfl) rfl ?_
    refine sk_guard (guard_off 9 false 26 rfl rfl true (by decide) rfl) rfl ?_
    refine sk_guard (guard_off 9 false 26 rfl rfl true (by decide) rfl) rfl ?_
    simp only [ls0, ls1]
    refine sk_guard (guard_off 9 false 26 rfl rfl true (by decide) rfl) rfl ?_
    refine sk_guard (guard_off 9 false 26 rfl rfl true (by decide) rfl) rfl ?_
    refine sk_guard (guard_off 9 false 26 rfl rfl true (by decide) rfl) rfl ?_
    refine sk_guard (guard_off 9 false 26 rfl rfl true (by decide) rfl) rfl ?_
    simp only [ls0, ls1]
    refine sk_guard (guard_off 9 false 26 rfl rfl true (by decide) rfl) rfl ?_
    refine st (.bool true) rfl rfl (xr_pick true _ rfl rfl rfl) ?_
    refine wl_end ?_
    (try simp only [ls0, ls1])
    refine hK2585 _ _ ?_
    (try clear hK2585 K2585)
    refine wp_cond_true rfl ?_
    refine wp_exit ?_
    (try simp only [ls0, ls1])
    refine hK2543 _ _ ?_
    (try clear hK2543 K2543)
    refine wl_region ?_
    refine mv_ rfl ?_
    refine st (.int .i64 (wrap64 (x2527 + 1))) rfl rfl (xr_bin _ _ _ rfl rfl rfl (B.add_i64 _ _)) ?_
    refine as_ rfl ?_
    refine wl_end ?_
    (try simp only [ls0, ls1])
    exact jmpL (fun a_ h_ => ih2536 k2539 (by omega) a_ _ h_) (fun g_ => ⟨_, wrap64 (x2527 + 1), g_, rfl, HS2534, (by omega), HJ2528, HJ2529, HJ2530, H⟩) rfl
   rw [if_neg c2542] at H
   (try rw [(decide_eq_false c2542)])
   refine wp_cond_false rfl ?_
   refine wp_exit ?_
   (try simp only [ls0, ls1])
   refine hK1521 _ _ ?_
   (try clear hK1521 K1521)
   refine wp_seq_k fun K3028 hK3028 => ?_
   refine wl_region ?_
   refine st (.int .i64 (-1)) rfl rfl (xr_assign _ rfl rfl) ?_
   refine wl_end ?_
   (try simp only [ls0, ls1])
   refine hK3028 _ _ ?_
   (try clear hK3028 K3028)
   refine wp_ret ?_
   (try simp only [Exit.inBlock, Exit.then, Exit.noGoto])
   (try simp only [ls0, ls1])
   obtain rfl := Option.some.inj H
   refine bodyPost_ret (results_tmp rfl _ _ _) rfl ?_
   exact ⟨_, rfl, HS2534⟩

end Go.Proofs.YtpfepkkpbampkaaDoor.PIrn
