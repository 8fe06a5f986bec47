-- By cprint.py, a program of this work. Lean checks it.
import Derived.Test.YtpfepkkpbampkaaDoorPLnwx0
import Derived.Test.YtpfepkkpbampkaaDoorPLnwx1
namespace Go.Proofs.YtpfepkkpbampkaaDoor.PLnw
open Go.RowKit Go.Proofs.YtpfepkkpbampkaaDoorW.PrintWords Go.Proofs.YtpfepkkpbampkaaDoorW.PrintLast Go.Proofs.YtpfepkkpbampkaaDoorW.PrintMore
set_option linter.unusedVariables false
set_option linter.unusedSimpArgs false

/-! ### lattice_Lattice_Top: function 25 -/
def lattice_Lattice_Top.l0 : Nat → S107 → Int → Int → Int → Option (Int)
  | 0, _, _, _, _ => none
  | k + 1, o67, t77, x104, x105 => if x105 < t77 then (if 0 ≤ x104 then (if x104 < 64 then (if 0 ≤ x105 then (if x105 < 64 then (lattice_Lattice_Top.l0 k o67 t77 (wrap64 (List.getD o67.f2 ((x104 : Int).toNat * 64 + (x105 : Int).toNat) 0)) (wrap64 (x105 + 1))) else (none)) else (none)) else (none)) else (none)) else (some x104)
def lattice_Lattice_Top.f (k : Nat) (x0 : Option S107) : Option (Int) := onOpt x0 (some (-1)) (fun o67 => ((order_Order_Len.f o67.f0).bind fun t77 => (lattice_Lattice_Top.l0 k o67 t77 0 0)))

set_option maxHeartbeats 2000000 in
set_option maxRecDepth 100000 in
theorem lattice_Lattice_Top.calls (k : Nat) (v0 : Value) (x0 : Option S107) (r : Int) (c : Nat → Nat) (w : World) (hc : ∀ k, c k < 10) (HP0 : Ft c [0] w (fun w_ => (Kd.ptr 107 k107).K w_ x0 [v0])) (H : lattice_Lattice_Top.f k x0 = some r) :
    Calls Tryd.prog 25 #[v0] w fun e w' => ∃ (c' : Nat → Nat) , e = .returned (.int .i64 r) ∧ Step c w c' w' [] := by
 unfold lattice_Lattice_Top.f at H
 have HS := Step.refl c w []
 go_enter Tryd.func25, Tryd.ntmps25
 refine wp_seq_k fun K64 hK64 => ?_
 refine wl_region ?_
 refine st (.int .i64 0) rfl rfl (xr_assign _ rfl rfl) ?_
 refine wl_end ?_
 (try simp only [ls0, ls1])
 refine hK64 _ _ ?_
 (try clear hK64 K64)
 refine wp_seq_k fun K65 hK65 => ?_
 refine wp_seq_k fun K66 hK66 => ?_
 refine wl_region ?_
 refine mv_ rfl ?_
 cases x0 with
 | none =>
  (try simp only [onOpt] at H)
  obtain rfl := ptr_none HP0
  refine st (.bool true) rfl rfl (xr_bin (.pointer none) (.pointer none) (.bool true) rfl rfl rfl (B.eql_nn ⟨_, Tryd.underlying36⟩ (⟨0, 0, none⟩ : Addr))) ?_
  refine wl_end ?_
  (try simp only [ls0, ls1])
  refine hK66 _ _ ?_
  (try clear hK66 K66)
  refine wp_cond_true rfl ?_
  refine wp_seq_k fun K68 hK68 => ?_
  refine wl_region ?_
  refine st (.int .i64 (-1)) rfl rfl (xr_assign _ rfl rfl) ?_
  refine wl_end ?_
  (try simp only [ls0, ls1])
  refine hK68 _ _ ?_
  (try clear hK68 K68)
  refine wp_ret ?_
  (try simp only [Exit.inBlock, Exit.then, Exit.noGoto])
  (try simp only [ls0, ls1])
  obtain rfl := Option.some.inj H
  refine bodyPost_ret (results_tmp rfl _ _ _) rfl ?_
  exact ⟨_, rfl, HS⟩
 | some o67 =>
  (try simp only [onOpt] at H)
  obtain ⟨g69, cs70, rfl, HX71, HK72⟩ := ptr_some HP0
  obtain ⟨vq73_0, rfl, HRq73_0, HLq73_4, HLq73_5⟩ := k107_openF HK72
  replace HRq73_0 : Ft c [0] w (fun w_ => (Kd.ptr 81 k81).K w_ o67.f0 [vq73_0]) := HRq73_0
  refine st (.bool false) rfl rfl (xr_bin (.pointer (some ⟨g69, 0, none⟩)) (.pointer none) (.bool false) rfl rfl rfl (B.eql_pn ⟨_, Tryd.underlying36⟩ ⟨g69, 0, none⟩)) ?_
  refine wl_end ?_
  (try simp only [ls0, ls1])
  refine hK66 _ _ ?_
  (try clear hK66 K66)
  refine wp_cond_false rfl ?_
  refine wp_skip ?_
  (try simp only [ls0, ls1])
  refine hK65 _ _ ?_
  (try clear hK65 K65)
  refine wp_seq_k fun K74 hK74 => ?_
  refine wl_region ?_
  refine st (.int .i64 0) rfl rfl (xr_assign _ rfl rfl) ?_
  refine wl_end ?_
  (try simp only [ls0, ls1])
  refine hK74 _ _ ?_
  (try clear hK74 K74)
  refine wp_seq_k fun K75 hK75 => ?_
  refine wp_seq_k fun K76 hK76 => ?_
  refine wl_region ?_
  refine mv_ rfl ?_
  refine st (.pointer (some ⟨g69, 0, none⟩)) rfl rfl (xr_nilCheck _ rfl rfl) ?_
  refine st (.pointer (some ⟨g69, 0, none⟩)) rfl rfl (xr_fieldAddr _ _ rfl rfl (bx_field2 Tryd.underlying107 rfl rfl (by kernel_rfl))) ?_
  refine st (vq73_0) rfl rfl (xr_load _ _ rfl rfl (load_cell Tryd.underlying26 rfl (bx_cell (Ft.now HX71) 0 rfl))) ?_
  simp only [ls0, ls1]
  obtain ⟨t77, A78, H⟩ := bnd H
  refine st_call #[vq73_0] rfl rfl Tryd.func21 (by kernel_rfl) rfl rfl (mp_ rfl) ?_
  refine (order_Order_Len.calls vq73_0 o67.f0 t77  (fun z_ => pal [(0, 0)] (c z_)) w (fun _ => pal_lt rfl _) (Ft.arg HRq73_0 rfl) A78).mono ?_
  rintro _ w80 ⟨C81, rfl, hs82⟩
  refine ⟨_, rfl, ?_⟩
  replace hs82 := Step.lift (U := [(0, 0)]) hs82 [] rfl rfl
  generalize up c C81 w.heap.size [(0, 0)] = C81_ at hs82
  replace HX71 := HX71.thru hs82 rfl
  replace HRq73_0 := HRq73_0.thru hs82 rfl
  replace HS := HS.trans hs82 hc rfl
  (try simp only [ls0, ls1])
  refine st (.int .i64 0) rfl rfl (xr_move _ rfl rfl) ?_
  refine wl_end ?_
  (try simp only [ls0, ls1])
  refine hK76 _ _ ?_
  (try clear hK76 K76)
  refine wp_block ?_
  (try simp only [ls0, ls1])
  refine wp_looped (looped_fin (fun kq110 a_ w109 => ∃ (C108 : Nat → Nat) (x104 : Int) (x105 : Int) (g_ : Nat → Value), a_ = ⟨#[.pointer (some ⟨g69, 0, none⟩), (g_ 1), (g_ 2), .int .i64 x104, (g_ 4), (g_ 5), (g_ 6), (g_ 7), (g_ 8), (g_ 9), (g_ 10), .int .i64 t77, .int .i64 x105, (g_ 13), (g_ 14), (g_ 15), (g_ 16), (g_ 17), (g_ 18), (g_ 19), (g_ 20), (g_ 21), (g_ 22), (g_ 23), (g_ 24), (g_ 25)], []⟩ ∧ Step c w C108 w109 [] ∧ kq110 ≤ k ∧ (Ft C108 [0] w109 (fun w_ => (Kd.ptr 81 k81).K w_ o67.f0 [vq73_0])) ∧ (Ft C108 [0] w109 (fun w_ => w_.heap[g69]? = some (.cells (List.toArray ([vq73_0, .int .u32 o67.f1.f0.f0, .int .i32 o67.f1.f1.f0.f0, .int .u32 o67.f1.f1.f0.f1] ++ (List.map (Value.int .i8) o67.f2 ++ (List.map (Value.int .i8) o67.f3 ++ ([.int .i64 o67.f4.f0]))))) 107 (0, 0)))) ∧ lattice_Lattice_Top.l0 kq110 o67 t77 x104 x105 = some r) ?step fun hL_ => ?init)
  case init =>
   exact jmpL (fun a_ h_ => hL_ k a_ _ h_) (fun g_ => ⟨_, 0, 0, g_, rfl, HS, Nat.le_refl _, HRq73_0, HX71, H⟩) rfl
  case step =>
   intro kq110 ih113 a114 w109 hr115
   obtain ⟨C108, x104, x105, g_, rfl, HS111, hk112, HJ106, HJ107, H⟩ := hr115
   refine looped_round ?_
   cases kq110 with
   | zero => exact absurd H (by simp [lattice_Lattice_Top.l0])
   | succ k116 =>
    simp only [lattice_Lattice_Top.l0] at H
    refine wp_seq_k fun K117 hK117 => ?_
    refine wl_region ?_
    refine st (.bool (decide (x105 < t77))) rfl rfl (xr_bin _ _ _ rfl rfl rfl (B.lss_i64 _ _)) ?_
    refine wl_end ?_
    (try simp only [ls0, ls1])
    refine hK117 _ _ ?_
    (try clear hK117 K117)
    refine wp_seq_k fun K118 hK118 => ?_
    by_cases c119 : x105 < t77
    ·rw [if_pos c119] at H
     (try rw [(decide_eq_true c119)])
     refine wp_cond_true rfl ?_
     refine wp_skip ?_
     (try simp only [ls0, ls1])
     refine hK118 _ _ ?_
     (try clear hK118 K118)
     refine wp_seq_k fun K120 hK120 => ?_
     refine wp_block ?_
     refine wp_seq_k fun K121 hK121 => ?_
     refine wl_region ?_
     refine mv_ rfl ?_
     refine as_ rfl ?_
     refine wl_end ?_
     (try simp only [ls0, ls1])
     refine hK121 _ _ ?_
     (try clear hK121 K121)
     refine wl_region ?_
     refine mv_ rfl ?_
     refine mv_ rfl ?_
     refine mv_ rfl ?_
     refine st (.pointer (some ⟨g69, 0, none⟩)) rfl rfl (xr_nilCheck _ rfl rfl) ?_
     simp only [ls0, ls1]
     refine st (.pointer (some ⟨g69, 4, none⟩)) rfl rfl (xr_fieldAddr _ _ rfl rfl (bx_field2 Tryd.underlying107 rfl rfl (by kernel_rfl))) ?_
     obtain ⟨c122, H⟩ := if_some H
     obtain ⟨c123, H⟩ := if_some H
     refine st (.pointer (some ⟨g69, 4 + ((x104 : Int).toNat * 64), none⟩)) rfl rfl (xr_indexAddr _ _ _ rfl rfl rfl (arr_index (sz := 64) Tryd.underlying102 (by kernel_rfl) (by first | assumption | decide | omega) (by first | assumption | decide | omega) (by omega))) ?_
     obtain ⟨c124, H⟩ := if_some H
     obtain ⟨c125, H⟩ := if_some H
     refine st (.pointer (some ⟨g69, 4 + ((x104 : Int).toNat * 64 + (x105 : Int).toNat), none⟩)) rfl rfl (xr_indexAddr _ _ _ rfl rfl rfl (arr_index (sz := 1) Tryd.underlying100 (by kernel_rfl) (by first | assumption | decide | omega) (by first | assumption | decide | omega) (by omega))) ?_
     refine st (.int .i8 (List.getD o67.f2 ((x104 : Int).toNat * 64 + (x105 : Int).toNat) 0)) rfl rfl (xr_load _ _ rfl rfl (arr_load (o := 4) (N := 4096) (pre := [vq73_0, .int .u32 o67.f1.f0.f0, .int .i32 o67.f1.f1.f0.f0, .int .u32 o67.f1.f1.f0.f1]) (post := List.map (Value.int .i8) o67.f3 ++ ([.int .i64 o67.f4.f0])) (enc := (Value.int .i8)) (l := o67.f2) (i := (x104 : Int).toNat * 64 + (x105 : Int).toNat) 0 Tryd.underlying99 rfl (Ft.now HJ107) (by first | (simp only [List.append_assoc, List.cons_append, List.nil_append, List.append_nil]; done) | rfl) rfl HLq73_4 (by omega) (by omega))) ?_
     simp only [ls0, ls1]
     refine st (.int .i64 (wrap64 (List.getD o67.f2 ((x104 : Int).toNat * 64 + (x105 : Int).toNat) 0))) rfl rfl (xr_conv (.int .i8 (List.getD o67.f2 ((x104 : Int).toNat * 64 + (x105 : Int).toNat) 0)) _ rfl rfl (by first | rfl | (go_simp; done) | (go_simp; rfl) | (go_simp; exact i64_w _) | (go_simp; exact i32_w _))) ?_
     refine as_ rfl ?_
     refine wl_end ?_
     (try simp only [ls0, ls1])
     refine hK120 _ _ ?_
     (try clear hK120 K120)
     refine wl_region ?_
     refine st (.int .i64 (wrap64 (x105 + 1))) rfl rfl (xr_bin _ _ _ rfl rfl rfl (B.add_i64 _ _)) ?_
     refine mv_ rfl ?_
     refine wl_end ?_
     (try simp only [ls0, ls1])
     exact jmpL (fun a_ h_ => ih113 k116 (by omega) a_ _ h_) (fun g_ => ⟨_, wrap64 (List.getD o67.f2 ((x104 : Int).toNat * 64 + (x105 : Int).toNat) 0), wrap64 (x105 + 1), g_, rfl, HS111, (by omega), HJ106, HJ107, H⟩) rfl
    rw [if_neg c119] at H
    (try rw [(decide_eq_false c119)])
    refine wp_cond_false rfl ?_
    refine wp_exit ?_
    (try simp only [ls0, ls1])
    refine hK75 _ _ ?_
    (try clear hK75 K75)
    refine wp_seq_k fun K126 hK126 => ?_
    refine wl_region ?_
    refine mv_ rfl ?_
    refine as_ rfl ?_
    refine wl_end ?_
    (try simp only [ls0, ls1])
    refine hK126 _ _ ?_
    (try clear hK126 K126)
    refine wp_ret ?_
    (try simp only [Exit.inBlock, Exit.then, Exit.noGoto])
    (try simp only [ls0, ls1])
    obtain rfl := Option.some.inj H
    refine bodyPost_ret (results_tmp rfl _ _ _) rfl ?_
    exact ⟨_, rfl, HS111⟩

/-! ### lattice_Lattice_Bottom: function 26 -/
def lattice_Lattice_Bottom.l0 : Nat → S107 → Int → Int → Int → Option (Int)
  | 0, _, _, _, _ => none
  | k + 1, o67, t77, x104, x105 => if x105 < t77 then (if 0 ≤ x104 then (if x104 < 64 then (if 0 ≤ x105 then (if x105 < 64 then (lattice_Lattice_Bottom.l0 k o67 t77 (wrap64 (List.getD o67.f3 ((x104 : Int).toNat * 64 + (x105 : Int).toNat) 0)) (wrap64 (x105 + 1))) else (none)) else (none)) else (none)) else (none)) else (some x104)
def lattice_Lattice_Bottom.f (k : Nat) (x0 : Option S107) : Option (Int) := onOpt x0 (some (-1)) (fun o67 => ((order_Order_Len.f o67.f0).bind fun t77 => (lattice_Lattice_Bottom.l0 k o67 t77 0 0)))

set_option maxHeartbeats 2000000 in
set_option maxRecDepth 100000 in
theorem lattice_Lattice_Bottom.calls (k : Nat) (v0 : Value) (x0 : Option S107) (r : Int) (c : Nat → Nat) (w : World) (hc : ∀ k, c k < 10) (HP0 : Ft c [0] w (fun w_ => (Kd.ptr 107 k107).K w_ x0 [v0])) (H : lattice_Lattice_Bottom.f k x0 = some r) :
    Calls Tryd.prog 26 #[v0] w fun e w' => ∃ (c' : Nat → Nat) , e = .returned (.int .i64 r) ∧ Step c w c' w' [] := by
 unfold lattice_Lattice_Bottom.f at H
 have HS := Step.refl c w []
 go_enter Tryd.func26, Tryd.ntmps26
 refine wp_seq_k fun K64 hK64 => ?_
 refine wl_region ?_
 refine st (.int .i64 0) rfl rfl (xr_assign _ rfl rfl) ?_
 refine wl_end ?_
 (try simp only [ls0, ls1])
 refine hK64 _ _ ?_
 (try clear hK64 K64)
 refine wp_seq_k fun K65 hK65 => ?_
 refine wp_seq_k fun K66 hK66 => ?_
 refine wl_region ?_
 refine mv_ rfl ?_
 cases x0 with
 | none =>
  (try simp only [onOpt] at H)
  obtain rfl := ptr_none HP0
  refine st (.bool true) rfl rfl (xr_bin (.pointer none) (.pointer none) (.bool true) rfl rfl rfl (B.eql_nn ⟨_, Tryd.underlying36⟩ (⟨0, 0, none⟩ : Addr))) ?_
  refine wl_end ?_
  (try simp only [ls0, ls1])
  refine hK66 _ _ ?_
  (try clear hK66 K66)
  refine wp_cond_true rfl ?_
  refine wp_seq_k fun K68 hK68 => ?_
  refine wl_region ?_
  refine st (.int .i64 (-1)) rfl rfl (xr_assign _ rfl rfl) ?_
  refine wl_end ?_
  (try simp only [ls0, ls1])
  refine hK68 _ _ ?_
  (try clear hK68 K68)
  refine wp_ret ?_
  (try simp only [Exit.inBlock, Exit.then, Exit.noGoto])
  (try simp only [ls0, ls1])
  obtain rfl := Option.some.inj H
  refine bodyPost_ret (results_tmp rfl _ _ _) rfl ?_
  exact ⟨_, rfl, HS⟩
 | some o67 =>
  (try simp only [onOpt] at H)
  obtain ⟨g69, cs70, rfl, HX71, HK72⟩ := ptr_some HP0
  obtain ⟨vq73_0, rfl, HRq73_0, HLq73_4, HLq73_5⟩ := k107_openF HK72
  replace HRq73_0 : Ft c [0] w (fun w_ => (Kd.ptr 81 k81).K w_ o67.f0 [vq73_0]) := HRq73_0
  refine st (.bool false) rfl rfl (xr_bin (.pointer (some ⟨g69, 0, none⟩)) (.pointer none) (.bool false) rfl rfl rfl (B.eql_pn ⟨_, Tryd.underlying36⟩ ⟨g69, 0, none⟩)) ?_
  refine wl_end ?_
  (try simp only [ls0, ls1])
  refine hK66 _ _ ?_
  (try clear hK66 K66)
  refine wp_cond_false rfl ?_
  refine wp_skip ?_
  (try simp only [ls0, ls1])
  refine hK65 _ _ ?_
  (try clear hK65 K65)
  refine wp_seq_k fun K74 hK74 => ?_
  refine wl_region ?_
  refine st (.int .i64 0) rfl rfl (xr_assign _ rfl rfl) ?_
  refine wl_end ?_
  (try simp only [ls0, ls1])
  refine hK74 _ _ ?_
  (try clear hK74 K74)
  refine wp_seq_k fun K75 hK75 => ?_
  refine wp_seq_k fun K76 hK76 => ?_
  refine wl_region ?_
  refine mv_ rfl ?_
  refine st (.pointer (some ⟨g69, 0, none⟩)) rfl rfl (xr_nilCheck _ rfl rfl) ?_
  refine st (.pointer (some ⟨g69, 0, none⟩)) rfl rfl (xr_fieldAddr _ _ rfl rfl (bx_field2 Tryd.underlying107 rfl rfl (by kernel_rfl))) ?_
  refine st (vq73_0) rfl rfl (xr_load _ _ rfl rfl (load_cell Tryd.underlying26 rfl (bx_cell (Ft.now HX71) 0 rfl))) ?_
  simp only [ls0, ls1]
  obtain ⟨t77, A78, H⟩ := bnd H
  refine st_call #[vq73_0] rfl rfl Tryd.func21 (by kernel_rfl) rfl rfl (mp_ rfl) ?_
  refine (order_Order_Len.calls vq73_0 o67.f0 t77  (fun z_ => pal [(0, 0)] (c z_)) w (fun _ => pal_lt rfl _) (Ft.arg HRq73_0 rfl) A78).mono ?_
  rintro _ w80 ⟨C81, rfl, hs82⟩
  refine ⟨_, rfl, ?_⟩
  replace hs82 := Step.lift (U := [(0, 0)]) hs82 [] rfl rfl
  generalize up c C81 w.heap.size [(0, 0)] = C81_ at hs82
  replace HX71 := HX71.thru hs82 rfl
  replace HRq73_0 := HRq73_0.thru hs82 rfl
  replace HS := HS.trans hs82 hc rfl
  (try simp only [ls0, ls1])
  refine st (.int .i64 0) rfl rfl (xr_move _ rfl rfl) ?_
  refine wl_end ?_
  (try simp only [ls0, ls1])
  refine hK76 _ _ ?_
  (try clear hK76 K76)
  refine wp_block ?_
  (try simp only [ls0, ls1])
  refine wp_looped (looped_fin (fun kq110 a_ w109 => ∃ (C108 : Nat → Nat) (x104 : Int) (x105 : Int) (g_ : Nat → Value), a_ = ⟨#[.pointer (some ⟨g69, 0, none⟩), (g_ 1), (g_ 2), .int .i64 x104, (g_ 4), (g_ 5), (g_ 6), (g_ 7), (g_ 8), (g_ 9), (g_ 10), .int .i64 t77, .int .i64 x105, (g_ 13), (g_ 14), (g_ 15), (g_ 16), (g_ 17), (g_ 18), (g_ 19), (g_ 20), (g_ 21), (g_ 22), (g_ 23), (g_ 24), (g_ 25)], []⟩ ∧ Step c w C108 w109 [] ∧ kq110 ≤ k ∧ (Ft C108 [0] w109 (fun w_ => (Kd.ptr 81 k81).K w_ o67.f0 [vq73_0])) ∧ (Ft C108 [0] w109 (fun w_ => w_.heap[g69]? = some (.cells (List.toArray ([vq73_0, .int .u32 o67.f1.f0.f0, .int .i32 o67.f1.f1.f0.f0, .int .u32 o67.f1.f1.f0.f1] ++ (List.map (Value.int .i8) o67.f2 ++ (List.map (Value.int .i8) o67.f3 ++ ([.int .i64 o67.f4.f0]))))) 107 (0, 0)))) ∧ lattice_Lattice_Bottom.l0 kq110 o67 t77 x104 x105 = some r) ?step fun hL_ => ?init)
  case init =>
   exact jmpL (fun a_ h_ => hL_ k a_ _ h_) (fun g_ => ⟨_, 0, 0, g_, rfl, HS, Nat.le_refl _, HRq73_0, HX71, H⟩) rfl
  case step =>
   intro kq110 ih113 a114 w109 hr115
   obtain ⟨C108, x104, x105, g_, rfl, HS111, hk112, HJ106, HJ107, H⟩ := hr115
   refine looped_round ?_
   cases kq110 with
   | zero => exact absurd H (by simp [lattice_Lattice_Bottom.l0])
   | succ k116 =>
    simp only [lattice_Lattice_Bottom.l0] at H
    refine wp_seq_k fun K117 hK117 => ?_
    refine wl_region ?_
    refine st (.bool (decide (x105 < t77))) rfl rfl (xr_bin _ _ _ rfl rfl rfl (B.lss_i64 _ _)) ?_
    refine wl_end ?_
    (try simp only [ls0, ls1])
    refine hK117 _ _ ?_
    (try clear hK117 K117)
    refine wp_seq_k fun K118 hK118 => ?_
    by_cases c119 : x105 < t77
    ·rw [if_pos c119] at H
     (try rw [(decide_eq_true c119)])
     refine wp_cond_true rfl ?_
     refine wp_skip ?_
     (try simp only [ls0, ls1])
     refine hK118 _ _ ?_
     (try clear hK118 K118)
     refine wp_seq_k fun K120 hK120 => ?_
     refine wp_block ?_
     refine wp_seq_k fun K121 hK121 => ?_
     refine wl_region ?_
     refine mv_ rfl ?_
     refine as_ rfl ?_
     refine wl_end ?_
     (try simp only [ls0, ls1])
     refine hK121 _ _ ?_
     (try clear hK121 K121)
     refine wl_region ?_
     refine mv_ rfl ?_
     refine mv_ rfl ?_
     refine mv_ rfl ?_
     refine st (.pointer (some ⟨g69, 0, none⟩)) rfl rfl (xr_nilCheck _ rfl rfl) ?_
     simp only [ls0, ls1]
     refine st (.pointer (some ⟨g69, 4100, none⟩)) rfl rfl (xr_fieldAddr _ _ rfl rfl (bx_field2 Tryd.underlying107 rfl rfl (by kernel_rfl))) ?_
     obtain ⟨c122, H⟩ := if_some H
     obtain ⟨c123, H⟩ := if_some H
     refine st (.pointer (some ⟨g69, 4100 + ((x104 : Int).toNat * 64), none⟩)) rfl rfl (xr_indexAddr _ _ _ rfl rfl rfl (arr_index (sz := 64) Tryd.underlying102 (by kernel_rfl) (by first | assumption | decide | omega) (by first | assumption | decide | omega) (by omega))) ?_
     obtain ⟨c124, H⟩ := if_some H
     obtain ⟨c125, H⟩ := if_some H
     refine st (.pointer (some ⟨g69, 4100 + ((x104 : Int).toNat * 64 + (x105 : Int).toNat), none⟩)) rfl rfl (xr_indexAddr _ _ _ rfl rfl rfl (arr_index (sz := 1) Tryd.underlying100 (by kernel_rfl) (by first | assumption | decide | omega) (by first | assumption | decide | omega) (by omega))) ?_
     refine st (.int .i8 (List.getD o67.f3 ((x104 : Int).toNat * 64 + (x105 : Int).toNat) 0)) rfl rfl (xr_load _ _ rfl rfl (arr_load (o := 4100) (N := 4096) (pre := [vq73_0, .int .u32 o67.f1.f0.f0, .int .i32 o67.f1.f1.f0.f0, .int .u32 o67.f1.f1.f0.f1] ++ (List.map (Value.int .i8) o67.f2)) (post := [.int .i64 o67.f4.f0]) (enc := (Value.int .i8)) (l := o67.f3) (i := (x104 : Int).toNat * 64 + (x105 : Int).toNat) 0 Tryd.underlying99 rfl (Ft.now HJ107) (by first | (simp only [List.append_assoc, List.cons_append, List.nil_append, List.append_nil]; done) | rfl) (by simp [HLq73_4]) HLq73_5 (by omega) (by omega))) ?_
     simp only [ls0, ls1]
     refine st (.int .i64 (wrap64 (List.getD o67.f3 ((x104 : Int).toNat * 64 + (x105 : Int).toNat) 0))) rfl rfl (xr_conv (.int .i8 (List.getD o67.f3 ((x104 : Int).toNat * 64 + (x105 : Int).toNat) 0)) _ rfl rfl (by first | rfl | (go_simp; done) | (go_simp; rfl) | (go_simp; exact i64_w _) | (go_simp; exact i32_w _))) ?_
     refine as_ rfl ?_
     refine wl_end ?_
     (try simp only [ls0, ls1])
     refine hK120 _ _ ?_
     (try clear hK120 K120)
     refine wl_region ?_
     refine st (.int .i64 (wrap64 (x105 + 1))) rfl rfl (xr_bin _ _ _ rfl rfl rfl (B.add_i64 _ _)) ?_
     refine mv_ rfl ?_
     refine wl_end ?_
     (try simp only [ls0, ls1])
     exact jmpL (fun a_ h_ => ih113 k116 (by omega) a_ _ h_) (fun g_ => ⟨_, wrap64 (List.getD o67.f3 ((x104 : Int).toNat * 64 + (x105 : Int).toNat) 0), wrap64 (x105 + 1), g_, rfl, HS111, (by omega), HJ106, HJ107, H⟩) rfl
    rw [if_neg c119] at H
    (try rw [(decide_eq_false c119)])
    refine wp_cond_false rfl ?_
    refine wp_exit ?_
    (try simp only [ls0, ls1])
    refine hK75 _ _ ?_
    (try clear hK75 K75)
    refine wp_seq_k fun K126 hK126 => ?_
    refine wl_region ?_
    refine mv_ rfl ?_
    refine as_ rfl ?_
    refine wl_end ?_
    (try simp only [ls0, ls1])
    refine hK126 _ _ ?_
    (try clear hK126 K126)
    refine wp_ret ?_
    (try simp only [Exit.inBlock, Exit.then, Exit.noGoto])
    (try simp only [ls0, ls1])
    obtain rfl := Option.some.inj H
    refine bodyPost_ret (results_tmp rfl _ _ _) rfl ?_
    exact ⟨_, rfl, HS111⟩

/-! ### lattice_Lattice_Order: function 27 -/
def lattice_Lattice_Order.f (x0 : Option S107) : Option ((Option S81)) := onOpt x0 (some (none : Option S81)) (fun o15 => (some o15.f0))
set_option maxHeartbeats 2000000 in
set_option maxRecDepth 100000 in
theorem lattice_Lattice_Order.calls (v0 : Value) (x0 : Option S107) (r : Option S81) (c : Nat → Nat) (w : World) (hc : ∀ k, c k < 10) (HP0 : Ft c [0] w (fun w_ => (Kd.ptr 107 k107).K w_ x0 [v0])) (H : lattice_Lattice_Order.f x0 = some r) :
    Calls Tryd.prog 27 #[v0] w fun e w' => ∃ (c' : Nat → Nat) (v_r : Value), e = .returned (v_r) ∧ Step c w c' w' [] ∧ Ft c' [0] w' (fun w_ => (Kd.ptr 81 k81).K w_ r [v_r]) := by
 unfold lattice_Lattice_Order.f at H
 have HS := Step.refl c w []
 go_enter Tryd.func27, Tryd.ntmps27
 refine wp_seq_k fun K12 hK12 => ?_
 refine wl_region ?_
 refine st (.pointer none) rfl rfl (xr_assign _ rfl rfl) ?_
 refine wl_end ?_
 (try simp only [ls0, ls1])
 refine hK12 _ _ ?_
 (try clear hK12 K12)
 refine wp_seq_k fun K13 hK13 => ?_
 refine wp_seq_k fun K14 hK14 => ?_
 refine wl_region ?_
 refine mv_ rfl ?_
 cases x0 with
 | none =>
  (try simp only [onOpt] at H)
  obtain rfl := ptr_none HP0
  refine st (.bool true) rfl rfl (xr_bin (.pointer none) (.pointer none) (.bool true) rfl rfl rfl (B.eql_nn ⟨_, Tryd.underlying36⟩ (⟨0, 0, none⟩ : Addr))) ?_
  refine wl_end ?_
  (try simp only [ls0, ls1])
  refine hK14 _ _ ?_
  (try clear hK14 K14)
  refine wp_cond_true rfl ?_
  refine wp_seq_k fun K16 hK16 => ?_
  refine wl_region ?_
  refine st (.pointer none) rfl rfl (xr_assign _ rfl rfl) ?_
  refine wl_end ?_
  (try simp only [ls0, ls1])
  refine hK16 _ _ ?_
  (try clear hK16 K16)
  refine wp_ret ?_
  (try simp only [Exit.inBlock, Exit.then, Exit.noGoto])
  (try simp only [ls0, ls1])
  obtain rfl := Option.some.inj H
  refine bodyPost_ret (results_tmp rfl _ _ _) rfl ?_
  exact ⟨_, (.pointer none), rfl, HS, (ptr_nil _ _ _ _ _)⟩
 | some o15 =>
  (try simp only [onOpt] at H)
  obtain ⟨g17, cs18, rfl, HX19, HK20⟩ := ptr_some HP0
  obtain ⟨vq21_0, rfl, HRq21_0, HLq21_4, HLq21_5⟩ := k107_openF HK20
  replace HRq21_0 : Ft c [0] w (fun w_ => (Kd.ptr 81 k81).K w_ o15.f0 [vq21_0]) := HRq21_0
  refine st (.bool false) rfl rfl (xr_bin (.pointer (some ⟨g17, 0, none⟩)) (.pointer none) (.bool false) rfl rfl rfl (B.eql_pn ⟨_, Tryd.underlying36⟩ ⟨g17, 0, none⟩)) ?_
  refine wl_end ?_
  (try simp only [ls0, ls1])
  refine hK14 _ _ ?_
  (try clear hK14 K14)
  refine wp_cond_false rfl ?_
  refine wp_skip ?_
  (try simp only [ls0, ls1])
  refine hK13 _ _ ?_
  (try clear hK13 K13)
  refine wp_seq_k fun K22 hK22 => ?_
  refine wl_region ?_
  refine mv_ rfl ?_
  refine st (.pointer (some ⟨g17, 0, none⟩)) rfl rfl (xr_nilCheck _ rfl rfl) ?_
  refine st (.pointer (some ⟨g17, 0, none⟩)) rfl rfl (xr_fieldAddr _ _ rfl rfl (bx_field2 Tryd.underlying107 rfl rfl (by kernel_rfl))) ?_
  refine st (vq21_0) rfl rfl (xr_load _ _ rfl rfl (load_cell Tryd.underlying26 rfl (bx_cell (Ft.now HX19) 0 rfl))) ?_
  simp only [ls0, ls1]
  refine as_ rfl ?_
  refine wl_end ?_
  (try simp only [ls0, ls1])
  refine hK22 _ _ ?_
  (try clear hK22 K22)
  refine wp_ret ?_
  (try simp only [Exit.inBlock, Exit.then, Exit.noGoto])
  (try simp only [ls0, ls1])
  obtain rfl := Option.some.inj H
  refine bodyPost_ret (results_tmp rfl _ _ _) rfl ?_
  exact ⟨_, vq21_0, rfl, HS, HRq21_0⟩

/-! ### sync_atomic_Int64_Load -/
theorem atomic_load {g o : Nat} {w : World} {n : Int} (hc : w.cell? ⟨g, o, none⟩ = some (.int .i64 n)) :
    Calls Tryd.prog 65 #[.pointer (some ⟨g, o, none⟩)] w fun e w' => e = .returned (.int .i64 n) ∧ w = w' := by
  have hl := run_call_load (P := Tryd.prog) Tryd.func82 (by kernel_rfl) (by kernel_rfl) (by kernel_rfl) .i64 (by kernel_rfl) hc
  go_enter Tryd.func65, Tryd.ntmps65
  go_wp2
  go_ret
  exact ⟨rfl, rfl⟩

/-! ### lattice_Lattice_Asked: function 28 -/
def lattice_Lattice_Asked.f (x0 : Option S107) : Option (Int) := onOpt x0 (some 0) (fun o15 => (some o15.f4.f0))
set_option maxHeartbeats 2000000 in
set_option maxRecDepth 100000 in
theorem lattice_Lattice_Asked.calls (v0 : Value) (x0 : Option S107) (r : Int) (c : Nat → Nat) (w : World) (hc : ∀ k, c k < 10) (HP0 : Ft c [0] w (fun w_ => (Kd.ptr 107 k107).K w_ x0 [v0])) (H : lattice_Lattice_Asked.f x0 = some r) :
    Calls Tryd.prog 28 #[v0] w fun e w' => ∃ (c' : Nat → Nat) , e = .returned (.int .i64 r) ∧ Step c w c' w' [] := by
 unfold lattice_Lattice_Asked.f at H
 have HS := Step.refl c w []
 go_enter Tryd.func28, Tryd.ntmps28
 refine wp_seq_k fun K12 hK12 => ?_
 refine wl_region ?_
 refine st (.int .i64 0) rfl rfl (xr_assign _ rfl rfl) ?_
 refine wl_end ?_
 (try simp only [ls0, ls1])
 refine hK12 _ _ ?_
 (try clear hK12 K12)
 refine wp_seq_k fun K13 hK13 => ?_
 refine wp_seq_k fun K14 hK14 => ?_
 refine wl_region ?_
 refine mv_ rfl ?_
 cases x0 with
 | none =>
  (try simp only [onOpt] at H)
  obtain rfl := ptr_none HP0
  refine st (.bool true) rfl rfl (xr_bin (.pointer none) (.pointer none) (.bool true) rfl rfl rfl (B.eql_nn ⟨_, Tryd.underlying36⟩ (⟨0, 0, none⟩ : Addr))) ?_
  refine wl_end ?_
  (try simp only [ls0, ls1])
  refine hK14 _ _ ?_
  (try clear hK14 K14)
  refine wp_cond_true rfl ?_
  refine wp_seq_k fun K16 hK16 => ?_
  refine wl_region ?_
  refine st (.int .i64 0) rfl rfl (xr_assign _ rfl rfl) ?_
  refine wl_end ?_
  (try simp only [ls0, ls1])
  refine hK16 _ _ ?_
  (try clear hK16 K16)
  refine wp_ret ?_
  (try simp only [Exit.inBlock, Exit.then, Exit.noGoto])
  (try simp only [ls0, ls1])
  obtain rfl := Option.some.inj H
  refine bodyPost_ret (results_tmp rfl _ _ _) rfl ?_
  exact ⟨_, rfl, HS⟩
 | some o15 =>
  (try simp only [onOpt] at H)
  obtain ⟨g17, cs18, rfl, HX19, HK20⟩ := ptr_some HP0
  obtain ⟨vq21_0, rfl, HRq21_0, HLq21_4, HLq21_5⟩ := k107_openF HK20
  replace HRq21_0 : Ft c [0] w (fun w_ => (Kd.ptr 81 k81).K w_ o15.f0 [vq21_0]) := HRq21_0
  refine st (.bool false) rfl rfl (xr_bin (.pointer (some ⟨g17, 0, none⟩)) (.pointer none) (.bool false) rfl rfl rfl (B.eql_pn ⟨_, Tryd.underlying36⟩ ⟨g17, 0, none⟩)) ?_
  refine wl_end ?_
  (try simp only [ls0, ls1])
  refine hK14 _ _ ?_
  (try clear hK14 K14)
  refine wp_cond_false rfl ?_
  refine wp_skip ?_
  (try simp only [ls0, ls1])
  refine hK13 _ _ ?_
  (try clear hK13 K13)
  refine wp_seq_k fun K22 hK22 => ?_
  refine wl_region ?_
  refine mv_ rfl ?_
  refine st (.pointer (some ⟨g17, 0, none⟩)) rfl rfl (xr_nilCheck _ rfl rfl) ?_
  refine st (.pointer (some ⟨g17, 8196, none⟩)) rfl rfl (xr_fieldAddr _ _ rfl rfl (bx_field2 Tryd.underlying107 rfl rfl (by kernel_rfl))) ?_
  refine st_call #[.pointer (some ⟨g17, 8196, none⟩)] rfl rfl Tryd.func65 (by kernel_rfl) rfl rfl (mp_ rfl) ?_
  refine (atomic_load (n := o15.f4.f0) (bx_cell (l := [vq21_0, .int .u32 o15.f1.f0.f0, .int .i32 o15.f1.f1.f0.f0, .int .u32 o15.f1.f1.f0.f1] ++ (List.map (Value.int .i8) o15.f2 ++ (List.map (Value.int .i8) o15.f3 ++ ([.int .i64 o15.f4.f0])))) (Ft.now HX19) 8196 (at_get_ (pre := [vq21_0, .int .u32 o15.f1.f0.f0, .int .i32 o15.f1.f1.f0.f0, .int .u32 o15.f1.f1.f0.f1] ++ (List.map (Value.int .i8) o15.f2 ++ (List.map (Value.int .i8) o15.f3))) (post := []) (by first | (simp only [List.append_assoc, List.cons_append, List.nil_append, List.append_nil]; done) | rfl) (by simp [HLq21_4, HLq21_5])))).mono ?_
  rintro _ _ ⟨rfl, rfl⟩
  refine ⟨_, rfl, ?_⟩
  (try simp only [ls0, ls1])
  refine as_ rfl ?_
  refine wl_end ?_
  (try simp only [ls0, ls1])
  refine hK22 _ _ ?_
  (try clear hK22 K22)
  refine wp_ret ?_
  (try simp only [Exit.inBlock, Exit.then, Exit.noGoto])
  (try simp only [ls0, ls1])
  obtain rfl := Option.some.inj H
  refine bodyPost_ret (results_tmp rfl _ _ _) rfl ?_
  exact ⟨_, rfl, HS⟩

/-! ### blazonref14_Lattice_Bottom: function 29 -/
mutual
def blazonref14_Lattice_Bottom.l0 : Nat → (List ByteArray) → (List (List Bool)) → Int → Bool → Int → Option (Int)
  | 0, _, _, _, _, _ => none
  | k + 1, l0_0, l0_1, x828, x964, x965 => if x965 < (l0_0.length : Int) then (if x964 = true then (if 0 ≤ x828 then (if x828 < (l0_1.length : Int) then (if 0 ≤ x965 then (if x965 < ((rd_L20 l0_1 x828).length : Int) then (blazonref14_Lattice_Bottom.l0 k l0_0 l0_1 x828 (rdOf false (rd_L20 l0_1 x828) x965) (wrap64 (x965 + 1))) else (none)) else (none)) else (none)) else (none)) else (blazonref14_Lattice_Bottom.l0 k l0_0 l0_1 x828 false (wrap64 (x965 + 1)))) else (if x964 = true then (some x828) else (blazonref14_Lattice_Bottom.l1 k l0_0 l0_1 (wrap64 (x828 + 1))))
def blazonref14_Lattice_Bottom.l1 : Nat → (List ByteArray) → (List (List Bool)) → Int → Option (Int)
  | 0, _, _, _ => none
  | k + 1, l0_0, l0_1, x828 => if x828 < (l0_0.length : Int) then (blazonref14_Lattice_Bottom.l0 k l0_0 l0_1 x828 true 0) else (some (-1))
end
def blazonref14_Lattice_Bottom.f (k : Nat) (l0_0 : List ByteArray) (l0_1 : List (List Bool)) (l0_2 : List (List Int)) (l0_3 : List (List Int)) : Option (Int) := blazonref14_Lattice_Bottom.l1 k l0_0 l0_1 0

set_option maxHeartbeats 2000000 in
set_option maxRecDepth 100000 in
theorem blazonref14_Lattice_Bottom.calls (k : Nat) (A0_0 : Option Addr) (c0_0 : Nat) (l0_0 : List ByteArray) (A0_1 : Option Addr) (c0_1 : Nat) (l0_1 : List (List Bool)) (A0_2 : Option Addr) (c0_2 : Nat) (l0_2 : List (List Int)) (A0_3 : Option Addr) (c0_3 : Nat) (l0_3 : List (List Int)) (r : Int) (c : Nat → Nat) (w : World) (hc : ∀ k, c k < 10) (HP0_0 : Ft c [0] w (fun w_ => Kd.string.C w_ A0_0 l0_0.length l0_0)) (HCP0_0 : l0_0.length ≤ c0_0) (HP0_1 : Ft c [0] w (fun w_ => (Kd.slice 4 Kd.bool).C w_ A0_1 l0_1.length l0_1)) (HCP0_1 : l0_1.length ≤ c0_1) (HP0_2 : Ft c [0] w (fun w_ => (Kd.slice 3 (Kd.int .i64)).C w_ A0_2 l0_2.length l0_2)) (HCP0_2 : l0_2.length ≤ c0_2) (HP0_3 : Ft c [0] w (fun w_ => (Kd.slice 3 (Kd.int .i64)).C w_ A0_3 l0_3.length l0_3)) (HCP0_3 : l0_3.length ≤ c0_3) (H : blazonref14_Lattice_Bottom.f k l0_0 l0_1 l0_2 l0_3 = some r) :
    Calls Tryd.prog 29 #[.agg #[.slice A0_0 l0_0.length c0_0, .slice A0_1 l0_1.length c0_1, .slice A0_2 l0_2.length c0_2, .slice A0_3 l0_3.length c0_3]] w fun e w' => ∃ (c' : Nat → Nat) , e = .returned (.int .i64 r) ∧ Step c w c' w' [] := by
 unfold blazonref14_Lattice_Bottom.f at H
 have HS := Step.refl c w []
 go_enter Tryd.func29, Tryd.ntmps29
 refine wp_seq_k fun K500 hK500 => ?_
 refine wl_region ?_
 refine bx_new (C := c) 41 ([.slice A0_0 l0_0.length c0_0, .slice A0_1 l0_1.length c0_1, .slice A0_2 l0_2.length c0_2, .slice A0_3 l0_3.length c0_3]) 11 rfl rfl (by first | (go_simp; done) | (go_simp; rfl)) ?_
 intro g501 w502 C503 HX504 hs505
 replace HP0_0 := HP0_0.thru hs505 rfl
 replace HP0_1 := HP0_1.thru hs505 rfl
 replace HP0_2 := HP0_2.thru hs505 rfl
 replace HP0_3 := HP0_3.thru hs505 rfl
 replace HS := HS.trans hs505 hc rfl
 (try simp only [ls0, ls1])
 refine st (.int .i64 0) rfl rfl (xr_assign _ rfl rfl) ?_
 refine wl_end ?_
 (try simp only [ls0, ls1])
 refine hK500 _ _ ?_
 (try clear hK500 K500)
 refine wp_seq_k fun K506 hK506 => ?_
 refine wp_seq_k fun K507 hK507 => ?_
 refine wl_region ?_
 refine st (.int .i64 0) rfl rfl (xr_assign _ rfl rfl) ?_
 refine wl_end ?_
 (try simp only [ls0, ls1])
 refine hK507 _ _ ?_
 (try clear hK507 K507)
 refine wp_block ?_
 (try simp only [ls0, ls1])
 refine wp_looped (looped_fin (fun kq836 a_ w835 => ∃ (C834 : Nat → Nat) (x828 : Int) (g_ : Nat → Value), a_ = ⟨#[(g_ 0), .pointer (some ⟨g501, 0, none⟩), (g_ 2), .int .i64 x828, (g_ 4), (g_ 5), (g_ 6), (g_ 7), (g_ 8), (g_ 9), (g_ 10), (g_ 11), (g_ 12), (g_ 13), (g_ 14), (g_ 15), (g_ 16), (g_ 17), (g_ 18), (g_ 19), (g_ 20), (g_ 21), (g_ 22), (g_ 23), (g_ 24), (g_ 25), (g_ 26), (g_ 27), (g_ 28), (g_ 29), (g_ 30), (g_ 31), (g_ 32), (g_ 33), (g_ 34), (g_ 35)], []⟩ ∧ Step c w C834 w835 [] ∧ kq836 ≤ k ∧ (Ft C834 [0] w835 (fun w_ => Kd.string.C w_ A0_0 l0_0.length l0_0)) ∧ (Ft C834 [0] w835 (fun w_ => (Kd.slice 4 Kd.bool).C w_ A0_1 l0_1.length l0_1)) ∧ (Ft C834 [0] w835 (fun w_ => (Kd.slice 3 (Kd.int .i64)).C w_ A0_2 l0_2.length l0_2)) ∧ (Ft C834 [0] w835 (fun w_ => (Kd.slice 3 (Kd.int .i64)).C w_ A0_3 l0_3.length l0_3)) ∧ (Bx C834 11 w835 g501 41 ([.slice A0_0 l0_0.length c0_0, .slice A0_1 l0_1.length c0_1, .slice A0_2 l0_2.length c0_2, .slice A0_3 l0_3.length c0_3])) ∧ blazonref14_Lattice_Bottom.l1 kq836 l0_0 l0_1 x828 = some r) ?step fun hL_ => ?init)
 case init =>
  exact jmpL (fun a_ h_ => hL_ k a_ _ h_) (fun g_ => ⟨_, 0, g_, rfl, HS, Nat.le_refl _, HP0_0, HP0_1, HP0_2, HP0_3, HX504, H⟩) rfl
 case step =>
  intro kq836 ih839 a840 w835 hr841
  obtain ⟨C834, x828, g_, rfl, HS837, hk838, HJ829, HJ830, HJ831, HJ832, HJ833, H⟩ := hr841
  refine looped_round ?_
  cases kq836 with
  | zero => exact absurd H (by simp [blazonref14_Lattice_Bottom.l1])
  | succ k842 =>
   simp only [blazonref14_Lattice_Bottom.l1] at H
   refine wp_seq_k fun K843 hK843 => ?_
   refine wp_seq_k fun K844 hK844 => ?_
   refine wl_region ?_
   refine mv_ rfl ?_
   refine st (.pointer (some ⟨g501, 0, none⟩)) rfl rfl (xr_fieldAddr _ _ rfl rfl (bx_field2 Tryd.underlying41 rfl rfl (by kernel_rfl))) ?_
   refine st (.pointer (some ⟨g501, 0, none⟩)) rfl rfl (xr_fieldAddr _ _ rfl rfl (bx_field2 Tryd.underlying33 rfl rfl (by kernel_rfl))) ?_
   refine st (.slice A0_0 l0_0.length c0_0) rfl rfl (xr_load _ _ rfl rfl (load_cell Tryd.underlying30 rfl (bx_cell (HJ833).2 0 rfl))) ?_
   simp only [ls0, ls1]
   refine st (.int .i64 (l0_0.length : Int)) rfl rfl (xr_builtin #[.slice A0_0 l0_0.length c0_0] (.int .i64 (l0_0.length : Int)) rfl (mp_ rfl) (by first | rfl | (go_simp; done) | (go_simp; rfl) | (go_simp; exact i64_w _) | (go_simp; exact i32_w _))) ?_
   refine st (.bool (decide (x828 < (l0_0.length : Int)))) rfl rfl (xr_bin _ _ _ rfl rfl rfl (B.lss_i64 _ _)) ?_
   refine wl_end ?_
   (try simp only [ls0, ls1])
   refine hK844 _ _ ?_
   (try clear hK844 K844)
   by_cases c845 : x828 < (l0_0.length : Int)
   ·rw [if_pos c845] at H
    (try rw [(decide_eq_true c845)])
    refine wp_cond_true rfl ?_
    refine wp_skip ?_
    (try simp only [ls0, ls1])
    refine hK843 _ _ ?_
    (try clear hK843 K843)
    refine wp_seq_k fun K846 hK846 => ?_
    refine wp_block ?_
    refine wp_seq_k fun K847 hK847 => ?_
    refine wl_region ?_
    refine st (.bool true) rfl rfl (xr_assign _ rfl rfl) ?_
    refine wl_end ?_
    (try simp only [ls0, ls1])
    refine hK847 _ _ ?_
    (try clear hK847 K847)
    refine wp_seq_k fun K848 hK848 => ?_
    refine wp_seq_k fun K922 hK922 => ?_
    refine wl_region ?_
    refine st (.int .i64 0) rfl rfl (xr_assign _ rfl rfl) ?_
    refine wl_end ?_
    (try simp only [ls0, ls1])
    refine hK922 _ _ ?_
    (try clear hK922 K922)
    refine wp_block ?_
    (try simp only [ls0, ls1])
    refine wp_looped (looped_fin (fun kq973 a_ w972 => ∃ (C971 : Nat → Nat) (x964 : Bool) (x965 : Int) (g_ : Nat → Value), a_ = ⟨#[(g_ 0), .pointer (some ⟨g501, 0, none⟩), (g_ 2), .int .i64 x828, .bool x964, .int .i64 x965, (g_ 6), (g_ 7), (g_ 8), (g_ 9), (g_ 10), (g_ 11), (g_ 12), (g_ 13), (g_ 14), (g_ 15), (g_ 16), (g_ 17), (g_ 18), (g_ 19), (g_ 20), (g_ 21), (g_ 22), (g_ 23), (g_ 24), (g_ 25), (g_ 26), (g_ 27), (g_ 28), (g_ 29), (g_ 30), (g_ 31), (g_ 32), (g_ 33), (g_ 34), (g_ 35)], []⟩ ∧ Step c w C971 w972 [] ∧ kq973 ≤ k842 ∧ (Ft C971 [0] w972 (fun w_ => Kd.string.C w_ A0_0 l0_0.length l0_0)) ∧ (Ft C971 [0] w972 (fun w_ => (Kd.slice 4 Kd.bool).C w_ A0_1 l0_1.length l0_1)) ∧ (Ft C971 [0] w972 (fun w_ => (Kd.slice 3 (Kd.int .i64)).C w_ A0_2 l0_2.length l0_2)) ∧ (Ft C971 [0] w972 (fun w_ => (Kd.slice 3 (Kd.int .i64)).C w_ A0_3 l0_3.length l0_3)) ∧ (Bx C971 11 w972 g501 41 ([.slice A0_0 l0_0.length c0_0, .slice A0_1 l0_1.length c0_1, .slice A0_2 l0_2.length c0_2, .slice A0_3 l0_3.length c0_3])) ∧ blazonref14_Lattice_Bottom.l0 kq973 l0_0 l0_1 x828 x964 x965 = some r) ?step fun hL_ => ?init)
    case init =>
     exact jmpL (fun a_ h_ => hL_ k842 a_ _ h_) (fun g_ => ⟨_, true, 0, g_, rfl, HS837, Nat.le_refl _, HJ829, HJ830, HJ831, HJ832, HJ833, H⟩) rfl
    case step =>
     intro kq973 ih976 a977 w972 hr978
     obtain ⟨C971, x964, x965, g_, rfl, HS974, hk975, HJ966, HJ967, HJ968, HJ969, HJ970, H⟩ := hr978
     refine looped_round ?_
     cases kq973 with
     | zero => exact absurd H (by simp [blazonref14_Lattice_Bottom.l0])
     | succ k979 =>
      simp only [blazonref14_Lattice_Bottom.l0] at H
      refine wp_seq_k fun K980 hK980 => ?_
      refine wp_seq_k fun K981 hK981 => ?_
      refine wl_region ?_
      refine mv_ rfl ?_
      refine st (.pointer (some ⟨g501, 0, none⟩)) rfl rfl (xr_fieldAddr _ _ rfl rfl (bx_field2 Tryd.underlying41 rfl rfl (by kernel_rfl))) ?_
      refine st (.pointer (some ⟨g501, 0, none⟩)) rfl rfl (xr_fieldAddr _ _ rfl rfl (bx_field2 Tryd.underlying33 rfl rfl (by kernel_rfl))) ?_
      refine st (.slice A0_0 l0_0.length c0_0) rfl rfl (xr_load _ _ rfl rfl (load_cell Tryd.underlying30 rfl (bx_cell (HJ970).2 0 rfl))) ?_
      simp only [ls0, ls1]
      refine st (.int .i64 (l0_0.length : Int)) rfl rfl (xr_builtin #[.slice A0_0 l0_0.length c0_0] (.int .i64 (l0_0.length : Int)) rfl (mp_ rfl) (by first | rfl | (go_simp; done) | (go_simp; rfl) | (go_simp; exact i64_w _) | (go_simp; exact i32_w _))) ?_
      refine st (.bool (decide (x965 < (l0_0.length : Int)))) rfl rfl (xr_bin _ _ _ rfl rfl rfl (B.lss_i64 _ _)) ?_
      refine wl_end ?_
      (try simp only [ls0, ls1])
      refine hK981 _ _ ?_
      (try clear hK981 K981)
      by_cases c982 : x965 < (l0_0.length : Int)
      ·rw [if_pos c982] at H
       (try rw [(decide_eq_true c982)])
       refine wp_cond_true rfl ?_
       refine wp_skip ?_
       (try simp only [ls0, ls1])
       refine hK980 _ _ ?_
       (try clear hK980 K980)
       refine wp_seq_k fun K983 hK983 => ?_
       refine wp_block ?_
       refine wl_region ?_
       refine mv_ rfl ?_
       refine mv_ rfl ?_
       by_cases c984 : x964 = true
       ·rw [if_pos c984] at H
        (try rw [c984])
        refine on_guard (guard_on 1 true 23 rfl rfl rfl) ?_
        refine st (.pointer (some ⟨g501, 0, none⟩)) rfl rfl (xr_fieldAddr _ _ rfl rfl (bx_field2 Tryd.underlying41 rfl rfl (by kernel_rfl))) ?_
        refine on_guard (guard_on 1 true 23 rfl rfl rfl) ?_
        refine st (.pointer (some ⟨g501, 1, none⟩)) rfl rfl (xr_fieldAddr _ _ rfl rfl (bx_field2 Tryd.underlying33 rfl rfl (by kernel_rfl))) ?_
        simp only [ls0, ls1]
        refine on_guard (guard_on 1 true 23 rfl rfl rfl) ?_
        refine st (.slice A0_1 l0_1.length c0_1) rfl rfl (xr_load _ _ rfl rfl (load_cell Tryd.underlying31 rfl (bx_cell (HJ970).2 1 rfl))) ?_
        refine on_guard (guard_on 1 true 23 rfl rfl rfl) ?_
        refine mv_ rfl ?_
        refine on_guard (guard_on 1 true 23 rfl rfl rfl) ?_
        obtain ⟨c985, H⟩ := if_some H
        obtain ⟨c986, H⟩ := if_some H
        obtain ⟨ad987, hA988⟩ := c_addr (Ft.now HJ967) (pos_of (j := x828) (by first | assumption | decide) (by first | assumption | omega))
        refine st (.pointer (some (ad987.add ((x828 : Int).toNat * 1)))) rfl rfl (xr_indexAddr _ _ _ rfl rfl rfl (index_at Tryd.underlying31 info74 hA988 (by first | assumption | decide | omega) (by first | assumption | decide | omega))) ?_
        refine on_guard (guard_on 1 true 23 rfl rfl rfl) ?_
        obtain ⟨csq990, _, hKq990, hcq990, hinq990⟩ := Ft.elem HJ967 hA988 [] x828 (by first | assumption | decide | omega) (by first | assumption | decide | omega) (by decide)
        obtain ⟨Aq990_0, cpq990_0, rfl, HCq990_0, HRq990_0⟩ := slice_openF hKq990
        replace HRq990_0 : Ft C971 [0] w972 (fun w_ => Kd.bool.C w_ Aq990_0 (rd_L20 l0_1 x828).length (rd_L20 l0_1 x828)) := HRq990_0
        refine st (.slice Aq990_0 (rd_L20 l0_1 x828).length cpq990_0) rfl rfl (xr_load (.pointer (some (ad987.add ((x828 : Int).toNat * 1)))) (.slice Aq990_0 (rd_L20 l0_1 x828).length cpq990_0) rfl rfl (load_cell Tryd.underlying74 rfl (by have h_ := (hcq990 0 _ rfl); rw [add_zero_] at h_; exact h_))) ?_
        simp only [ls0, ls1]
        refine on_guard (guard_on 1 true 23 rfl rfl rfl) ?_
        refine mv_ rfl ?_
        refine on_guard (guard_on 1 true 23 rfl rfl rfl) ?_
        obtain ⟨c991, H⟩ := if_some H
        obtain ⟨c992, H⟩ := if_some H
        obtain ⟨ad993, hA994⟩ := c_addr (Ft.now HRq990_0) (pos_of (j := x965) (by first | assumption | decide) (by first | assumption | omega))
        refine st (.pointer (some (ad993.add ((x965 : Int).toNat * 1)))) rfl rfl (xr_indexAddr _ _ _ rfl rfl rfl (index_at Tryd.underlying74 info4 hA994 (by first | assumption | decide | omega) (by first | assumption | decide | omega))) ?_
        refine on_guard (guard_on 1 true 23 rfl rfl rfl) ?_
        refine st (.bool (rdOf false (rd_L20 l0_1 x828) x965)) rfl rfl (xr_load _ _ rfl rfl (load_bool Tryd.underlying4 rfl hA994 (Ft.now HRq990_0) (by first | assumption | decide | omega) (by first | assumption | decide | omega))) ?_
        refine st (.bool (rdOf false (rd_L20 l0_1 x828) x965)) rfl rfl (xr_pick true _ rfl rfl rfl) ?_
        simp only [ls0, ls1]
        refine as_ rfl ?_
        refine wl_end ?_
        (try simp only [ls0, ls1])
        refine hK983 _ _ ?_
        (try clear hK983 K983)
        refine wl_region ?_
        refine mv_ rfl ?_
        refine st (.int .i64 (wrap64 (x965 + 1))) rfl rfl (xr_bin _ _ _ rfl rfl rfl (B.add_i64 _ _)) ?_
        refine as_ rfl ?_
        refine wl_end ?_
        (try simp only [ls0, ls1])
        exact jmpL (fun a_ h_ => ih976 k979 (by omega) a_ _ h_) (fun g_ => ⟨_, rdOf false (rd_L20 l0_1 x828) x965, wrap64 (x965 + 1), g_, rfl, HS974, (by omega), HJ966, HJ967, HJ968, HJ969, HJ970, H⟩) rfl
       rw [if_neg c984] at H
       (try rw [(Bool.eq_false_iff.mpr c984)])
       refine sk_guard (guard_off 1 true 23 rfl rfl false (by decide) rfl) rfl ?_
       refine sk_guard (guard_off 1 true 23 rfl rfl false (by decide) rfl) rfl ?_
       refine sk_guard (guard_off 1 true 23 rfl rfl false (by decide) rfl) rfl ?_
       refine sk_guard (guard_off 1 true 23 rfl rfl false (by decide) rfl) rfl ?_
       simp only [ls0, ls1]
       refine sk_guard (guard_off 1 true 23 rfl rfl false (by decide) rfl) rfl ?_
       refine sk_guard (guard_off 1 true 23 rfl rfl false (by decide) rfl) rfl ?_
       refine sk_guard (guard_off 1 true 23 rfl rfl false (by decide) rfl) rfl ?_
       refine sk_guard (guard_off 1 true 23 rfl rfl false (by decide) rfl) rfl ?_
       simp only [ls0, ls1]
       refine sk_guard (guard_off 1 true 23 rfl rfl false (by decide) rfl) rfl ?_
       refine st (.bool false) rfl rfl (xr_pick false _ rfl rfl rfl) ?_
       refine as_ rfl ?_
       refine wl_end ?_
       (try simp only [ls0, ls1])
       refine hK983 _ _ ?_
       (try clear hK983 K983)
       refine wl_region ?_
       refine mv_ rfl ?_
       refine st (.int .i64 (wrap64 (x965 + 1))) rfl rfl (xr_bin _ _ _ rfl rfl rfl (B.add_i64 _ _)) ?_
       refine as_ rfl ?_
       refine wl_end ?_
       (try simp only [ls0, ls1])
       exact jmpL (fun a_ h_ => ih976 k979 (by omega) a_ _ h_) (fun g_ => ⟨_, false, wrap64 (x965 + 1), g_, rfl, HS974, (by omega), HJ966, HJ967, HJ968, HJ969, HJ970, H⟩) rfl
      rw [if_neg c982] at H
      (try rw [(decide_eq_false c982)])
      refine wp_cond_false rfl ?_
      refine wp_exit ?_
      (try simp only [ls0, ls1])
      refine hK848 _ _ ?_
      (try clear hK848 K848)
      refine wp_seq_k fun K995 hK995 => ?_
      refine wl_region ?_
      refine mv_ rfl ?_
      refine wl_end ?_
      (try simp only [ls0, ls1])
      refine hK995 _ _ ?_
      (try clear hK995 K995)
      by_cases c996 : x964 = true
      ·rw [if_pos c996] at H
       (try rw [c996])
       refine wp_cond_true rfl ?_
       refine wp_seq_k fun K997 hK997 => ?_
       refine wl_region ?_
       refine mv_ rfl ?_
       refine as_ rfl ?_
       refine wl_end ?_
       (try simp only [ls0, ls1])
       refine hK997 _ _ ?_
       (try clear hK997 K997)
       refine wp_ret ?_
       (try simp only [Exit.inBlock, Exit.then, Exit.noGoto])
       (try simp only [ls0, ls1])
       obtain rfl := Option.some.inj H
       refine bodyPost_ret (results_tmp rfl _ _ _) rfl ?_
       exact ⟨_, rfl, HS974⟩
      rw [if_neg c996] at H
      (try rw [(Bool.eq_false_iff.mpr c996)])
      refine wp_cond_false rfl ?_
      refine wp_skip ?_
      (try simp only [ls0, ls1])
      refine hK846 _ _ ?_
      (try clear hK846 K846)
      refine wl_region ?_
      refine mv_ rfl ?_
      refine st (.int .i64 (wrap64 (x828 + 1))) rfl rfl (xr_bin _ _ _ rfl rfl rfl (B.add_i64 _ _)) ?_
      refine as_ rfl ?_
      refine wl_end ?_
      (try simp only [ls0, ls1])
      exact jmpL (fun a_ h_ => ih839 k979 (by omega) a_ _ h_) (fun g_ => ⟨_, wrap64 (x828 + 1), g_, rfl, HS974, (by omega), HJ966, HJ967, HJ968, HJ969, HJ970, H⟩) rfl
   rw [if_neg c845] at H
   (try rw [(decide_eq_false c845)])
   refine wp_cond_false rfl ?_
   refine wp_exit ?_
   (try simp only [ls0, ls1])
   refine hK506 _ _ ?_
   (try clear hK506 K506)
   refine wp_seq_k fun K998 hK998 => ?_
   refine wl_region ?_
   refine st (.int .i64 (-1)) rfl rfl (xr_assign _ rfl rfl) ?_
   refine wl_end ?_
   (try simp only [ls0, ls1])
   refine hK998 _ _ ?_
   (try clear hK998 K998)
   refine wp_ret ?_
   (try simp only [Exit.inBlock, Exit.then, Exit.noGoto])
   (try simp only [ls0, ls1])
   obtain rfl := Option.some.inj H
   refine bodyPost_ret (results_tmp rfl _ _ _) rfl ?_
   exact ⟨_, rfl, HS837⟩

/-! ### blazonref14_Lattice_Top: function 30 -/
mutual
def blazonref14_Lattice_Top.l0 : Nat → (List ByteArray) → (List (List Bool)) → Int → Bool → Int → Option (Int)
  | 0, _, _, _, _, _ => none
  | k + 1, l0_0, l0_1, x828, x964, x965 => if x965 < (l0_0.length : Int) then (if x964 = true then (if 0 ≤ x965 then (if x965 < (l0_1.length : Int) then (if 0 ≤ x828 then (if x828 < ((rd_L20 l0_1 x965).length : Int) then (blazonref14_Lattice_Top.l0 k l0_0 l0_1 x828 (rdOf false (rd_L20 l0_1 x965) x828) (wrap64 (x965 + 1))) else (none)) else (none)) else (none)) else (none)) else (blazonref14_Lattice_Top.l0 k l0_0 l0_1 x828 false (wrap64 (x965 + 1)))) else (if x964 = true then (some x828) else (blazonref14_Lattice_Top.l1 k l0_0 l0_1 (wrap64 (x828 + 1))))
def blazonref14_Lattice_Top.l1 : Nat → (List ByteArray) → (List (List Bool)) → Int → Option (Int)
  | 0, _, _, _ => none
  | k + 1, l0_0, l0_1, x828 => if x828 < (l0_0.length : Int) then (blazonref14_Lattice_Top.l0 k l0_0 l0_1 x828 true 0) else (some (-1))
end
def blazonref14_Lattice_Top.f (k : Nat) (l0_0 : List ByteArray) (l0_1 : List (List Bool)) (l0_2 : List (List Int)) (l0_3 : List (List Int)) : Option (Int) := blazonref14_Lattice_Top.l1 k l0_0 l0_1 0

set_option maxHeartbeats 2000000 in
set_option maxRecDepth 100000 in
theorem blazonref14_Lattice_Top.calls (k : Nat) (A0_0 : Option Addr) (c0_0 : Nat) (l0_0 : List ByteArray) (A0_1 : Option Addr) (c0_1 : Nat) (l0_1 : List (List Bool)) (A0_2 : Option Addr) (c0_2 : Nat) (l0_2 : List (List Int)) (A0_3 : Option Addr) (c0_3 : Nat) (l0_3 : List (List Int)) (r : Int) (c : Nat → Nat) (w : World) (hc : ∀ k, c k < 10) (HP0_0 : Ft c [0] w (fun w_ => Kd.string.C w_ A0_0 l0_0.length l0_0)) (HCP0_0 : l0_0.length ≤ c0_0) (HP0_1 : Ft c [0] w (fun w_ => (Kd.slice 4 Kd.bool).C w_ A0_1 l0_1.length l0_1)) (HCP0_1 : l0_1.length ≤ c0_1) (HP0_2 : Ft c [0] w (fun w_ => (Kd.slice 3 (Kd.int .i64)).C w_ A0_2 l0_2.length l0_2)) (HCP0_2 : l0_2.length ≤ c0_2) (HP0_3 : Ft c [0] w (fun w_ => (Kd.slice 3 (Kd.int .i64)).C w_ A0_3 l0_3.length l0_3)) (HCP0_3 : l0_3.length ≤ c0_3) (H : blazonref14_Lattice_Top.f k l0_0 l0_1 l0_2 l0_3 = some r) :
    Calls Tryd.prog 30 #[.agg #[.slice A0_0 l0_0.length c0_0, .slice A0_1 l0_1.length c0_1, .slice A0_2 l0_2.length c0_2, .slice A0_3 l0_3.length c0_3]] w fun e w' => ∃ (c' : Nat → Nat) , e = .returned (.int .i64 r) ∧ Step c w c' w' [] := by
 unfold blazonref14_Lattice_Top.f at H
 have HS := Step.refl c w []
 go_enter Tryd.func30, Tryd.ntmps30
 refine wp_seq_k fun K500 hK500 => ?_
 refine wl_region ?_
 refine bx_new (C := c) 41 ([.slice A0_0 l0_0.length c0_0, .slice A0_1 l0_1.length c0_1, .slice A0_2 l0_2.length c0_2, .slice A0_3 l0_3.length c0_3]) 11 rfl rfl (by first | (go_simp; done) | (go_simp; rfl)) ?_
 intro g501 w502 C503 HX504 hs505
 replace HP0_0 := HP0_0.thru hs505 rfl
 replace HP0_1 := HP0_1.thru hs505 rfl
 replace HP0_2 := HP0_2.thru hs505 rfl
 replace HP0_3 := HP0_3.thru hs505 rfl
 replace HS := HS.trans hs505 hc rfl
 (try simp only [ls0, ls1])
 refine st (.int .i64 0) rfl rfl (xr_assign _ rfl rfl) ?_
 refine wl_end ?_
 (try simp only [ls0, ls1])
 refine hK500 _ _ ?_
 (try clear hK500 K500)
 refine wp_seq_k fun K506 hK506 => ?_
 refine wp_seq_k fun K507 hK507 => ?_
 refine wl_region ?_
 refine st (.int .i64 0) rfl rfl (xr_assign _ rfl rfl) ?_
 refine wl_end ?_
 (try simp only [ls0, ls1])
 refine hK507 _ _ ?_
 (try clear hK507 K507)
 refine wp_block ?_
 (try simp only [ls0, ls1])
 refine wp_looped (looped_fin (fun kq836 a_ w835 => ∃ (C834 : Nat → Nat) (x828 : Int) (g_ : Nat → Value), a_ = ⟨#[(g_ 0), .pointer (some ⟨g501, 0, none⟩), (g_ 2), .int .i64 x828, (g_ 4), (g_ 5), (g_ 6), (g_ 7), (g_ 8), (g_ 9), (g_ 10), (g_ 11), (g_ 12), (g_ 13), (g_ 14), (g_ 15), (g_ 16), (g_ 17), (g_ 18), (g_ 19), (g_ 20), (g_ 21), (g_ 22), (g_ 23), (g_ 24), (g_ 25), (g_ 26), (g_ 27), (g_ 28), (g_ 29), (g_ 30), (g_ 31), (g_ 32), (g_ 33), (g_ 34), (g_ 35)], []⟩ ∧ Step c w C834 w835 [] ∧ kq836 ≤ k ∧ (Ft C834 [0] w835 (fun w_ => Kd.string.C w_ A0_0 l0_0.length l0_0)) ∧ (Ft C834 [0] w835 (fun w_ => (Kd.slice 4 Kd.bool).C w_ A0_1 l0_1.length l0_1)) ∧ (Ft C834 [0] w835 (fun w_ => (Kd.slice 3 (Kd.int .i64)).C w_ A0_2 l0_2.length l0_2)) ∧ (Ft C834 [0] w835 (fun w_ => (Kd.slice 3 (Kd.int .i64)).C w_ A0_3 l0_3.length l0_3)) ∧ (Bx C834 11 w835 g501 41 ([.slice A0_0 l0_0.length c0_0, .slice A0_1 l0_1.length c0_1, .slice A0_2 l0_2.length c0_2, .slice A0_3 l0_3.length c0_3])) ∧ blazonref14_Lattice_Top.l1 kq836 l0_0 l0_1 x828 = some r) ?step fun hL_ => ?init)
 case init =>
  exact jmpL (fun a_ h_ => hL_ k a_ _ h_) (fun g_ => ⟨_, 0, g_, rfl, HS, Nat.le_refl _, HP0_0, HP0_1, HP0_2, HP0_3, HX504, H⟩) rfl
 case step =>
  intro kq836 ih839 a840 w835 hr841
  obtain ⟨C834, x828, g_, rfl, HS837, hk838, HJ829, HJ830, HJ831, HJ832, HJ833, H⟩ := hr841
  refine looped_round ?_
  cases kq836 with
  | zero => exact absurd H (by simp [blazonref14_Lattice_Top.l1])
  | succ k842 =>
   simp only [blazonref14_Lattice_Top.l1] at H
   refine wp_seq_k fun K843 hK843 => ?_
   refine wp_seq_k fun K844 hK844 => ?_
   refine wl_region ?_
   refine mv_ rfl ?_
   refine st (.pointer (some ⟨g501, 0, none⟩)) rfl rfl (xr_fieldAddr _ _ rfl rfl (bx_field2 Tryd.underlying41 rfl rfl (by kernel_rfl))) ?_
   refine st (.pointer (some ⟨g501, 0, none⟩)) rfl rfl (xr_fieldAddr _ _ rfl rfl (bx_field2 Tryd.underlying33 rfl rfl (by kernel_rfl))) ?_
   refine st (.slice A0_0 l0_0.length c0_0) rfl rfl (xr_load _ _ rfl rfl (load_cell Tryd.underlying30 rfl (bx_cell (HJ833).2 0 rfl))) ?_
   simp only [ls0, ls1]
   refine st (.int .i64 (l0_0.length : Int)) rfl rfl (xr_builtin #[.slice A0_0 l0_0.length c0_0] (.int .i64 (l0_0.length : Int)) rfl (mp_ rfl) (by first | rfl | (go_simp; done) | (go_simp; rfl) | (go_simp; exact i64_w _) | (go_simp; exact i32_w _))) ?_
   refine st (.bool (decide (x828 < (l0_0.length : Int)))) rfl rfl (xr_bin _ _ _ rfl rfl rfl (B.lss_i64 _ _)) ?_
   refine wl_end ?_
   (try simp only [ls0, ls1])
   refine hK844 _ _ ?_
   (try clear hK844 K844)
   by_cases c845 : x828 < (l0_0.length : Int)
   ·rw [if_pos c845] at H
    (try rw [(decide_eq_true c845)])
    refine wp_cond_true rfl ?_
    refine wp_skip ?_
    (try simp only [ls0, ls1])
    refine hK843 _ _ ?_
    (try clear hK843 K843)
    refine wp_seq_k fun K846 hK846 => ?_
    refine wp_block ?_
    refine wp_seq_k fun K847 hK847 => ?_
    refine wl_region ?_
    refine st (.bool true) rfl rfl (xr_assign _ rfl rfl) ?_
    refine wl_end ?_
    (try simp only [ls0, ls1])
    refine hK847 _ _ ?_
    (try clear hK847 K847)
    refine wp_seq_k fun K848 hK848 => ?_
    refine wp_seq_k fun K922 hK922 => ?_
    refine wl_region ?_
    refine st (.int .i64 0) rfl rfl (xr_assign _ rfl rfl) ?_
    refine wl_end ?_
    (try simp only [ls0, ls1])
    refine hK922 _ _ ?_
    (try clear hK922 K922)
    refine wp_block ?_
    (try simp only [ls0, ls1])
    refine wp_looped (looped_fin (fun kq973 a_ w972 => ∃ (C971 : Nat → Nat) (x964 : Bool) (x965 : Int) (g_ : Nat → Value), a_ = ⟨#[(g_ 0), .pointer (some ⟨g501, 0, none⟩), (g_ 2), .int .i64 x828, .bool x964, .int .i64 x965, (g_ 6), (g_ 7), (g_ 8), (g_ 9), (g_ 10), (g_ 11), (g_ 12), (g_ 13), (g_ 14), (g_ 15), (g_ 16), (g_ 17), (g_ 18), (g_ 19), (g_ 20), (g_ 21), (g_ 22), (g_ 23), (g_ 24), (g_ 25), (g_ 26), (g_ 27), (g_ 28), (g_ 29), (g_ 30), (g_ 31), (g_ 32), (g_ 33), (g_ 34), (g_ 35)], []⟩ ∧ Step c w C971 w972 [] ∧ kq973 ≤ k842 ∧ (Ft C971 [0] w972 (fun w_ => Kd.string.C w_ A0_0 l0_0.length l0_0)) ∧ (Ft C971 [0] w972 (fun w_ => (Kd.slice 4 Kd.bool).C w_ A0_1 l0_1.length l0_1)) ∧ (Ft C971 [0] w972 (fun w_ => (Kd.slice 3 (Kd.int .i64)).C w_ A0_2 l0_2.length l0_2)) ∧ (Ft C971 [0] w972 (fun w_ => (Kd.slice 3 (Kd.int .i64)).C w_ A0_3 l0_3.length l0_3)) ∧ (Bx C971 11 w972 g501 41 ([.slice A0_0 l0_0.length c0_0, .slice A0_1 l0_1.length c0_1, .slice A0_2 l0_2.length c0_2, .slice A0_3 l0_3.length c0_3])) ∧ blazonref14_Lattice_Top.l0 kq973 l0_0 l0_1 x828 x964 x965 = some r) ?step fun hL_ => ?init)
    case init =>
     exact jmpL (fun a_ h_ => hL_ k842 a_ _ h_) (fun g_ => ⟨_, true, 0, g_, rfl, HS837, Nat.le_refl _, HJ829, HJ830, HJ831, HJ832, HJ833, H⟩) rfl
    case step =>
     intro kq973 ih976 a977 w972 hr978
     obtain ⟨C971, x964, x965, g_, rfl, HS974, hk975, HJ966, HJ967, HJ968, HJ969, HJ970, H⟩ := hr978
     refine looped_round ?_
     cases kq973 with
     | zero => exact absurd H (by simp [blazonref14_Lattice_Top.l0])
     | succ k979 =>
      simp only [blazonref14_Lattice_Top.l0] at H
      refine wp_seq_k fun K980 hK980 => ?_
      refine wp_seq_k fun K981 hK981 => ?_
      refine wl_region ?_
      refine mv_ rfl ?_
      refine st (.pointer (some ⟨g501, 0, none⟩)) rfl rfl (xr_fieldAddr _ _ rfl rfl (bx_field2 Tryd.underlying41 rfl rfl (by kernel_rfl))) ?_
      refine st (.pointer (some ⟨g501, 0, none⟩)) rfl rfl (xr_fieldAddr _ _ rfl rfl (bx_field2 Tryd.underlying33 rfl rfl (by kernel_rfl))) ?_
      refine st (.slice A0_0 l0_0.length c0_0) rfl rfl (xr_load _ _ rfl rfl (load_cell Tryd.underlying30 rfl (bx_cell (HJ970).2 0 rfl))) ?_
      simp only [ls0, ls1]
      refine st (.int .i64 (l0_0.length : Int)) rfl rfl (xr_builtin #[.slice A0_0 l0_0.length c0_0] (.int .i64 (l0_0.length : Int)) rfl (mp_ rfl) (by first | rfl | (go_simp; done) | (go_simp; rfl) | (go_simp; exact i64_w _) | (go_simp; exact i32_w _))) ?_
      refine st (.bool (decide (x965 < (l0_0.length : Int)))) rfl rfl (xr_bin _ _ _ rfl rfl rfl (B.lss_i64 _ _)) ?_
      refine wl_end ?_
      (try simp only [ls0, ls1])
      refine hK981 _ _ ?_
      (try clear hK981 K981)
      by_cases c982 : x965 < (l0_0.length : Int)
      ·rw [if_pos c982] at H
       (try rw [(decide_eq_true c982)])
       refine wp_cond_true rfl ?_
       refine wp_skip ?_
       (try simp only [ls0, ls1])
       refine hK980 _ _ ?_
       (try clear hK980 K980)
       refine wp_seq_k fun K983 hK983 => ?_
       refine wp_block ?_
       refine wl_region ?_
       refine mv_ rfl ?_
       refine mv_ rfl ?_
       by_cases c984 : x964 = true
       ·rw [if_pos c984] at H
        (try rw [c984])
        refine on_guard (guard_on 1 true 23 rfl rfl rfl) ?_
        refine st (.pointer (some ⟨g501, 0, none⟩)) rfl rfl (xr_fieldAddr _ _ rfl rfl (bx_field2 Tryd.underlying41 rfl rfl (by kernel_rfl))) ?_
        refine on_guard (guard_on 1 true 23 rfl rfl rfl) ?_
        refine st (.pointer (some ⟨g501, 1, none⟩)) rfl rfl (xr_fieldAddr _ _ rfl rfl (bx_field2 Tryd.underlying33 rfl rfl (by kernel_rfl))) ?_
        simp only [ls0, ls1]
        refine on_guard (guard_on 1 true 23 rfl rfl rfl) ?_
        refine st (.slice A0_1 l0_1.length c0_1) rfl rfl (xr_load _ _ rfl rfl (load_cell Tryd.underlying31 rfl (bx_cell (HJ970).2 1 rfl))) ?_
        refine on_guard (guard_on 1 true 23 rfl rfl rfl) ?_
        refine mv_ rfl ?_
        refine on_guard (guard_on 1 true 23 rfl rfl rfl) ?_
        obtain ⟨c985, H⟩ := if_some H
        obtain ⟨c986, H⟩ := if_some H
        obtain ⟨ad987, hA988⟩ := c_addr (Ft.now HJ967) (pos_of (j := x965) (by first | assumption | decide) (by first | assumption | omega))
        refine st (.pointer (some (ad987.add ((x965 : Int).toNat * 1)))) rfl rfl (xr_indexAddr _ _ _ rfl rfl rfl (index_at Tryd.underlying31 info74 hA988 (by first | assumption | decide | omega) (by first | assumption | decide | omega))) ?_
        refine on_guard (guard_on 1 true 23 rfl rfl rfl) ?_
        obtain ⟨csq990, _, hKq990, hcq990, hinq990⟩ := Ft.elem HJ967 hA988 [] x965 (by first | assumption | decide | omega) (by first | assumption | decide | omega) (by decide)
        obtain ⟨Aq990_0, cpq990_0, rfl, HCq990_0, HRq990_0⟩ := slice_openF hKq990
        replace HRq990_0 : Ft C971 [0] w972 (fun w_ => Kd.bool.C w_ Aq990_0 (rd_L20 l0_1 x965).length (rd_L20 l0_1 x965)) := HRq990_0
        refine st (.slice Aq990_0 (rd_L20 l0_1 x965).length cpq990_0) rfl rfl (xr_load (.pointer (some (ad987.add ((x965 : Int).toNat * 1)))) (.slice Aq990_0 (rd_L20 l0_1 x965).length cpq990_0) rfl rfl (load_cell Tryd.underlying74 rfl (by have h_ := (hcq990 0 _ rfl); rw [add_zero_] at h_; exact h_))) ?_
        simp only [ls0, ls1]
        refine on_guard (guard_on 1 true 23 rfl rfl rfl) ?_
        refine mv_ rfl ?_
        refine on_guard (guard_on 1 true 23 rfl rfl rfl) ?_
        obtain ⟨c991, H⟩ := if_some H
        obtain ⟨c992, H⟩ := if_some H
        obtain ⟨ad993, hA994⟩ := c_addr (Ft.now HRq990_0) (pos_of (j := x828) (by first | assumption | decide) (by first | assumption | omega))
        refine st (.pointer (some (ad993.add ((x828 : Int).toNat * 1)))) rfl rfl (xr_indexAddr _ _ _ rfl rfl rfl (index_at Tryd.underlying74 info4 hA994 (by first | assumption | decide | omega) (by first | assumption | decide | omega))) ?_
        refine on_guard (guard_on 1 true 23 rfl rfl rfl) ?_
        refine st (.bool (rdOf false (rd_L20 l0_1 x965) x828)) rfl rfl (xr_load _ _ rfl rfl (load_bool Tryd.underlying4 rfl hA994 (Ft.now HRq990_0) (by first | assumption | decide | omega) (by first | assumption | decide | omega))) ?_
        refine st (.bool (rdOf false (rd_L20 l0_1 x965) x828)) rfl rfl (xr_pick true _ rfl rfl rfl) ?_
        simp only [ls0, ls1]
        refine as_ rfl ?_
        refine wl_end ?_
        (try simp only [ls0, ls1])
        refine hK983 _ _ ?_
        (try clear hK983 K983)
        refine wl_region ?_
        refine mv_ rfl ?_
        refine st (.int .i64 (wrap64 (x965 + 1))) rfl rfl (xr_bin _ _ _ rfl rfl rfl (B.add_i64 _ _)) ?_
        refine as_ rfl ?_
        refine wl_end ?_
        (try simp only [ls0, ls1])
        exact jmpL (fun a_ h_ => ih976 k979 (by omega) a_ _ h_) (fun g_ => ⟨_, rdOf false (rd_L20 l0_1 x965) x828, wrap64 (x965 + 1), g_, rfl, HS974, (by omega), HJ966, HJ967, HJ968, HJ969, HJ970, H⟩) rfl
       rw [if_neg c984] at H
       (try rw [(Bool.eq_false_iff.mpr c984)])
       refine sk_guard (guard_off 1 true 23 rfl rfl false (by decide) rfl) rfl ?_
       refine sk_guard (guard_off 1 true 23 rfl rfl false (by decide) rfl) rfl ?_
       refine sk_guard (guard_off 1 true 23 rfl rfl false (by decide) rfl) rfl ?_
       refine sk_guard (guard_off 1 true 23 rfl rfl false (by decide) rfl) rfl ?_
       simp only [ls0, ls1]
       refine sk_guard (guard_off 1 true 23 rfl rfl false (by decide) rfl) rfl ?_
       refine sk_guard (guard_off 1 true 23 rfl rfl false (by decide) rfl) rfl ?_
       refine sk_guard (guard_off 1 true 23 rfl rfl false (by decide) rfl) rfl ?_
       refine sk_guard (guard_off 1 true 23 rfl rfl false (by decide) rfl) rfl ?_
       simp only [ls0, ls1]
       refine sk_guard (guard_off 1 true 23 rfl rfl false (by decide) rfl) rfl ?_
       refine st (.bool false) rfl rfl (xr_pick false _ rfl rfl rfl) ?_
       refine as_ rfl ?_
       refine wl_end ?_
       (try simp only [ls0, ls1])
       refine hK983 _ _ ?_
       (try clear hK983 K983)
       refine wl_region ?_
       refine mv_ rfl ?_
       refine st (.int .i64 (wrap64 (x965 + 1))) rfl rfl (xr_bin _ _ _ rfl rfl rfl (B.add_i64 _ _)) ?_
       refine as_ rfl ?_
       refine wl_end ?_
       (try simp only [ls0, ls1])
       exact jmpL (fun a_ h_ => ih976 k979 (by omega) a_ _ h_) (fun g_ => ⟨_, false, wrap64 (x965 + 1), g_, rfl, HS974, (by omega), HJ966, HJ967, HJ968, HJ969, HJ970, H⟩) rfl
      rw [if_neg c982] at H
      (try rw [(decide_eq_false c982)])
      refine wp_cond_false rfl ?_
      refine wp_exit ?_
      (try simp only [ls0, ls1])
      refine hK848 _ _ ?_
      (try clear hK848 K848)
      refine wp_seq_k fun K995 hK995 => ?_
      refine wl_region ?_
      refine mv_ rfl ?_
      refine wl_end ?_
      (try simp only [ls0, ls1])
      refine hK995 _ _ ?_
      (try clear hK995 K995)
      by_cases c996 : x964 = true
      ·rw [if_pos c996] at H
       (try rw [c996])
       refine wp_cond_true rfl ?_
       refine wp_seq_k fun K997 hK997 => ?_
       refine wl_region ?_
       refine mv_ rfl ?_
       refine as_ rfl ?_
       refine wl_end ?_
       (try simp only [ls0, ls1])
       refine hK997 _ _ ?_
       (try clear hK997 K997)
       refine wp_ret ?_
       (try simp only [Exit.inBlock, Exit.then, Exit.noGoto])
       (try simp only [ls0, ls1])
       obtain rfl := Option.some.inj H
       refine bodyPost_ret (results_tmp rfl _ _ _) rfl ?_
       exact ⟨_, rfl, HS974⟩
      rw [if_neg c996] at H
      (try rw [(Bool.eq_false_iff.mpr c996)])
      refine wp_cond_false rfl ?_
      refine wp_skip ?_
      (try simp only [ls0, ls1])
      refine hK846 _ _ ?_
      (try clear hK846 K846)
      refine wl_region ?_
      refine mv_ rfl ?_
      refine st (.int .i64 (wrap64 (x828 + 1))) rfl rfl (xr_bin _ _ _ rfl rfl rfl (B.add_i64 _ _)) ?_
      refine as_ rfl ?_
      refine wl_end ?_
      (try simp only [ls0, ls1])
      exact jmpL (fun a_ h_ => ih839 k979 (by omega) a_ _ h_) (fun g_ => ⟨_, wrap64 (x828 + 1), g_, rfl, HS974, (by omega), HJ966, HJ967, HJ968, HJ969, HJ970, H⟩) rfl
   rw [if_neg c845] at H
   (try rw [(decide_eq_false c845)])
   refine wp_cond_false rfl ?_
   refine wp_exit ?_
   (try simp only [ls0, ls1])
   refine hK506 _ _ ?_
   (try clear hK506 K506)
   refine wp_seq_k fun K998 hK998 => ?_
   refine wl_region ?_
   refine st (.int .i64 (-1)) rfl rfl (xr_assign _ rfl rfl) ?_
   refine wl_end ?_
   (try simp only [ls0, ls1])
   refine hK998 _ _ ?_
   (try clear hK998 K998)
   refine wp_ret ?_
   (try simp only [Exit.inBlock, Exit.then, Exit.noGoto])
   (try simp only [ls0, ls1])
   obtain rfl := Option.some.inj H
   refine bodyPost_ret (results_tmp rfl _ _ _) rfl ?_
   exact ⟨_, rfl, HS837⟩

end Go.Proofs.YtpfepkkpbampkaaDoor.PLnw
