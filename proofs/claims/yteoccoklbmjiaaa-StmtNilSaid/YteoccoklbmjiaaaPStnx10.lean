-- By cprint.py, a program of this work. Lean checks it.
import Derived.Test.YteoccoklbmjiaaaPStnx0
import Derived.Test.YteoccoklbmjiaaaPStnx7
import Derived.Test.YteoccoklbmjiaaaPStnx9
namespace Go.Proofs.Yteoccoklbmjiaaa.PStn
open Go.RowKit Go.Proofs.YteoccoklbmjiaaaW.PrintWords Go.Proofs.YteoccoklbmjiaaaW.PrintLast Go.Proofs.YteoccoklbmjiaaaW.PrintMore
set_option linter.unusedVariables false
set_option linter.unusedSimpArgs false

theorem field_at3 {P : Program} {W : World} {t : TypeId} {fs : Array Field} {f : Field} {a : Addr} {j o o' : Nat} (ht : P.underlying t = some (.struct fs)) (hf : fs[j]? = some f) (ho : f.offset = o') (hi : ((P.info? f.type).map fun i => decide (i.size ≠ 0)) = some true) : (Instr.fieldAt t (.pointer (some (a.add o))) j).run P W = .ok (.pointer (some (a.add (o + o')))) W := by
  rw [← add_add]; exact field_at2 ht hf ho hi

/-! ### blazonlaw09_awake: function 54 -/
def blazonlaw09_awake.f (k : Nat)  : Option (Bool) := (some ([108, 101, 116, 32, 120, 58, 32, 105, 110, 116, 32, 64, 108, 111, 119, 32, 61, 32, 49, 59] : List Int)).bind fun y55 => ((stmt_Parse.f k y55).bind fun bt64 => (if (bt64.1.length : Int) = 1 then (if bt64.2.1 = 20 then (if bt64.2.2 = 0 then (if 0 < (bt64.1.length : Int) then (if ((rd_T89 bt64.1 0).f0) = 0 then (if (rd_T89 bt64.1 0).f4.f0 = true then (if ((rd_T89 bt64.1 0).f4.f3) = 12 then (if ((rd_T89 bt64.1 0).f4.f4) = 15 then (some (decide (((rd_T89 bt64.1 0).f5.f2) = 1))) else (some false)) else (some false)) else (some false)) else (some false)) else (none)) else (some false)) else (some false)) else (some false)))

set_option maxHeartbeats 8000000 in
set_option maxRecDepth 100000 in
theorem blazonlaw09_awake.calls (k : Nat)  (r : Bool) (c : Nat → Nat) (w : World) (hc : ∀ k, c k < 10)  (H : blazonlaw09_awake.f k = some r) :
    Calls Try.prog 54 #[] w fun e w' => ∃ (c' : Nat → Nat) , e = .returned (.bool r) ∧ Step c w c' w' [] := by
 unfold blazonlaw09_awake.f at H
 have HS := Step.refl c w []
 go_enter Try.func54, Try.ntmps54
 refine wp_seq_k fun K53 hK53 => ?_
 refine wl_region ?_
 refine st (.bool false) rfl rfl (xr_assign _ rfl rfl) ?_
 refine wl_end ?_
 (try simp only [ls0, ls1])
 refine hK53 _ _ ?_
 (try clear hK53 K53)
 refine wp_seq_k fun K54 hK54 => ?_
 refine wl_region ?_
 obtain ⟨y55, A56, H⟩ := bnd H
 refine own_litconv (C := c) 5 rfl rfl (xs := [108, 101, 116, 32, 120, 58, 32, 105, 110, 116, 32, 64, 108, 111, 119, 32, 61, 32, 49, 59]) (inner := [.int .u8 108, .int .u8 101, .int .u8 116, .int .u8 32, .int .u8 120, .int .u8 58, .int .u8 32, .int .u8 105, .int .u8 110, .int .u8 116, .int .u8 32, .int .u8 64, .int .u8 108, .int .u8 111, .int .u8 119, .int .u8 32, .int .u8 61, .int .u8 32, .int .u8 49, .int .u8 59]) (by first | (go_simp; done) | (go_simp; rfl)) rfl 22 rfl _ rfl rfl Try.underlying22 Try.underlying5 (by simp only [List.length_cons, List.length_nil]; omega) 11 (Option.some.inj A56) ?_
 intro A57 cp58 w59 C60 HO61 HC62 hs63
 replace HS := HS.trans hs63 hc rfl
 (try simp only [Act.put, List.setIfInBounds_toArray, ls0, ls1])
 (try simp only [ls0, ls1])
 replace HO61 := Ft.recolor (a := 11) (b := 0) HO61 [0] rfl
 replace HS := Step.recol (a := 11) (b := 0) HS hc (by decide)
 obtain ⟨⟨t64, t65, t66⟩, A67, H⟩ := bnd H
 (try dsimp only at H)
 refine st_call #[.slice A57 y55.length cp58] rfl rfl Try.func55 (by kernel_rfl) rfl rfl (mp_ rfl) ?_
 refine (stmt_Parse.calls k A57 cp58 y55 t64 t65 t66  (fun z_ => pal [(0, 0)] ((recol C60 11 0) z_)) w59 (fun _ => pal_lt rfl _) (Ft.arg HO61 rfl) HC62 A67).mono ?_
 rintro _ w69 ⟨C70, A72, cp73, rfl, hs71, HO74, HC75⟩
 refine ⟨_, rfl, ?_⟩
 replace HO74 := Own.res (U := [(0, 0), (5, 12)]) (j := 12) HO74 hs71 (by rfl) (by decide) rfl rfl
 replace hs71 := Step.lift (U := [(0, 0), (5, 12)]) hs71 [] rfl rfl
 generalize up (recol C60 11 0) C70 w59.heap.size [(0, 0), (5, 12)] = C70_ at HO74 hs71
 replace HS := HS.trans hs71 hc rfl
 (try simp only [ls0, ls1])
 refine mv_ rfl ?_
 refine st (.slice A72 t64.length cp73) rfl rfl (xr_extract (.tuple #[.slice A72 t64.length cp73, .int .i64 t65, .int .i64 t66]) _ rfl rfl rfl) ?_
 refine st (.int .i64 t65) rfl rfl (xr_extract (.tuple #[.slice A72 t64.length cp73, .int .i64 t65, .int .i64 t66]) _ rfl rfl rfl) ?_
 refine st (.int .i64 t66) rfl rfl (xr_extract (.tuple #[.slice A72 t64.length cp73, .int .i64 t65, .int .i64 t66]) _ rfl rfl rfl) ?_
 simp only [ls0, ls1]
 refine as_ rfl ?_
 refine as_ rfl ?_
 refine as_ rfl ?_
 refine wl_end ?_
 (try simp only [ls0, ls1])
 refine hK54 _ _ ?_
 (try clear hK54 K54)
 refine wp_seq_k fun K76 hK76 => ?_
 refine wl_region ?_
 refine mv_ rfl ?_
 refine st (.int .i64 (t64.length : Int)) rfl rfl (xr_builtin #[.slice A72 t64.length cp73] (.int .i64 (t64.length : Int)) rfl (mp_ rfl) (by first | rfl | (go_simp; done) | (go_simp; rfl) | (go_simp; exact i64_w _) | (go_simp; exact i32_w _))) ?_
 refine st (.bool (decide ((t64.length : Int) = 1))) rfl rfl (xr_bin _ _ _ rfl rfl rfl (B.eql_i64 _ _)) ?_
 refine mv_ rfl ?_
 simp only [ls0, ls1]
 by_cases c77 : (t64.length : Int) = 1
 ·rw [if_pos c77] at H
  (try rw [(decide_eq_true c77)])
  refine on_guard (guard_on 3 true 14 rfl rfl rfl) ?_
  refine mv_ rfl ?_
  refine on_guard (guard_on 3 true 14 rfl rfl rfl) ?_
  refine st (.bool (decide (t65 = 20))) rfl rfl (xr_bin _ _ _ rfl rfl rfl (B.eql_i64 _ _)) ?_
  refine st (.bool (decide (t65 = 20))) rfl rfl (xr_pick true _ rfl rfl rfl) ?_
  refine mv_ rfl ?_
  simp only [ls0, ls1]
  by_cases c78 : t65 = 20
  ·rw [if_pos c78] at H
   (try rw [(decide_eq_true c78)])
   refine on_guard (guard_on 7 true 18 rfl rfl rfl) ?_
   refine mv_ rfl ?_
   refine on_guard (guard_on 7 true 18 rfl rfl rfl) ?_
   refine st (.bool (decide (t66 = 0))) rfl rfl (xr_bin _ _ _ rfl rfl rfl (B.eql_i64 _ _)) ?_
   refine st (.bool (decide (t66 = 0))) rfl rfl (xr_pick true _ rfl rfl rfl) ?_
   refine mv_ rfl ?_
   simp only [ls0, ls1]
   by_cases c79 : t66 = 0
   ·rw [if_pos c79] at H
    (try rw [(decide_eq_true c79)])
    refine on_guard (guard_on 11 true 22 rfl rfl rfl) ?_
    refine mv_ rfl ?_
    refine on_guard (guard_on 11 true 22 rfl rfl rfl) ?_
    obtain ⟨c80, H⟩ := if_some H
    obtain ⟨g81, hA82⟩ := HO74.form (pos_of (j := 0) (by first | assumption | decide) (by first | assumption | omega))
    refine st (.pointer (some ((⟨g81, 0, none⟩ : Addr).add ((0 : Int).toNat * 17)))) rfl rfl (xr_indexAddr _ _ _ rfl rfl rfl (index_at Try.underlying72 info89 hA82 (by first | assumption | decide | omega) (by first | assumption | decide | omega))) ?_
    refine on_guard (guard_on 11 true 22 rfl rfl rfl) ?_
    refine st (.pointer (some (((⟨g81, 0, none⟩ : Addr).add ((0 : Int).toNat * 17)).add 0))) rfl rfl (xr_fieldAddr _ _ rfl rfl (field_at2 Try.underlying89 rfl rfl (by kernel_rfl))) ?_
    refine on_guard (guard_on 11 true 22 rfl rfl rfl) ?_
    obtain ⟨csq84, _, hKq84, hcq84, hinq84⟩ := Ft.elem (HO74.ft) hA82 z89 0 (by first | assumption | decide | omega) (by first | assumption | decide | omega) (by decide)
    obtain ⟨Aq84_14, cpq84_14, Aq84_15, cpq84_15, Aq84_16, cpq84_16, rfl, HCq84_14, HRq84_14, HCq84_15, HRq84_15, HCq84_16, HRq84_16⟩ := k89_openF hKq84
    replace HRq84_14 : Ft C70_ [12, 0] w69 (fun w_ => k44.C w_ Aq84_14 (rd_T89 t64 0).f5.f5.length (rd_T89 t64 0).f5.f5) := HRq84_14
    replace HRq84_15 : Ft C70_ [12, 0] w69 (fun w_ => k89.C w_ Aq84_15 (rd_T89 t64 0).f6.length (rd_T89 t64 0).f6) := HRq84_15
    replace HRq84_16 : Ft C70_ [12, 0] w69 (fun w_ => k89.C w_ Aq84_16 (rd_T89 t64 0).f7.length (rd_T89 t64 0).f7) := HRq84_16
    refine st (.int .i64 ((rd_T89 t64 0).f0)) rfl rfl (xr_load (.pointer (some (((⟨g81, 0, none⟩ : Addr).add ((0 : Int).toNat * 17)).add 0))) (.int .i64 ((rd_T89 t64 0).f0)) rfl rfl (load_cell Try.underlying3 rfl (by have h_ := (hcq84 0 _ rfl); rw [add_zero_] at h_; exact h_))) ?_
    simp only [ls0, ls1]
    refine on_guard (guard_on 11 true 22 rfl rfl rfl) ?_
    refine st (.bool (decide (((rd_T89 t64 0).f0) = 0))) rfl rfl (xr_bin _ _ _ rfl rfl rfl (B.eql_i64 _ _)) ?_
    refine st (.bool (decide (((rd_T89 t64 0).f0) = 0))) rfl rfl (xr_pick true _ rfl rfl rfl) ?_
    refine mv_ rfl ?_
    by_cases c85 : ((rd_T89 t64 0).f0) = 0
    ·rw [if_pos c85] at H
     (try rw [(decide_eq_true c85)])
     refine on_guard (guard_on 18 true 29 rfl rfl rfl) ?_
     refine mv_ rfl ?_
     simp only [ls0, ls1]
     refine on_guard (guard_on 18 true 29 rfl rfl rfl) ?_
     obtain ⟨g86, hA87⟩ := HO74.form (pos_of (j := 0) (by first | assumption | decide) (by first | assumption | omega))
     refine st (.pointer (some ((⟨g86, 0, none⟩ : Addr).add ((0 : Int).toNat * 17)))) rfl rfl (xr_indexAddr _ _ _ rfl rfl rfl (index_at Try.underlying72 info89 hA87 (by first | assumption | decide | omega) (by first | assumption | decide | omega))) ?_
     refine on_guard (guard_on 18 true 29 rfl rfl rfl) ?_
     refine st (.pointer (some (((⟨g86, 0, none⟩ : Addr).add ((0 : Int).toNat * 17)).add 4))) rfl rfl (xr_fieldAddr _ _ rfl rfl (field_at2 Try.underlying89 rfl rfl (by kernel_rfl))) ?_
     refine on_guard (guard_on 18 true 29 rfl rfl rfl) ?_
     refine st (.pointer (some (((⟨g86, 0, none⟩ : Addr).add ((0 : Int).toNat * 17)).add (4 + 0)))) rfl rfl (xr_fieldAddr _ _ rfl rfl (field_at3 Try.underlying82 rfl rfl (by kernel_rfl))) ?_
     refine on_guard (guard_on 18 true 29 rfl rfl rfl) ?_
     obtain ⟨csq89, _, hKq89, hcq89, hinq89⟩ := Ft.elem (HO74.ft) hA87 z89 0 (by first | assumption | decide | omega) (by first | assumption | decide | omega) (by decide)
     obtain ⟨Aq89_14, cpq89_14, Aq89_15, cpq89_15, Aq89_16, cpq89_16, rfl, HCq89_14, HRq89_14, HCq89_15, HRq89_15, HCq89_16, HRq89_16⟩ := k89_openF hKq89
     replace HRq89_14 : Ft C70_ [12, 0] w69 (fun w_ => k44.C w_ Aq89_14 (rd_T89 t64 0).f5.f5.length (rd_T89 t64 0).f5.f5) := HRq89_14
     replace HRq89_15 : Ft C70_ [12, 0] w69 (fun w_ => k89.C w_ Aq89_15 (rd_T89 t64 0).f6.length (rd_T89 t64 0).f6) := HRq89_15
     replace HRq89_16 : Ft C70_ [12, 0] w69 (fun w_ => k89.C w_ Aq89_16 (rd_T89 t64 0).f7.length (rd_T89 t64 0).f7) := HRq89_16
     refine st (.bool ((rd_T89 t64 0).f4.f0)) rfl rfl (xr_load (.pointer (some (((⟨g86, 0, none⟩ : Addr).add ((0 : Int).toNat * 17)).add (4 + 0)))) (.bool ((rd_T89 t64 0).f4.f0)) rfl rfl (load_cell Try.underlying4 rfl (hcq89 4 _ rfl))) ?_
     simp only [ls0, ls1]
     refine st (.bool ((rd_T89 t64 0).f4.f0)) rfl rfl (xr_pick true _ rfl rfl rfl) ?_
     refine mv_ rfl ?_
     by_cases c90 : (rd_T89 t64 0).f4.f0 = true
     ·rw [if_pos c90] at H
      (try rw [c90])
      refine on_guard (guard_on 25 true 36 rfl rfl rfl) ?_
      refine mv_ rfl ?_
      refine on_guard (guard_on 25 true 36 rfl rfl rfl) ?_
      obtain ⟨g91, hA92⟩ := HO74.form (pos_of (j := 0) (by first | assumption | decide) (by first | assumption | omega))
      refine st (.pointer (some ((⟨g91, 0, none⟩ : Addr).add ((0 : Int).toNat * 17)))) rfl rfl (xr_indexAddr _ _ _ rfl rfl rfl (index_at Try.underlying72 info89 hA92 (by first | assumption | decide | omega) (by first | assumption | decide | omega))) ?_
      simp only [ls0, ls1]
      refine on_guard (guard_on 25 true 36 rfl rfl rfl) ?_
      refine st (.pointer (some (((⟨g91, 0, none⟩ : Addr).add ((0 : Int).toNat * 17)).add 4))) rfl rfl (xr_fieldAddr _ _ rfl rfl (field_at2 Try.underlying89 rfl rfl (by kernel_rfl))) ?_
      refine on_guard (guard_on 25 true 36 rfl rfl rfl) ?_
      refine st (.pointer (some (((⟨g91, 0, none⟩ : Addr).add ((0 : Int).toNat * 17)).add (4 + 3)))) rfl rfl (xr_fieldAddr _ _ rfl rfl (field_at3 Try.underlying82 rfl rfl (by kernel_rfl))) ?_
      refine on_guard (guard_on 25 true 36 rfl rfl rfl) ?_
      obtain ⟨csq94, _, hKq94, hcq94, hinq94⟩ := Ft.elem (HO74.ft) hA92 z89 0 (by first | assumption | decide | omega) (by first | assumption | decide | omega) (by decide)
      obtain ⟨Aq94_14, cpq94_14, Aq94_15, cpq94_15, Aq94_16, cpq94_16, rfl, HCq94_14, HRq94_14, HCq94_15, HRq94_15, HCq94_16, HRq94_16⟩ := k89_openF hKq94
      replace HRq94_14 : Ft C70_ [12, 0] w69 (fun w_ => k44.C w_ Aq94_14 (rd_T89 t64 0).f5.f5.length (rd_T89 t64 0).f5.f5) := HRq94_14
      replace HRq94_15 : Ft C70_ [12, 0] w69 (fun w_ => k89.C w_ Aq94_15 (rd_T89 t64 0).f6.length (rd_T89 t64 0).f6) := HRq94_15
      replace HRq94_16 : Ft C70_ [12, 0] w69 (fun w_ => k89.C w_ Aq94_16 (rd_T89 t64 0).f7.length (rd_T89 t64 0).f7) := HRq94_16
      refine st (.int .i64 ((rd_T89 t64 0).f4.f3)) rfl rfl (xr_load (.pointer (some (((⟨g91, 0, none⟩ : Addr).add ((0 : Int).toNat * 17)).add (4 + 3)))) (.int .i64 ((rd_T89 t64 0).f4.f3)) rfl rfl (load_cell Try.underlying3 rfl (hcq94 7 _ rfl))) ?_
      refine on_guard (guard_on 25 true 36 rfl rfl rfl) ?_
      refine st (.bool (decide (((rd_T89 t64 0).f4.f3) = 12))) rfl rfl (xr_bin _ _ _ rfl rfl rfl (B.eql_i64 _ _)) ?_
      simp only [ls0, ls1]
      refine st (.bool (decide (((rd_T89 t64 0).f4.f3) = 12))) rfl rfl (xr_pick true _ rfl rfl rfl) ?_
      refine mv_ rfl ?_
      by_cases c95 : ((rd_T89 t64 0).f4.f3) = 12
      ·rw [if_pos c95] at H
       (try rw [(decide_eq_true c95)])
       refine on_guard (guard_on 33 true 44 rfl rfl rfl) ?_
       refine mv_ rfl ?_
       refine on_guard (guard_on 33 true 44 rfl rfl rfl) ?_
       obtain ⟨g96, hA97⟩ := HO74.form (pos_of (j := 0) (by first | assumption | decide) (by first | assumption | omega))
       refine st (.pointer (some ((⟨g96, 0, none⟩ : Addr).add ((0 : Int).toNat * 17)))) rfl rfl (xr_indexAddr _ _ _ rfl rfl rfl (index_at Try.underlying72 info89 hA97 (by first | assumption | decide | omega) (by first | assumption | decide | omega))) ?_
       simp only [ls0, ls1]
       refine on_guard (guard_on 33 true 44 rfl rfl rfl) ?_
       refine st (.pointer (some (((⟨g96, 0, none⟩ : Addr).add ((0 : Int).toNat * 17)).add 4))) rfl rfl (xr_fieldAddr _ _ rfl rfl (field_at2 Try.underlying89 rfl rfl (by kernel_rfl))) ?_
       refine on_guard (guard_on 33 true 44 rfl rfl rfl) ?_
       refine st (.pointer (some (((⟨g96, 0, none⟩ : Addr).add ((0 : Int).toNat * 17)).add (4 + 4)))) rfl rfl (xr_fieldAddr _ _ rfl rfl (field_at3 Try.underlying82 rfl rfl (by kernel_rfl))) ?_
       refine on_guard (guard_on 33 true 44 rfl rfl rfl) ?_
       obtain ⟨csq99, _, hKq99, hcq99, hinq99⟩ := Ft.elem (HO74.ft) hA97 z89 0 (by first | assumption | decide | omega) (by first | assumption | decide | omega) (by decide)
       obtain ⟨Aq99_14, cpq99_14, Aq99_15, cpq99_15, Aq99_16, cpq99_16, rfl, HCq99_14, HRq99_14, HCq99_15, HRq99_15, HCq99_16, HRq99_16⟩ := k89_openF hKq99
       replace HRq99_14 : Ft C70_ [12, 0] w69 (fun w_ => k44.C w_ Aq99_14 (rd_T89 t64 0).f5.f5.length (rd_T89 t64 0).f5.f5) := HRq99_14
       replace HRq99_15 : Ft C70_ [12, 0] w69 (fun w_ => k89.C w_ Aq99_15 (rd_T89 t64 0).f6.length (rd_T89 t64 0).f6) := HRq99_15
       replace HRq99_16 : Ft C70_ [12, 0] w69 (fun w_ => k89.C w_ Aq99_16 (rd_T89 t64 0).f7.length (rd_T89 t64 0).f7) := HRq99_16
       refine st (.int .i64 ((rd_T89 t64 0).f4.f4)) rfl rfl (xr_load (.pointer (some (((⟨g96, 0, none⟩ : Addr).add ((0 : Int).toNat * 17)).add (4 + 4)))) (.int .i64 ((rd_T89 t64 0).f4.f4)) rfl rfl (load_cell Try.underlying3 rfl (hcq99 8 _ rfl))) ?_
       refine on_guard (guard_on 33 true 44 rfl rfl rfl) ?_
       refine st (.bool (decide (((rd_T89 t64 0).f4.f4) = 15))) rfl rfl (xr_bin _ _ _ rfl rfl rfl (B.eql_i64 _ _)) ?_
       simp only [ls0, ls1]
       refine st (.bool (decide (((rd_T89 t64 0).f4.f4) = 15))) rfl rfl (xr_pick true _ rfl rfl rfl) ?_
       refine mv_ rfl ?_
       by_cases c100 : ((rd_T89 t64 0).f4.f4) = 15
       ·rw [if_pos c100] at H
        (try rw [(decide_eq_true c100)])
        refine on_guard (guard_on 41 true 52 rfl rfl rfl) ?_
        refine mv_ rfl ?_
        refine on_guard (guard_on 41 true 52 rfl rfl rfl) ?_
        obtain ⟨g101, hA102⟩ := HO74.form (pos_of (j := 0) (by first | assumption | decide) (by first | assumption | omega))
        refine st (.pointer (some ((⟨g101, 0, none⟩ : Addr).add ((0 : Int).toNat * 17)))) rfl rfl (xr_indexAddr _ _ _ rfl rfl rfl (index_at Try.underlying72 info89 hA102 (by first | assumption | decide | omega) (by first | assumption | decide | omega))) ?_
        simp only [ls0, ls1]
        refine on_guard (guard_on 41 true 52 rfl rfl rfl) ?_
        refine st (.pointer (some (((⟨g101, 0, none⟩ : Addr).add ((0 : Int).toNat * 17)).add 9))) rfl rfl (xr_fieldAddr _ _ rfl rfl (field_at2 Try.underlying89 rfl rfl (by kernel_rfl))) ?_
        refine on_guard (guard_on 41 true 52 rfl rfl rfl) ?_
        refine st (.pointer (some (((⟨g101, 0, none⟩ : Addr).add ((0 : Int).toNat * 17)).add (9 + 2)))) rfl rfl (xr_fieldAddr _ _ rfl rfl (field_at3 Try.underlying44 rfl rfl (by kernel_rfl))) ?_
        refine on_guard (guard_on 41 true 52 rfl rfl rfl) ?_
        obtain ⟨csq104, _, hKq104, hcq104, hinq104⟩ := Ft.elem (HO74.ft) hA102 z89 0 (by first | assumption | decide | omega) (by first | assumption | decide | omega) (by decide)
        obtain ⟨Aq104_14, cpq104_14, Aq104_15, cpq104_15, Aq104_16, cpq104_16, rfl, HCq104_14, HRq104_14, HCq104_15, HRq104_15, HCq104_16, HRq104_16⟩ := k89_openF hKq104
        replace HRq104_14 : Ft C70_ [12, 0] w69 (fun w_ => k44.C w_ Aq104_14 (rd_T89 t64 0).f5.f5.length (rd_T89 t64 0).f5.f5) := HRq104_14
        replace HRq104_15 : Ft C70_ [12, 0] w69 (fun w_ => k89.C w_ Aq104_15 (rd_T89 t64 0).f6.length (rd_T89 t64 0).f6) := HRq104_15
        replace HRq104_16 : Ft C70_ [12, 0] w69 (fun w_ => k89.C w_ Aq104_16 (rd_T89 t64 0).f7.length (rd_T89 t64 0).f7) := HRq104_16
        refine st (.int .i64 ((rd_T89 t64 0).f5.f2)) rfl rfl (xr_load (.pointer (some (((⟨g101, 0, none⟩ : Addr).add ((0 : Int).toNat * 17)).add (9 + 2)))) (.int .i64 ((rd_T89 t64 0).f5.f2)) rfl rfl (load_cell Try.underlying2 rfl (hcq104 11 _ rfl))) ?_
        refine on_guard (guard_on 41 true 52 rfl rfl rfl) ?_
        refine st (.bool (decide (((rd_T89 t64 0).f5.f2) = 1))) rfl rfl (xr_bin _ _ _ rfl rfl rfl (B.eql_i64 _ _)) ?_
        simp only [ls0, ls1]
        refine st (.bool (decide (((rd_T89 t64 0).f5.f2) = 1))) rfl rfl (xr_pick true _ rfl rfl rfl) ?_
        refine as_ rfl ?_
        refine wl_end ?_
        (try simp only [ls0, ls1])
        refine hK76 _ _ ?_
        (try clear hK76 K76)
        refine wp_ret ?_
        (try simp only [Exit.inBlock, Exit.then, Exit.noGoto])
        (try simp only [ls0, ls1])
        obtain rfl := Option.some.inj H
        refine bodyPost_ret (results_tmp rfl _ _ _) rfl ?_
        exact ⟨_, rfl, HS⟩
       rw [if_neg c100] at H
       (try rw [(decide_eq_false c100)])
       refine sk_guard (guard_off 41 true 52 rfl rfl false (by decide) rfl) rfl ?_
       refine sk_guard (guard_off 41 true 52 rfl rfl false (by decide) rfl) rfl ?_
       refine sk_guard (guard_off 41 true 52 rfl rfl false (by decide) rfl) rfl ?_
       refine sk_guard (guard_off 41 true 52 rfl rfl false (by decide) rfl) rfl ?_
       simp only [ls0, ls1]
       refine sk_guard (guard_off 41 true 52 rfl rfl false (by decide) rfl) rfl ?_
       refine sk_guard (guard_off 41 true 52 rfl rfl false (by decide) rfl) rfl ?_
       refine st (.bool false) rfl rfl (xr_pick false _ rfl rfl rfl) ?_
       refine as_ rfl ?_
       simp only [ls0, ls1]
       refine wl_end ?_
       (try simp only [ls0, ls1])
       refine hK76 _ _ ?_
       (try clear hK76 K76)
       refine wp_ret ?_
       (try simp only [Exit.inBlock, Exit.then, Exit.noGoto])
       (try simp only [ls0, ls1])
       obtain rfl := Option.some.inj H
       refine bodyPost_ret (results_tmp rfl _ _ _) rfl ?_
       exact ⟨_, rfl, HS⟩
      rw [if_neg c95] at H
      (try rw [(decide_eq_false c95)])
      refine sk_guard (guard_off 33 true 44 rfl rfl false (by decide) rfl) rfl ?_
      refine sk_guard (guard_off 33 true 44 rfl rfl false (by decide) rfl) rfl ?_
      refine sk_guard (guard_off 33 true 44 rfl rfl false (by decide) rfl) rfl ?_
      refine sk_guard (guard_off 33 true 44 rfl rfl false (by decide) rfl) rfl ?_
      simp only [ls0, ls1]
      refine sk_guard (guard_off 33 true 44 rfl rfl false (by decide) rfl) rfl ?_
      refine sk_guard (guard_off 33 true 44 rfl rfl false (by decide) rfl) rfl ?_
      refine st (.bool false) rfl rfl (xr_pick false _ rfl rfl rfl) ?_
      refine mv_ rfl ?_
      simp only [ls0, ls1]
      refine sk_guard (guard_off 41 true 52 rfl rfl false (by decide) rfl) rfl ?_
      refine sk_guard (guard_off 41 true 52 rfl rfl false (by decide) rfl) rfl ?_
      refine sk_guard (guard_off 41 true 52 rfl rfl false (by decide) rfl) rfl ?_
      refine sk_guard (guard_off 41 true 52 rfl rfl false (by decide) rfl) rfl ?_
      simp only [ls0, ls1]
      refine sk_guard (guard_off 41 true 52 rfl rfl false (by decide) rfl) rfl ?_
      refine sk_guard (guard_off 41 true 52 rfl rfl false (by decide) rfl) rfl ?_
      refine st (.bool false) rfl rfl (xr_pick false _ rfl rfl rfl) ?_
      refine as_ rfl ?_
      simp only [ls0, ls1]
      refine wl_end ?_
      (try simp only [ls0, ls1])
      refine hK76 _ _ ?_
      (try clear hK76 K76)
      refine wp_ret ?_
      (try simp only [Exit.inBlock, Exit.then, Exit.noGoto])
      (try simp only [ls0, ls1])
      obtain rfl := Option.some.inj H
      refine bodyPost_ret (results_tmp rfl _ _ _) rfl ?_
      exact ⟨_, rfl, HS⟩
     rw [if_neg c90] at H
     (try rw [(Bool.eq_false_iff.mpr c90)])
     refine sk_guard (guard_off 25 true 36 rfl rfl false (by decide) rfl) rfl ?_
     refine sk_guard (guard_off 25 true 36 rfl rfl false (by decide) rfl) rfl ?_
     refine sk_guard (guard_off 25 true 36 rfl rfl false (by decide) rfl) rfl ?_
     refine sk_guard (guard_off 25 true 36 rfl rfl false (by decide) rfl) rfl ?_
     simp only [ls0, ls1]
     refine sk_guard (guard_off 25 true 36 rfl rfl false (by decide) rfl) rfl ?_
     refine sk_guard (guard_off 25 true 36 rfl rfl false (by decide) rfl) rfl ?_
     refine st (.bool false) rfl rfl (xr_pick false _ rfl rfl rfl) ?_
     refine mv_ rfl ?_
     simp only [ls0, ls1]
     refine sk_guard (guard_off 33 true 44 rfl rfl false (by decide) rfl) rfl ?_
     refine sk_guard (guard_off 33 true 44 rfl rfl false (by decide) rfl) rfl ?_
     refine sk_guard (guard_off 33 true 44 rfl rfl false (by decide) rfl) rfl ?_
     refine sk_guard (guard_off 33 true 44 rfl rfl false (by decide) rfl) rfl ?_
     simp only [ls0, ls1]
     refine sk_guard (guard_off 33 true 44 rfl rfl false (by decide) rfl) rfl ?_
     refine sk_guard (guard_off 33 true 44 rfl rfl false (by decide) rfl) rfl ?_
     refine st (.bool false) rfl rfl (xr_pick false _ rfl rfl rfl) ?_
     refine mv_ rfl ?_
     simp only [ls0, ls1]
     refine sk_guard (guard_off 41 true 52 rfl rfl false (by decide) rfl) rfl ?_
     refine sk_guard (guard_off 41 true 52 rfl rfl false (by decide) rfl) rfl ?_
     refine sk_guard (guard_off 41 true 52 rfl rfl false (by decide) rfl) rfl ?_
     refine sk_guard (guard_off 41 true 52 rfl rfl false (by decide) rfl) rfl ?_
     simp only [ls0, ls1]
     refine sk_guard (guard_off 41 true 52 rfl rfl false (by decide) rfl) rfl ?_
     refine sk_guard (guard_off 41 true 52 rfl rfl false (by decide) rfl) rfl ?_
     refine st (.bool false) rfl rfl (xr_pick false _ rfl rfl rfl) ?_
     refine as_ rfl ?_
     simp only [ls0, ls1]
     refine wl_end ?_
     (try simp only [ls0, ls1])
     refine hK76 _ _ ?_
     (try clear hK76 K76)
     refine wp_ret ?_
     (try simp only [Exit.inBlock, Exit.then, Exit.noGoto])
     (try simp only [ls0, ls1])
     obtain rfl := Option.some.inj H
     refine bodyPost_ret (results_tmp rfl _ _ _) rfl ?_
     exact ⟨_, rfl, HS⟩
    rw [if_neg c85] at H
    (try rw [(decide_eq_false c85)])
    refine sk_guard (guard_off 18 true 29 rfl rfl false (by decide) rfl) rfl ?_
    refine sk_guard (guard_off 18 true 29 rfl rfl false (by decide) rfl) rfl ?_
    refine sk_guard (guard_off 18 true 29 rfl rfl false (by decide) rfl) rfl ?_
    refine sk_guard (guard_off 18 true 29 rfl rfl false (by decide) rfl) rfl ?_
    simp only [ls0, ls1]
    refine sk_guard (guard_off 18 true 29 rfl rfl false (by decide) rfl) rfl ?_
    refine st (.bool false) rfl rfl (xr_pick false _ rfl rfl rfl) ?_
    refine mv_ rfl ?_
    refine sk_guard (guard_off 25 true 36 rfl rfl false (by decide) rfl) rfl ?_
    simp only [ls0, ls1]
    refine sk_guard (guard_off 25 true 36 rfl rfl false (by decide) rfl) rfl ?_
    refine sk_guard (guard_off 25 true 36 rfl rfl false (by decide) rfl) rfl ?_
    refine sk_guard (guard_off 25 true 36 rfl rfl false (by decide) rfl) rfl ?_
    refine sk_guard (guard_off 25 true 36 rfl rfl false (by decide) rfl) rfl ?_
    simp only [ls0, ls1]
    refine sk_guard (guard_off 25 true 36 rfl rfl false (by decide) rfl) rfl ?_
    refine st (.bool false) rfl rfl (xr_pick false _ rfl rfl rfl) ?_
    refine mv_ rfl ?_
    refine sk_guard (guard_off 33 true 44 rfl rfl false (by decide) rfl) rfl ?_
    simp only [ls0, ls1]
    refine sk_guard (guard_off 33 true 44 rfl rfl false (by decide) rfl) rfl ?_
    refine sk_guard (guard_off 33 true 44 rfl rfl false (by decide) rfl) rfl ?_
    refine sk_guard (guard_off 33 true 44 rfl rfl false (by decide) rfl) rfl ?_
    refine sk_guard (guard_off 33 true 44 rfl rfl false (by decide) rfl) rfl ?_
    simp only [ls0, ls1]
    refine sk_guard (guard_off 33 true 44 rfl rfl false (by decide) rfl) rfl ?_
    refine st (.bool false) rfl rfl (xr_pick false _ rfl rfl rfl) ?_
    refine mv_ rfl ?_
    refine sk_guard (guard_off 41 true 52 rfl rfl false (by decide) rfl) rfl ?_
    simp only [ls0, ls1]
    refine sk_guard (guard_off 41 true 52 rfl rfl false (by decide) rfl) rfl ?_
    refine sk_guard (guard_off 41 true 52 rfl rfl false (by decide) rfl) rfl ?_
    refine sk_guard (guard_off 41 true 52 rfl rfl false (by decide) rfl) rfl ?_
    refine sk_guard (guard_off 41 true 52 rfl rfl false (by decide) rfl) rfl ?_
    simp only [ls0, ls1]
    refine sk_guard (guard_off 41 true 52 rfl rfl false (by decide) rfl) rfl ?_
    refine st (.bool false) rfl rfl (xr_pick false _ rfl rfl rfl) ?_
    refine as_ rfl ?_
    refine wl_end ?_
    (try simp only [ls0, ls1])
    refine hK76 _ _ ?_
    (try clear hK76 K76)
    refine wp_ret ?_
    (try simp only [Exit.inBlock, Exit.then, Exit.noGoto])
    (try simp only [ls0, ls1])
    obtain rfl := Option.some.inj H
    refine bodyPost_ret (results_tmp rfl _ _ _) rfl ?_
    exact ⟨_, rfl, HS⟩
   rw [if_neg c79] at H
   (try rw [(decide_eq_false c79)])
   refine sk_guard (guard_off 11 true 22 rfl rfl false (by decide) rfl) rfl ?_
   refine sk_guard (guard_off 11 true 22 rfl rfl false (by decide) rfl) rfl ?_
   refine sk_guard (guard_off 11 true 22 rfl rfl false (by decide) rfl) rfl ?_
   refine sk_guard (guard_off 11 true 22 rfl rfl false (by decide) rfl) rfl ?_
   simp only [ls0, ls1]
   refine sk_guard (guard_off 11 true 22 rfl rfl false (by decide) rfl) rfl ?_
   refine st (.bool false) rfl rfl (xr_pick false _ rfl rfl rfl) ?_
   refine mv_ rfl ?_
   refine sk_guard (guard_off 18 true 29 rfl rfl false (by decide) rfl) rfl ?_
   simp only [ls0, ls1]
   refine sk_guard (guard_off 18 true 29 rfl rfl false (by decide) rfl) rfl ?_
   refine sk_guard (guard_off 18 true 29 rfl rfl false (by decide) rfl) rfl ?_
   refine sk_guard (guard_off 18 true 29 rfl rfl false (by decide) rfl) rfl ?_
   refine sk_guard (guard_off 18 true 29 rfl rfl false (by decide) rfl) rfl ?_
   simp only [ls0, ls1]
   refine st (.bool false) rfl rfl (xr_pick false _ rfl rfl rfl) ?_
   refine mv_ rfl ?_
   refine sk_guard (guard_off 25 true 36 rfl rfl false (by decide) rfl) rfl ?_
   refine sk_guard (guard_off 25 true 36 rfl rfl false (by decide) rfl) rfl ?_
   simp only [ls0, ls1]
   refine sk_guard (guard_off 25 true 36 rfl rfl false (by decide) rfl) rfl ?_
   refine sk_guard (guard_off 25 true 36 rfl rfl false (by decide) rfl) rfl ?_
   refine sk_guard (guard_off 25 true 36 rfl rfl false (by decide) rfl) rfl ?_
   refine sk_guard (guard_off 25 true 36 rfl rfl false (by decide) rfl) rfl ?_
   simp only [ls0, ls1]
   refine st (.bool false) rfl rfl (xr_pick false _ rfl rfl rfl) ?_
   refine mv_ rfl ?_
   refine sk_guard (guard_off 33 true 44 rfl rfl false (by decide) rfl) rfl ?_
   refine sk_guard (guard_off 33 true 44 rfl rfl false (by decide) rfl) rfl ?_
   simp only [ls0, ls1]
   refine sk_guard (guard_off 33 true 44 rfl rfl false (by decide) rfl) rfl ?_
   refine sk_guard (guard_off 33 true 44 rfl rfl false (by decide) rfl) rfl ?_
   refine sk_guard (guard_off 33 true 44 rfl rfl false (by decide) rfl) rfl ?_
   refine sk_guard (guard_off 33 true 44 rfl rfl false (by decide) rfl) rfl ?_
   simp only [ls0, ls1]
   refine st (.bool false) rfl rfl (xr_pick false _ rfl rfl rfl) ?_
   refine mv_ rfl ?_
   refine sk_guard (guard_off 41 true 52 rfl rfl false (by decide) rfl) rfl ?_
   refine sk_guard (guard_off 41 true 52 rfl rfl false (by decide) rfl) rfl ?_
   simp only [ls0, ls1]
   refine sk_guard (guard_off 41 true 52 rfl rfl false (by decide) rfl) rfl ?_
   refine sk_guard (guard_off 41 true 52 rfl rfl false (by decide) rfl) rfl ?_
   refine sk_guard (guard_off 41 true 52 rfl rfl false (by decide) rfl) rfl ?_
   refine sk_guard (guard_off 41 true 52 rfl rfl false (by decide) rfl) rfl ?_
   simp only [ls0, ls1]
   refine st (.bool false) rfl rfl (xr_pick false _ rfl rfl rfl) ?_
   refine as_ rfl ?_
   refine wl_end ?_
   (try simp only [ls0, ls1])
   refine hK76 _ _ ?_
   (try clear hK76 K76)
   refine wp_ret ?_
   (try simp only [Exit.inBlock, Exit.then, Exit.noGoto])
   (try simp only [ls0, ls1])
   obtain rfl := Option.some.inj H
   refine bodyPost_ret (results_tmp rfl _ _ _) rfl ?_
   exact ⟨_, rfl, HS⟩
  rw [if_neg c78] at H
  (try rw [(decide_eq_false c78)])
  refine sk_guard (guard_off 7 true 18 rfl rfl false (by decide) rfl) rfl ?_
  refine sk_guard (guard_off 7 true 18 rfl rfl false (by decide) rfl) rfl ?_
  refine st (.bool false) rfl rfl (xr_pick false _ rfl rfl rfl) ?_
  refine mv_ rfl ?_
  simp only [ls0, ls1]
  refine sk_guard (guard_off 11 true 22 rfl rfl false (by decide) rfl) rfl ?_
  refine sk_guard (guard_off 11 true 22 rfl rfl false (by decide) rfl) rfl ?_
  refine sk_guard (guard_off 11 true 22 rfl rfl false (by decide) rfl) rfl ?_
  refine sk_guard (guard_off 11 true 22 rfl rfl false (by decide) rfl) rfl ?_
  simp only [ls0, ls1]
  refine sk_guard (guard_off 11 true 22 rfl rfl false (by decide) rfl) rfl ?_
  refine st (.bool false) rfl rfl (xr_pick false _ rfl rfl rfl) ?_
  refine mv_ rfl ?_
  refine sk_guard (guard_off 18 true 29 rfl rfl false (by decide) rfl) rfl ?_
  simp only [ls0, ls1]
  refine sk_guard (guard_off 18 true 29 rfl rfl false (by decide) rfl) rfl ?_
  refine sk_guard (guard_off 18 true 29 rfl rfl false (by decide) rfl) rfl ?_
  refine sk_guard (guard_off 18 true 29 rfl rfl false (by decide) rfl) rfl ?_
  refine sk_guard (guard_off 18 true 29 rfl rfl false (by decide) rfl) rfl ?_
  simp only [ls0, ls1]
  refine st (.bool false) rfl rfl (xr_pick false _ rfl rfl rfl) ?_
  refine mv_ rfl ?_
  refine sk_guard (guard_off 25 true 36 rfl rfl false (by decide) rfl) rfl ?_
  refine sk_guard (guard_off 25 true 36 rfl rfl false (by decide) rfl) rfl ?_
  simp only [ls0, ls1]
  refine sk_guard (guard_off 25 true 36 rfl rfl false (by decide) rfl) rfl ?_
  refine sk_guard (guard_off 25 true 36 rfl rfl false (by decide) rfl) rfl ?_
  refine sk_guard (guard_off 25 true 36 rfl rfl false (by decide) rfl) rfl ?_
  refine sk_guard (guard_off 25 true 36 rfl rfl false (by decide) rfl) rfl ?_
  simp only [ls0, ls1]
  refine st (.bool false) rfl rfl (xr_pick false _ rfl rfl rfl) ?_
  refine mv_ rfl ?_
  refine sk_guard (guard_off 33 true 44 rfl rfl false (by decide) rfl) rfl ?_
  refine sk_guard (guard_off 33 true 44 rfl rfl false (by decide) rfl) rfl ?_
  simp only [ls0, ls1]
  refine sk_guard (guard_off 33 true 44 rfl rfl false (by decide) rfl) rfl ?_
  refine sk_guard (guard_off 33 true 44 rfl rfl false (by decide) rfl) rfl ?_
  refine sk_guard (guard_off 33 true 44 rfl rfl false (by decide) rfl) rfl ?_
  refine sk_guard (guard_off 33 true 44 rfl rfl false (by decide) rfl) rfl ?_
  simp only [ls0, ls1]
  refine st (.bool false) rfl rfl (xr_pick false _ rfl rfl rfl) ?_
  refine mv_ rfl ?_
  refine sk_guard (guard_off 41 true 52 rfl rfl false (by decide) rfl) rfl ?_
  refine sk_guard (guard_off 41 true 52 rfl rfl false (by decide) rfl) rfl ?_
  simp only [ls0, ls1]
  refine sk_guard (guard_off 41 true 52 rfl rfl false (by decide) rfl) rfl ?_
  refine sk_guard (guard_off 41 true 52 rfl rfl false (by decide) rfl) rfl ?_
  refine sk_guard (guard_off 41 true 52 rfl rfl false (by decide) rfl) rfl ?_
  refine sk_guard (guard_off 41 true 52 rfl rfl false (by decide) rfl) rfl ?_
  simp only [ls0, ls1]
  refine st (.bool false) rfl rfl (xr_pick false _ rfl rfl rfl) ?_
  refine as_ rfl ?_
  refine wl_end ?_
  (try simp only [ls0, ls1])
  refine hK76 _ _ ?_
  (try clear hK76 K76)
  refine wp_ret ?_
  (try simp only [Exit.inBlock, Exit.then, Exit.noGoto])
  (try simp only [ls0, ls1])
  obtain rfl := Option.some.inj H
  refine bodyPost_ret (results_tmp rfl _ _ _) rfl ?_
  exact ⟨_, rfl, HS⟩
 rw [if_neg c77] at H
 (try rw [(decide_eq_false c77)])
 refine sk_guard (guard_off 3 true 14 rfl rfl false (by decide) rfl) rfl ?_
 refine sk_guard (guard_off 3 true 14 rfl rfl false (by decide) rfl) rfl ?_
 refine st (.bool false) rfl rfl (xr_pick false _ rfl rfl rfl) ?_
 refine mv_ rfl ?_
 simp only [ls0, ls1]
 refine sk_guard (guard_off 7 true 18 rfl rfl false (by decide) rfl) rfl ?_
 refine sk_guard (guard_off 7 true 18 rfl rfl false (by decide) rfl) rfl ?_
 refine st (.bool false) rfl rfl (xr_pick false _ rfl rfl rfl) ?_
 refine mv_ rfl ?_
 simp only [ls0, ls1]
 refine sk_guard (guard_off 11 true 22 rfl rfl false (by decide) rfl) rfl ?_
 refine sk_guard (guard_off 11 true 22 rfl rfl false (by decide) rfl) rfl ?_
 refine sk_guard (guard_off 11 true 22 rfl rfl false (by decide) rfl) rfl ?_
 refine sk_guard (guard_off 11 true 22 rfl rfl false (by decide) rfl) rfl ?_
 simp only [ls0, ls1]
 refine sk_guard (guard_off 11 true 22 rfl rfl false (by decide) rfl) rfl ?_
 refine st (.bool false) rfl rfl (xr_pick false _ rfl rfl rfl) ?_
 refine mv_ rfl ?_
 refine sk_guard (guard_off 18 true 29 rfl rfl false (by decide) rfl) rfl ?_
 simp only [ls0, ls1]
 refine sk_guard (guard_off 18 true 29 rfl rfl false (by decide) rfl) rfl ?_
 refine sk_guard (guard_off 18 true 29 rfl rfl false (by decide) rfl) rfl ?_
 refine sk_guard (guard_off 18 true 29 rfl rfl false (by decide) rfl) rfl ?_
 refine sk_guard (guard_off 18 true 29 rfl rfl false (by decide) rfl) rfl ?_
 simp only [ls0, ls1]
 refine st (.bool false) rfl rfl (xr_pick false _ rfl rfl rfl) ?_
 refine mv_ rfl ?_
 refine sk_guard (guard_off 25 true 36 rfl rfl false (by decide) rfl) rfl ?_
 refine sk_guard (guard_off 25 true 36 rfl rfl false (by decide) rfl) rfl ?_
 simp only [ls0, ls1]
 refine sk_guard (guard_off 25 true 36 rfl rfl false (by decide) rfl) rfl ?_
 refine sk_guard (guard_off 25 true 36 rfl rfl false (by decide) rfl) rfl ?_
 refine sk_guard (guard_off 25 true 36 rfl rfl false (by decide) rfl) rfl ?_
 refine sk_guard (guard_off 25 true 36 rfl rfl false (by decide) rfl) rfl ?_
 simp only [ls0, ls1]
 refine st (.bool false) rfl rfl (xr_pick false _ rfl rfl rfl) ?_
 refine mv_ rfl ?_
 refine sk_guard (guard_off 33 true 44 rfl rfl false (by decide) rfl) rfl ?_
 refine sk_guard (guard_off 33 true 44 rfl rfl false (by decide) rfl) rfl ?_
 simp only [ls0, ls1]
 refine sk_guard (guard_off 33 true 44 rfl rfl false (by decide) rfl) rfl ?_
 refine sk_guard (guard_off 33 true 44 rfl rfl false (by decide) rfl) rfl ?_
 refine sk_guard (guard_off 33 true 44 rfl rfl false (by decide) rfl) rfl ?_
 refine sk_guard (guard_off 33 true 44 rfl rfl false (by decide) rfl) rfl ?_
 simp only [ls0, ls1]
 refine st (.bool false) rfl rfl (xr_pick false _ rfl rfl rfl) ?_
 refine mv_ rfl ?_
 refine sk_guard (guard_off 41 true 52 rfl rfl false (by decide) rfl) rfl ?_
 refine sk_guard (guard_off 41 true 52 rfl rfl false (by decide) rfl) rfl ?_
 simp only [ls0, ls1]
 refine sk_guard (guard_off 41 true 52 rfl rfl false (by decide) rfl) rfl ?_
 refine sk_guard (guard_off 41 true 52 rfl rfl false (by decide) rfl) rfl ?_
 refine sk_guard (guard_off 41 true 52 rfl rfl false (by decide) rfl) rfl ?_
 refine sk_guard (guard_off 41 true 52 rfl rfl false (by decide) rfl) rfl ?_
 simp only [ls0, ls1]
 refine st (.bool false) rfl rfl (xr_pick false _ rfl rfl rfl) ?_
 refine as_ rfl ?_
 refine wl_end ?_
 (try simp only [ls0, ls1])
 refine hK76 _ _ ?_
 (try clear hK76 K76)
 refine wp_ret ?_
 (try simp only [Exit.inBlock, Exit.then, Exit.noGoto])
 (try simp only [ls0, ls1])
 obtain rfl := Option.some.inj H
 refine bodyPost_ret (results_tmp rfl _ _ _) rfl ?_
 exact ⟨_, rfl, HS⟩

/-! ### stmt_Stmt_nil: function 62 -/
def stmt_Stmt_nil.f (k : Nat) (a1 : Int) : Option (Int × Int × ByteArray × Int × Bool × Bool × ByteArray × Int × Int × Int × Int × Int × ByteArray × ByteArray × (List (S44)) × (List (S89)) × (List (S89)) × Int) := some (0, 0, (⟨#[]⟩ : ByteArray), 0, false, false, (⟨#[]⟩ : ByteArray), 0, 0, 0, 0, 0, (⟨#[]⟩ : ByteArray), (⟨#[]⟩ : ByteArray), ([] : List (S44)), ([] : List (S89)), ([] : List (S89)), 1)

set_option maxHeartbeats 8000000 in
set_option maxRecDepth 100000 in
theorem stmt_Stmt_nil.calls (k : Nat) (a1 : Int) (r1 : Int) (r2 : Int) (r3 : ByteArray) (r4 : Int) (r5 : Bool) (r6 : Bool) (r7 : ByteArray) (r8 : Int) (r9 : Int) (r10 : Int) (r11 : Int) (r12 : Int) (r13 : ByteArray) (r14 : ByteArray) (r15 : List (S44)) (r16 : List (S89)) (r17 : List (S89)) (r18 : Int) (c : Nat → Nat) (w : World) (hc : ∀ k, c k < 10)  (H : stmt_Stmt_nil.f k a1 = some (r1, r2, r3, r4, r5, r6, r7, r8, r9, r10, r11, r12, r13, r14, r15, r16, r17, r18)) :
    Calls Try.prog 62 #[.pointer none, .int .i64 a1] w fun e w' => ∃ (c' : Nat → Nat) (A_r15 : Option Addr) (c_r15 : Nat) (A_r16 : Option Addr) (c_r16 : Nat) (A_r17 : Option Addr) (c_r17 : Nat), e = .returned (.tuple #[.agg #[.int .i64 r1, .int .i64 r2, .string r3, .int .i64 r4, .bool r5, .bool r6, .string r7, .int .i64 r8, .int .i64 r9, .int .i64 r10, .int .i64 r11, .int .i64 r12, .string r13, .string r14, .slice A_r15 r15.length c_r15, .slice A_r16 r16.length c_r16, .slice A_r17 r17.length c_r17], .int .i64 r18]) ∧ Step c w c' w' [] ∧ Own c' 5 w' k44 44 (.slice A_r15 r15.length c_r15) r15 ∧ r15.length ≤ c_r15 ∧ Own c' 6 w' k89 89 (.slice A_r16 r16.length c_r16) r16 ∧ r16.length ≤ c_r16 ∧ Own c' 7 w' k89 89 (.slice A_r17 r17.length c_r17) r17 ∧ r17.length ≤ c_r17 := by
 unfold stmt_Stmt_nil.f at H
 have HS := Step.refl c w []
 go_enter Try.func62, Try.ntmps62
 refine wp_seq_k fun K13 hK13 => ?_
 refine wl_region ?_
 refine bx_new (C := c) 89 ([.int .i64 0, .int .i64 0, .string (⟨#[]⟩ : ByteArray), .int .i64 0, .bool false, .bool false, .string (⟨#[]⟩ : ByteArray), .int .i64 0, .int .i64 0, .int .i64 0, .int .i64 0, .int .i64 0, .string (⟨#[]⟩ : ByteArray), .string (⟨#[]⟩ : ByteArray), .slice none 0 0, .slice none 0 0, .slice none 0 0]) 11 rfl rfl (by first | (go_simp; done) | (go_simp; rfl)) ?_
 intro g14 w15 C16 HX17 hs18
 replace HS := HS.trans hs18 hc rfl
 (try simp only [ls0, ls1])
 refine st (.int .i64 0) rfl rfl (xr_assign _ rfl rfl) ?_
 refine wl_end ?_
 (try simp only [ls0, ls1])
 refine hK13 _ _ ?_
 (try clear hK13 K13)
 refine wp_seq_k fun K19 hK19 => ?_
 refine wp_seq_k fun K20 hK20 => ?_
 refine wl_region ?_
 refine mv_ rfl ?_
 refine st (.bool true) rfl rfl (xr_bin (.pointer none) (.pointer none) (.bool true) rfl rfl rfl (B.eql_nn ⟨_, Try.underlying57⟩ (⟨0, 0, none⟩ : Addr))) ?_
 refine wl_end ?_
 (try simp only [ls0, ls1])
 refine hK20 _ _ ?_
 (try clear hK20 K20)
 refine wp_cond_true rfl ?_
 refine wp_seq_k fun K21 hK21 => ?_
 refine wl_region ?_
 refine st (.agg #[.int .i64 0, .int .i64 0, .string (⟨#[]⟩ : ByteArray), .int .i64 0, .bool false, .bool false, .string (⟨#[]⟩ : ByteArray), .int .i64 0, .int .i64 0, .int .i64 0, .int .i64 0, .int .i64 0, .string (⟨#[]⟩ : ByteArray), .string (⟨#[]⟩ : ByteArray), .slice none 0 0, .slice none 0 0, .slice none 0 0]) rfl rfl (xr_build #[] (.agg #[.int .i64 0, .int .i64 0, .string (⟨#[]⟩ : ByteArray), .int .i64 0, .bool false, .bool false, .string (⟨#[]⟩ : ByteArray), .int .i64 0, .int .i64 0, .int .i64 0, .int .i64 0, .int .i64 0, .string (⟨#[]⟩ : ByteArray), .string (⟨#[]⟩ : ByteArray), .slice none 0 0, .slice none 0 0, .slice none 0 0]) rfl (mp_ rfl) (by first | rfl | (go_simp; done) | (go_simp; rfl) | (go_simp; exact i64_w _) | (go_simp; exact i32_w _))) ?_
 refine bx_store (C := C16) (z := 11) (g := g14) (j := 0) (tb := 89) (u := .agg #[.int .i64 0, .int .i64 0, .string (⟨#[]⟩ : ByteArray), .int .i64 0, .bool false, .bool false, .string (⟨#[]⟩ : ByteArray), .int .i64 0, .int .i64 0, .int .i64 0, .int .i64 0, .int .i64 0, .string (⟨#[]⟩ : ByteArray), .string (⟨#[]⟩ : ByteArray), .slice none 0 0, .slice none 0 0, .slice none 0 0]) (seg := [.int .i64 0, .int .i64 0, .string (⟨#[]⟩ : ByteArray), .int .i64 0, .bool false, .bool false, .string (⟨#[]⟩ : ByteArray), .int .i64 0, .int .i64 0, .int .i64 0, .int .i64 0, .int .i64 0, .string (⟨#[]⟩ : ByteArray), .string (⟨#[]⟩ : ByteArray), .slice none 0 0, .slice none 0 0, .slice none 0 0]) (xs := [.int .i64 0, .int .i64 0, .string (⟨#[]⟩ : ByteArray), .int .i64 0, .bool false, .bool false, .string (⟨#[]⟩ : ByteArray), .int .i64 0, .int .i64 0, .int .i64 0, .int .i64 0, .int .i64 0, .string (⟨#[]⟩ : ByteArray), .string (⟨#[]⟩ : ByteArray), .slice none 0 0, .slice none 0 0, .slice none 0 0]) rfl rfl rfl rfl rfl rfl (by first | kernel_rfl | rfl) (by simp [Value.oneCell']) HX17 (by simp only [List.length_cons, List.length_nil]; omega) rfl ?_
 intro w22 HX23 hs24
 replace HS := HS.trans hs24 hc rfl
 (try simp only [ls0, ls1])
 refine st (.int .i64 1) rfl rfl (xr_assign _ rfl rfl) ?_
 refine wl_end ?_
 (try simp only [ls0, ls1])
 refine hK21 _ _ ?_
 (try clear hK21 K21)
 refine wp_ret ?_
 (try simp only [Exit.inBlock, Exit.then, Exit.noGoto])
 (try simp only [ls0, ls1])
 simp only [Option.some.injEq, Prod.mk.injEq] at H
 obtain ⟨rfl, rfl, rfl, rfl, rfl, rfl, rfl, rfl, rfl, rfl, rfl, rfl, rfl, rfl, rfl, rfl, rfl, rfl⟩ := H
 refine bodyPost_ret (res_ct rfl rfl (load_of (load_agg (cs := [.int .i64 0, .int .i64 0, .string (⟨#[]⟩ : ByteArray), .int .i64 0, .bool false, .bool false, .string (⟨#[]⟩ : ByteArray), .int .i64 0, .int .i64 0, .int .i64 0, .int .i64 0, .int .i64 0, .string (⟨#[]⟩ : ByteArray), .string (⟨#[]⟩ : ByteArray), .slice none 0 0, .slice none 0 0, .slice none 0 0]) Try.underlying89 rfl (by kernel_rfl) (bx_cells (HX23).2 0 rfl)))) rfl ?_
 exact ⟨_, none, 0, none, 0, none, 0, rfl, HS, (Own.nil _ _ _ _ _), (Nat.le_refl 0), (Own.nil _ _ _ _ _), (Nat.le_refl 0), (Own.nil _ _ _ _ _), (Nat.le_refl 0)⟩

/-! ### stmt_Row_nil: function 65 -/
def stmt_Row_nil.f (k : Nat) (a1 : Int) : Option ((List (S89)) × Int) := some (([] : List (S89)), 1)

set_option maxHeartbeats 8000000 in
set_option maxRecDepth 100000 in
theorem stmt_Row_nil.calls (k : Nat) (a1 : Int) (r1 : List (S89)) (r2 : Int) (c : Nat → Nat) (w : World) (hc : ∀ k, c k < 10)  (H : stmt_Row_nil.f k a1 = some (r1, r2)) :
    Calls Try.prog 65 #[.pointer none, .int .i64 a1] w fun e w' => ∃ (c' : Nat → Nat) (A_r1 : Option Addr) (c_r1 : Nat), e = .returned (.tuple #[.slice A_r1 r1.length c_r1, .int .i64 r2]) ∧ Step c w c' w' [] ∧ Own c' 5 w' k89 89 (.slice A_r1 r1.length c_r1) r1 ∧ r1.length ≤ c_r1 := by
 unfold stmt_Row_nil.f at H
 have HS := Step.refl c w []
 go_enter Try.func65, Try.ntmps65
 refine wp_seq_k fun K5 hK5 => ?_
 refine wl_region ?_
 refine st (.slice none 0 0) rfl rfl (xr_assign _ rfl rfl) ?_
 refine st (.int .i64 0) rfl rfl (xr_assign _ rfl rfl) ?_
 refine wl_end ?_
 (try simp only [ls0, ls1])
 refine hK5 _ _ ?_
 (try clear hK5 K5)
 refine wp_seq_k fun K6 hK6 => ?_
 refine wp_seq_k fun K7 hK7 => ?_
 refine wl_region ?_
 refine mv_ rfl ?_
 refine st (.bool true) rfl rfl (xr_bin (.pointer none) (.pointer none) (.bool true) rfl rfl rfl (B.eql_nn ⟨_, Try.underlying57⟩ (⟨0, 0, none⟩ : Addr))) ?_
 refine wl_end ?_
 (try simp only [ls0, ls1])
 refine hK7 _ _ ?_
 (try clear hK7 K7)
 refine wp_cond_true rfl ?_
 refine wp_seq_k fun K8 hK8 => ?_
 refine wl_region ?_
 refine st (.slice none 0 0) rfl rfl (xr_assign _ rfl rfl) ?_
 refine st (.int .i64 1) rfl rfl (xr_assign _ rfl rfl) ?_
 refine wl_end ?_
 (try simp only [ls0, ls1])
 refine hK8 _ _ ?_
 (try clear hK8 K8)
 refine wp_ret ?_
 (try simp only [Exit.inBlock, Exit.then, Exit.noGoto])
 (try simp only [ls0, ls1])
 simp only [Option.some.injEq, Prod.mk.injEq] at H
 obtain ⟨rfl, rfl⟩ := H
 refine bodyPost_ret (results_tmp2 rfl _ _ _) rfl ?_
 exact ⟨_, none, 0, rfl, HS, (Own.nil _ _ _ _ _), (Nat.le_refl 0)⟩

/-! ### blazonlaw09_StmtNil: function 16 -/
def blazonlaw09_StmtNil.f (k : Nat) (a0 : Int) : Option (Bool) := (stmt_Type_nil.f).bind fun bt99 => ((stmt_Mark_nil.f).bind fun bt107 => ((stmt_Stmt_nil.f k a0).bind fun bt127 => ((stmt_Row_nil.f k a0).bind fun bt171 => (if bt99.2 = 1 then (if bt107.2.2.2.2.2 = 1 then (if bt127.2.2.2.2.2.2.2.2.2.2.2.2.2.2.2.2.2 = 1 then (if bt171.2 = 1 then ((blazonlaw09_awake.f k).bind fun t187 => (some t187)) else (some false)) else (some false)) else (some false)) else (some false)))))

set_option maxHeartbeats 8000000 in
set_option maxRecDepth 100000 in
theorem blazonlaw09_StmtNil.calls (k : Nat) (a0 : Int) (r : Bool) (c : Nat → Nat) (w : World) (hc : ∀ k, c k < 10)  (H : blazonlaw09_StmtNil.f k a0 = some r) :
    Calls Try.prog 16 #[.int .i64 a0] w fun e w' => ∃ (c' : Nat → Nat) , e = .returned (.bool r) ∧ Step c w c' w' [] := by
 unfold blazonlaw09_StmtNil.f at H
 have HS := Step.refl c w []
 go_enter Try.func16, Try.ntmps16
 refine wp_seq_k fun K97 hK97 => ?_
 refine wl_region ?_
 refine st (.bool false) rfl rfl (xr_assign _ rfl rfl) ?_
 refine wl_end ?_
 (try simp only [ls0, ls1])
 refine hK97 _ _ ?_
 (try clear hK97 K97)
 refine wp_seq_k fun K98 hK98 => ?_
 refine wl_region ?_
 obtain ⟨⟨t99, t100⟩, A101, H⟩ := bnd H
 (try dsimp only at H)
 refine st_call #[.pointer none] rfl rfl Try.func58 (by kernel_rfl) rfl rfl (mp_ rfl) ?_
 refine (stmt_Type_nil.calls t99 t100  (fun z_ => pal [(0, 0)] (c z_)) w (fun _ => pal_lt rfl _) A101).mono ?_
 rintro _ w103 ⟨C104, rfl, hs105⟩
 refine ⟨_, rfl, ?_⟩
 replace hs105 := Step.lift (U := [(0, 0)]) hs105 [] rfl rfl
 generalize up c C104 w.heap.size [(0, 0)] = C104_ at hs105
 replace HS := HS.trans hs105 hc rfl
 (try simp only [ls0, ls1])
 refine mv_ rfl ?_
 refine st (.int .i64 t99) rfl rfl (xr_extract (.tuple #[.int .i64 t99, .int .i64 t100]) _ rfl rfl rfl) ?_
 refine st (.int .i64 t100) rfl rfl (xr_extract (.tuple #[.int .i64 t99, .int .i64 t100]) _ rfl rfl rfl) ?_
 refine as_ rfl ?_
 simp only [ls0, ls1]
 refine as_ rfl ?_
 refine wl_end ?_
 (try simp only [ls0, ls1])
 refine hK98 _ _ ?_
 (try clear hK98 K98)
 refine wp_seq_k fun K106 hK106 => ?_
 refine wl_region ?_
 obtain ⟨⟨t107, t108, t109, t110, t111, t112⟩, A113, H⟩ := bnd H
 (try dsimp only at H)
 refine st_call #[.pointer none] rfl rfl Try.func60 (by kernel_rfl) rfl rfl (mp_ rfl) ?_
 refine (stmt_Mark_nil.calls t107 t108 t109 t110 t111 t112  (fun z_ => pal [(0, 0)] (C104_ z_)) w103 (fun _ => pal_lt rfl _) A113).mono ?_
 rintro _ w115 ⟨C116, rfl, hs117⟩
 refine ⟨_, rfl, ?_⟩
 replace hs117 := Step.lift (U := [(0, 0)]) hs117 [] rfl rfl
 generalize up C104_ C116 w103.heap.size [(0, 0)] = C116_ at hs117
 replace HS := HS.trans hs117 hc rfl
 (try simp only [ls0, ls1])
 refine mv_ rfl ?_
 refine st (.agg #[.bool t107, .bool t108, .string t109, .int .i64 t110, .int .i64 t111]) rfl rfl (xr_extract (.tuple #[.agg #[.bool t107, .bool t108, .string t109, .int .i64 t110, .int .i64 t111], .int .i64 t112]) _ rfl rfl rfl) ?_
 refine st (.int .i64 t112) rfl rfl (xr_extract (.tuple #[.agg #[.bool t107, .bool t108, .string t109, .int .i64 t110, .int .i64 t111], .int .i64 t112]) _ rfl rfl rfl) ?_
 refine bx_new (C := C116_) 82 ([.bool false, .bool false, .string (⟨#[]⟩ : ByteArray), .int .i64 0, .int .i64 0]) 11 rfl rfl (by first | (go_simp; done) | (go_simp; rfl)) ?_
 intro g118 w119 C120 HX121 hs122
 replace HS := HS.trans hs122 hc rfl
 (try simp only [ls0, ls1])
 refine bx_store (C := C120) (z := 11) (g := g118) (j := 0) (tb := 82) (u := .agg #[.bool t107, .bool t108, .string t109, .int .i64 t110, .int .i64 t111]) (seg := [.bool t107, .bool t108, .string t109, .int .i64 t110, .int .i64 t111]) (xs := [.bool false, .bool false, .string (⟨#[]⟩ : ByteArray), .int .i64 0, .int .i64 0]) rfl rfl rfl rfl rfl rfl (by first | kernel_rfl | rfl) (by simp [Value.oneCell']) HX121 (by simp only [List.length_cons, List.length_nil]; omega) rfl ?_
 intro w123 HX124 hs125
 replace HS := HS.trans hs125 hc rfl
 (try simp only [ls0, ls1])
 refine as_ rfl ?_
 refine wl_end ?_
 (try simp only [ls0, ls1])
 refine hK106 _ _ ?_
 (try clear hK106 K106)
 refine wp_seq_k fun K126 hK126 => ?_
 refine wl_region ?_
 refine mv_ rfl ?_
 obtain ⟨⟨t127, t128, t129, t130, t131, t132, t133, t134, t135, t136, t137, t138, t139, t140, t141, t142, t143, t144⟩, A145, H⟩ := bnd H
 (try dsimp only at H)
 refine st_call #[.pointer none, .int .i64 a0] rfl rfl Try.func62 (by kernel_rfl) rfl rfl (mp_ rfl) ?_
 refine (stmt_Stmt_nil.calls k a0 t127 t128 t129 t130 t131 t132 t133 t134 t135 t136 t137 t138 t139 t140 t141 t142 t143 t144  (fun z_ => pal [(0, 0)] (C120 z_)) w123 (fun _ => pal_lt rfl _) A145).mono ?_
 rintro _ w147 ⟨C148, A150, cp151, A154, cp155, A158, cp159, rfl, hs149, HO152, HC153, HO156, HC157, HO160, HC161⟩
 refine ⟨_, rfl, ?_⟩
 replace HO152 := Own.res (U := [(0, 0), (5, 12), (6, 13), (7, 14)]) (j := 12) HO152 hs149 (by rfl) (by decide) rfl rfl
 replace HO156 := Own.res (U := [(0, 0), (5, 12), (6, 13), (7, 14)]) (j := 13) HO156 hs149 (by rfl) (by decide) rfl rfl
 replace HO160 := Own.res (U := [(0, 0), (5, 12), (6, 13), (7, 14)]) (j := 14) HO160 hs149 (by rfl) (by decide) rfl rfl
 replace hs149 := Step.lift (U := [(0, 0), (5, 12), (6, 13), (7, 14)]) hs149 [] rfl rfl
 generalize up C120 C148 w123.heap.size [(0, 0), (5, 12), (6, 13), (7, 14)] = C148_ at HO152 HO156 HO160 hs149
 replace HX124 := HX124.thru hs149 rfl
 replace HS := HS.trans hs149 hc rfl
 (try simp only [ls0, ls1])
 refine mv_ rfl ?_
 refine st (.agg #[.int .i64 t127, .int .i64 t128, .string t129, .int .i64 t130, .bool t131, .bool t132, .string t133, .int .i64 t134, .int .i64 t135, .int .i64 t136, .int .i64 t137, .int .i64 t138, .string t139, .string t140, .slice A150 t141.length cp151, .slice A154 t142.length cp155, .slice A158 t143.length cp159]) rfl rfl (xr_extract (.tuple #[.agg #[.int .i64 t127, .int .i64 t128, .string t129, .int .i64 t130, .bool t131, .bool t132, .string t133, .int .i64 t134, .int .i64 t135, .int .i64 t136, .int .i64 t137, .int .i64 t138, .string t139, .string t140, .slice A150 t141.length cp151, .slice A154 t142.length cp155, .slice A158 t143.length cp159], .int .i64 t144]) _ rfl rfl rfl) ?_
 refine st (.int .i64 t144) rfl rfl (xr_extract (.tuple #[.agg #[.int .i64 t127, .int .i64 t128, .string t129, .int .i64 t130, .bool t131, .bool t132, .string t133, .int .i64 t134, .int .i64 t135, .int .i64 t136, .int .i64 t137, .int .i64 t138, .string t139, .string t140, .slice A150 t141.length cp151, .slice A154 t142.length cp155, .slice A158 t143.length cp159], .int .i64 t144]) _ rfl rfl rfl) ?_
 refine bx_new (C := C148_) 89 ([.int .i64 0, .int .i64 0, .string (⟨#[]⟩ : ByteArray), .int .i64 0, .bool false, .bool false, .string (⟨#[]⟩ : ByteArray), .int .i64 0, .int .i64 0, .int .i64 0, .int .i64 0, .int .i64 0, .string (⟨#[]⟩ : ByteArray), .string (⟨#[]⟩ : ByteArray), .slice none 0 0, .slice none 0 0, .slice none 0 0]) 15 rfl rfl (by first | (go_simp; done) | (go_simp; rfl)) ?_
 intro g162 w163 C164 HX165 hs166
 replace HX124 := HX124.thru hs166 rfl
 replace HO152 := HO152.thru hs166 rfl
 replace HO156 := HO156.thru hs166 rfl
 replace HO160 := HO160.thru hs166 rfl
 replace HS := HS.trans hs166 hc rfl
 (try simp only [ls0, ls1])
 refine bx_store (C := C164) (z := 15) (g := g162) (j := 0) (tb := 89) (u := .agg #[.int .i64 t127, .int .i64 t128, .string t129, .int .i64 t130, .bool t131, .bool t132, .string t133, .int .i64 t134, .int .i64 t135, .int .i64 t136, .int .i64 t137, .int .i64 t138, .string t139, .string t140, .slice A150 t141.length cp151, .slice A154 t142.length cp155, .slice A158 t143.length cp159]) (seg := [.int .i64 t127, .int .i64 t128, .string t129, .int .i64 t130, .bool t131, .bool t132, .string t133, .int .i64 t134, .int .i64 t135, .int .i64 t136, .int .i64 t137, .int .i64 t138, .string t139, .string t140, .slice A150 t141.length cp151, .slice A154 t142.length cp155, .slice A158 t143.length cp159]) (xs := [.int .i64 0, .int .i64 0, .string (⟨#[]⟩ : ByteArray), .int .i64 0, .bool false, .bool false, .string (⟨#[]⟩ : ByteArray), .int .i64 0, .int .i64 0, .int .i64 0, .int .i64 0, .int .i64 0, .string (⟨#[]⟩ : ByteArray), .string (⟨#[]⟩ : ByteArray), .slice none 0 0, .slice none 0 0, .slice none 0 0]) rfl rfl rfl rfl rfl rfl (by first | kernel_rfl | rfl) (by simp [Value.oneCell']) HX165 (by simp only [List.length_cons, List.length_nil]; omega) rfl ?_
 intro w167 HX168 hs169
 replace HX124 := HX124.thru hs169 rfl
 replace HO152 := HO152.thru hs169 rfl
 replace HO156 := HO156.thru hs169 rfl
 replace HO160 := HO160.thru hs169 rfl
 replace HS := HS.trans hs169 hc rfl
 (try simp only [ls0, ls1])
 refine as_ rfl ?_
 refine wl_end ?_
 (try simp only [ls0, ls1])
 refine hK126 _ _ ?_
 (try clear hK126 K126)
 refine wp_seq_k fun K170 hK170 => ?_
 refine wl_region ?_
 refine mv_ rfl ?_
 obtain ⟨⟨t171, t172⟩, A173, H⟩ := bnd H
 (try dsimp only at H)
 refine st_call #[.pointer none, .int .i64 a0] rfl rfl Try.func65 (by kernel_rfl) rfl rfl (mp_ rfl) ?_
 refine (stmt_Row_nil.calls k a0 t171 t172  (fun z_ => pal [(0, 0)] (C164 z_)) w167 (fun _ => pal_lt rfl _) A173).mono ?_
 rintro _ w175 ⟨C176, A178, cp179, rfl, hs177, HO180, HC181⟩
 refine ⟨_, rfl, ?_⟩
 replace HO180 := Own.res (U := [(0, 0), (5, 16)]) (j := 16) HO180 hs177 (by rfl) (by decide) rfl rfl
 replace hs177 := Step.lift (U := [(0, 0), (5, 16)]) hs177 [] rfl rfl
 generalize up C164 C176 w167.heap.size [(0, 0), (5, 16)] = C176_ at HO180 hs177
 replace HX124 := HX124.thru hs177 rfl
 replace HO152 := HO152.thru hs177 rfl
 replace HO156 := HO156.thru hs177 rfl
 replace HO160 := HO160.thru hs177 rfl
 replace HX168 := HX168.thru hs177 rfl
 replace HS := HS.trans hs177 hc rfl
 (try simp only [ls0, ls1])
 refine mv_ rfl ?_
 refine st (.slice A178 t171.length cp179) rfl rfl (xr_extract (.tuple #[.slice A178 t171.length cp179, .int .i64 t172]) _ rfl rfl rfl) ?_
 refine st (.int .i64 t172) rfl rfl (xr_extract (.tuple #[.slice A178 t171.length cp179, .int .i64 t172]) _ rfl rfl rfl) ?_
 refine as_ rfl ?_
 simp only [ls0, ls1]
 refine as_ rfl ?_
 refine wl_end ?_
 (try simp only [ls0, ls1])
 refine hK170 _ _ ?_
 (try clear hK170 K170)
 refine wp_seq_k fun K182 hK182 => ?_
 refine wl_region ?_
 refine mv_ rfl ?_
 refine st (.bool (decide (t100 = 1))) rfl rfl (xr_bin _ _ _ rfl rfl rfl (B.eql_i64 _ _)) ?_
 refine mv_ rfl ?_
 by_cases c183 : t100 = 1
 ·rw [if_pos c183] at H
  (try rw [(decide_eq_true c183)])
  refine on_guard (guard_on 2 true 31 rfl rfl rfl) ?_
  refine mv_ rfl ?_
  simp only [ls0, ls1]
  refine on_guard (guard_on 2 true 31 rfl rfl rfl) ?_
  refine st (.bool (decide (t112 = 1))) rfl rfl (xr_bin _ _ _ rfl rfl rfl (B.eql_i64 _ _)) ?_
  refine st (.bool (decide (t112 = 1))) rfl rfl (xr_pick true _ rfl rfl rfl) ?_
  refine mv_ rfl ?_
  by_cases c184 : t112 = 1
  ·rw [if_pos c184] at H
   (try rw [(decide_eq_true c184)])
   refine on_guard (guard_on 6 true 35 rfl rfl rfl) ?_
   refine mv_ rfl ?_
   simp only [ls0, ls1]
   refine on_guard (guard_on 6 true 35 rfl rfl rfl) ?_
   refine st (.bool (decide (t144 = 1))) rfl rfl (xr_bin _ _ _ rfl rfl rfl (B.eql_i64 _ _)) ?_
   refine st (.bool (decide (t144 = 1))) rfl rfl (xr_pick true _ rfl rfl rfl) ?_
   refine mv_ rfl ?_
   by_cases c185 : t144 = 1
   ·rw [if_pos c185] at H
    (try rw [(decide_eq_true c185)])
    refine on_guard (guard_on 10 true 39 rfl rfl rfl) ?_
    refine mv_ rfl ?_
    simp only [ls0, ls1]
    refine on_guard (guard_on 10 true 39 rfl rfl rfl) ?_
    refine st (.bool (decide (t172 = 1))) rfl rfl (xr_bin _ _ _ rfl rfl rfl (B.eql_i64 _ _)) ?_
    refine st (.bool (decide (t172 = 1))) rfl rfl (xr_pick true _ rfl rfl rfl) ?_
    refine mv_ rfl ?_
    by_cases c186 : t172 = 1
    ·rw [if_pos c186] at H
     (try rw [(decide_eq_true c186)])
     refine on_guard (guard_on 14 true 43 rfl rfl rfl) ?_
     obtain ⟨t187, A188, H⟩ := bnd H
     refine st_call #[] rfl rfl Try.func54 (by kernel_rfl) rfl rfl (mp_ rfl) ?_
     refine (blazonlaw09_awake.calls k t187  (fun z_ => pal [(0, 0)] (C176_ z_)) w175 (fun _ => pal_lt rfl _) A188).mono ?_
     rintro _ w190 ⟨C191, rfl, hs192⟩
     refine ⟨_, rfl, ?_⟩
     replace hs192 := Step.lift (U := [(0, 0)]) hs192 [] rfl rfl
     generalize up C176_ C191 w175.heap.size [(0, 0)] = C191_ at hs192
     replace HX124 := HX124.thru hs192 rfl
     replace HO152 := HO152.thru hs192 rfl
     replace HO156 := HO156.thru hs192 rfl
     replace HO160 := HO160.thru hs192 rfl
     replace HX168 := HX168.thru hs192 rfl
     replace HS := HS.trans hs192 hc rfl
     (try simp only [ls0, ls1])
     refine st (.bool t187) rfl rfl (xr_pick true _ rfl rfl rfl) ?_
     refine as_ rfl ?_
     refine wl_end ?_
     (try simp only [ls0, ls1])
     refine hK182 _ _ ?_
     (try clear hK182 K182)
     refine wp_ret ?_
     (try simp only [Exit.inBlock, Exit.then, Exit.noGoto])
     (try simp only [ls0, ls1])
     obtain rfl := Option.some.inj H
     refine bodyPost_ret (results_tmp rfl _ _ _) rfl ?_
     exact ⟨_, rfl, HS⟩
    rw [if_neg c186] at H
    (try rw [(decide_eq_false c186)])
    refine sk_guard (guard_off 14 true 43 rfl rfl false (by decide) rfl) rfl ?_
    refine st (.bool false) rfl rfl (xr_pick false _ rfl rfl rfl) ?_
    refine as_ rfl ?_
    refine wl_end ?_
    (try simp only [ls0, ls1])
    refine hK182 _ _ ?_
    (try clear hK182 K182)
    refine wp_ret ?_
    (try simp only [Exit.inBlock, Exit.then, Exit.noGoto])
    (try simp only [ls0, ls1])
    obtain rfl := Option.some.inj H
    refine bodyPost_ret (results_tmp rfl _ _ _) rfl ?_
    exact ⟨_, rfl, HS⟩
   rw [if_neg c185] at H
   (try rw [(decide_eq_false c185)])
   refine sk_guard (guard_off 10 true 39 rfl rfl false (by decide) rfl) rfl ?_
   refine sk_guard (guard_off 10 true 39 rfl rfl false (by decide) rfl) rfl ?_
   refine st (.bool false) rfl rfl (xr_pick false _ rfl rfl rfl) ?_
   refine mv_ rfl ?_
   simp only [ls0, ls1]
   refine sk_guard (guard_off 14 true 43 rfl rfl false (by decide) rfl) rfl ?_
   refine st (.bool false) rfl rfl (xr_pick false _ rfl rfl rfl) ?_
   refine as_ rfl ?_
   refine wl_end ?_
   (try simp only [ls0, ls1])
   refine hK182 _ _ ?_
   (try clear hK182 K182)
   refine wp_ret ?_
   (try simp only [Exit.inBlock, Exit.then, Exit.noGoto])
   (try simp only [ls0, ls1])
   obtain rfl := Option.some.inj H
   refine bodyPost_ret (results_tmp rfl _ _ _) rfl ?_
   exact ⟨_, rfl, HS⟩
  rw [if_neg c184] at H
  (try rw [(decide_eq_false c184)])
  refine sk_guard (guard_off 6 true 35 rfl rfl false (by decide) rfl) rfl ?_
  refine sk_guard (guard_off 6 true 35 rfl rfl false (by decide) rfl) rfl ?_
  refine st (.bool false) rfl rfl (xr_pick false _ rfl rfl rfl) ?_
  refine mv_ rfl ?_
  simp only [ls0, ls1]
  refine sk_guard (guard_off 10 true 39 rfl rfl false (by decide) rfl) rfl ?_
  refine sk_guard (guard_off 10 true 39 rfl rfl false (by decide) rfl) rfl ?_
  refine st (.bool false) rfl rfl (xr_pick false _ rfl rfl rfl) ?_
  refine mv_ rfl ?_
  simp only [ls0, ls1]
  refine sk_guard (guard_off 14 true 43 rfl rfl false (by decide) rfl) rfl ?_
  refine st (.bool false) rfl rfl (xr_pick false _ rfl rfl rfl) ?_
  refine as_ rfl ?_
  refine wl_end ?_
  (try simp only [ls0, ls1])
  refine hK182 _ _ ?_
  (try clear hK182 K182)
  refine wp_ret ?_
  (try simp only [Exit.inBlock, Exit.then, Exit.noGoto])
  (try simp only [ls0, ls1])
  obtain rfl := Option.some.inj H
  refine bodyPost_ret (results_tmp rfl _ _ _) rfl ?_
  exact ⟨_, rfl, HS⟩
 rw [if_neg c183] at H
 (try rw [(decide_eq_false c183)])
 refine sk_guard (guard_off 2 true 31 rfl rfl false (by decide) rfl) rfl ?_
 refine sk_guard (guard_off 2 true 31 rfl rfl false (by decide) rfl) rfl ?_
 refine st (.bool false) rfl rfl (xr_pick false _ rfl rfl rfl) ?_
 refine mv_ rfl ?_
 simp only [ls0, ls1]
 refine sk_guard (guard_off 6 true 35 rfl rfl false (by decide) rfl) rfl ?_
 refine sk_guard (guard_off 6 true 35 rfl rfl false (by decide) rfl) rfl ?_
 refine st (.bool false) rfl rfl (xr_pick false _ rfl rfl rfl) ?_
 refine mv_ rfl ?_
 simp only [ls0, ls1]
 refine sk_guard (guard_off 10 true 39 rfl rfl false (by decide) rfl) rfl ?_
 refine sk_guard (guard_off 10 true 39 rfl rfl false (by decide) rfl) rfl ?_
 refine st (.bool false) rfl rfl (xr_pick false _ rfl rfl rfl) ?_
 refine mv_ rfl ?_
 simp only [ls0, ls1]
 refine sk_guard (guard_off 14 true 43 rfl rfl false (by decide) rfl) rfl ?_
 refine st (.bool false) rfl rfl (xr_pick false _ rfl rfl rfl) ?_
 refine as_ rfl ?_
 refine wl_end ?_
 (try simp only [ls0, ls1])
 refine hK182 _ _ ?_
 (try clear hK182 K182)
 refine wp_ret ?_
 (try simp only [Exit.inBlock, Exit.then, Exit.noGoto])
 (try simp only [ls0, ls1])
 obtain rfl := Option.some.inj H
 refine bodyPost_ret (results_tmp rfl _ _ _) rfl ?_
 exact ⟨_, rfl, HS⟩
/-- THE ONE PURE STATEMENT of blazonlaw09_StmtNil. -/
def blazonlaw09_StmtNil.Pure : Prop := ∀ (a0 : Int), (Lit.int .i64 a0).wf = true → ∃ k, blazonlaw09_StmtNil.f k a0 = some true
theorem blazonlaw09_StmtNil.walk (P : blazonlaw09_StmtNil.Pure) (a0 : Int) (w : World) (w0 : (Lit.int .i64 a0).wf = true) :
    Calls Try.prog 16 #[.int .i64 a0] w fun e w' => e = .returned (.bool true) ∧ Below w.heap.size w w' := by
  obtain ⟨k, h⟩ := P a0 w0
  refine (blazonlaw09_StmtNil.calls k a0 true (fun _ => 0) w (fun _ => (by decide : (0 : Nat) < 10)) h).mono ?_
  rintro e w' ⟨c', rfl, hs⟩
  exact ⟨rfl, hs.below (fun _ => by simp)⟩

end Go.Proofs.Yteoccoklbmjiaaa.PStn
