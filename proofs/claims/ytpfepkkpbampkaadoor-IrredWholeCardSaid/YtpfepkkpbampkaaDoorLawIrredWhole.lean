/- The row of IrredWhole, by cprint.py, a program of this work. Lean checks it. -/
import Derived.Test.YtpfepkkpbampkaaDoorRows
import Derived.Test.YtpfepkkpbampkaaDoorPIrwx10
import Derived.Test.YtpfepkkpbampkaaDoorPureIrredWhole
import Derived.Test.YtpfepkkpbampkaaDoorCOpens
import Derived.WalkKit
import Derived.ProofKit
import Derived.OpenShut
import Derived.ShutString
import Derived.ChangeOld
import Derived.Below
import Derived.SizedLaws
import Derived.Lib.SmallJoins
import Derived.Test.YtpfepkkpbampkaaDoorWSized
import Derived.Test.YtpfepkkpbampkaaDoorCards
import Derived.Test.YtpfepkkpbampkaaDoorTie
import Derived.MakeChecks
import Derived.LaidMore
import Derived.LaidHandle
import Derived.LaidLaws
import Derived.SevenTiedAt
import Derived.Lib.LaidTab
set_option maxRecDepth 100000
namespace Go.Proofs.YtpfepkkpbampkaaDoor.irredWhole
open Go.ChangeShapes Go.WideShapes Go.ChangeAt Go.RowKit
open Go.ChangeMaps (open_string shut_string)
open Go.Proofs.YtpfepkkpbampkaaDoor.PIrw Go.Proofs.YtpfepkkpbampkaaDoorW.PrintWords
set_option linter.unusedVariables false
theorem own : ownKnob Tryd.prog.godebug = none := by kernel_rfl
theorem laidOut : laidOutB Tryd.prog = true := by kernel_rfl
def yT : List (String × DataW Unit) := [("math/bits.deBruijn64tab", Rows.laid_math_bits_deBruijn64tab)]
theorem door_met (os : Os) (args : Array Value) : laidMetH Tryd.prog yT ((World.doorLaid Tryd.prog 400 os).forCall (fun _ _ => 0) ⟨#[], args, []⟩).memory :=
  laidMetH_of_parts3 (fuel := 8) (laidMet_of_run' 8 (by kernel_rfl) (by kernel_rfl)) (by kernel_rfl) (by kernel_rfl)
theorem of_laid {W : World} (h : laidMetH Tryd.prog yT W) : vN W := by
  rw [MakeChecks.laidMetH_plain _ _ _ (by kernel_rfl)] at h
  have hT := Lib.tabIs_of_head (k := .u8) (zs := deB) (rest := []) (g := 0) (t := 137) (e := 5) (n := 64) (by kernel_rfl) (by kernel_rfl) Tryd.underlying137 Tryd.underlying5 (by kernel_rfl) (by kernel_rfl) h
  intro i hi
  exact hT.cell (by kernel_rfl) i hi
theorem lifted (os : Os) (started : os.Started) (H : Type) (enc : TypeId × Value → H) :
    ReturnsInHanded {} Tryd.checked os 11 .any (fun w args => (Rows.irredWholeSpec.pre enc Tryd.prog Tryd.f11 Rows.irredWholeRow.domain false w args ∧ laidMetH Tryd.prog yT w) ∧ sizedMet enc Tryd.prog Tryd.f11 (OpenSpec.ofChange Rows.irredWholeSpec) false w args) (Rows.irredWholeSpec.post enc Tryd.prog Tryd.f11 false true false false) := by
  refine returnsInHanded_of_change_and (C := Tryd.checked) (X := fun w _ => laidMetH Tryd.prog yT w) (fun _ _ _ hh h => h.of_heap hh) own started (by kernel_rfl) Tryd.func11
    (ChangeSpec.witness_shaped (enc := enc) (C := Tryd.checked) (os := os) (X := fun w _ => laidMetH Tryd.prog yT w) false (World.doorLaid Tryd.prog 400 os) #[.slice none 0 0, .int .u64 0] 8 rfl (World.shaped_of_RefB (by kernel_rfl) (by kernel_rfl)) (by kernel_rfl) (by kernel_rfl) (by kernel_rfl) (door_met os _)) ?_
  intro W base args ds gs before hval0 hW hcnd hsz0 hL _
  have hsz : (DataW.weightsEach Tryd.prog (Tryd.f11.params.toList ++ Rows.irredWholeSpec.plain.varTypes Tryd.prog) (ds ++ gs)).all (· ≤ reachBytes) = true := hsz0
  have hval : ∀ (j : Nat) t v, Tryd.f11.params[j]? = some t → args[j]? = some v → Value.okWide Tryd.prog W .any base t v := hval0
  have hW' := hW
  obtain ⟨p, q, hA0, hV, rfl, hfz, hnd⟩ := hW
  have hA : DataW.TrodAll enc Tryd.prog W 0 (fun _ => true) true Tryd.f11.params.toList args.toList ds p := hA0
  rw [Tryd.params11] at hA hval hsz
  obtain ⟨v0, vs0, d0, ds0, p0, q0, hargs, rfl, rfl, h0, r0⟩ := trodAll_cons hA
  obtain ⟨v1, vs1, d1, ds1, p1, q1, rfl, rfl, rfl, h1, r1⟩ := trodAll_cons r0
  obtain ⟨rfl, rfl, rfl⟩ := trodAll_nil r1
  obtain rfl : args = #[v0, v1] := by cases args; simp_all
  obtain ⟨rfl, rfl⟩ := trodVars_none hV
  have k0 := h0
  have lt0 : ∀ x ∈ p0, x.block < W.heap.size := by obtain ⟨m, hm⟩ := k0; exact DataW.trod_lt m _ _ _ hm
  obtain ⟨y0, K0, O0⟩ := DL (fun M => (Az (B := 40) (CW M) Tryd.underlying22 (by kernel_rfl) (by kernel_rfl))) hsz (j := 0) (t := 22) rfl rfl h0
  obtain ⟨a0, len0, cap0, rfl⟩ := okWide_slice Tryd.underlying22 (hval 0 22 v0 rfl rfl)
  obtain ⟨_, _, he0, hl0, hC0⟩ := K0
  simp only [Value.cells, List.cons.injEq, Value.slice.injEq, and_true] at he0
  obtain ⟨rfl, rfl, rfl⟩ := he0
  obtain ⟨a1, rfl, rfl, rfl, w1⟩ := open_int Tryd.underlying58 (hval 1 58 v1 rfl rfl) h1
  clear hA0 hval0 hsz0 hsz
  obtain ⟨k, h⟩ := Pure.IrredWhole y0 a1 O0.1 O0.2.1 O0.2.2 w1
  refine (lZ.calls k _ _ y0 a1 true (fun _ => 0) W (fun _ => (by decide : (0 : Nat) < 10)) (vN.ft (of_laid hL) rfl) (Ft.of_C Ag hC0) hl0 h).mono ?_
  rintro e W' ⟨c', rfl, hs⟩
  have bel := hs.below (fun _ => by simp)
  exact ⟨_, rfl, _, _, _, [], _, [], hW', trodAll_mk1 (shut_bool Tryd.underlying4 _), (trodAll_cons_mk (Below.trod laidOut (by kernel_rfl) (of_decide_eq_true (by kernel_rfl)) k0 bel lt0) (trodAll_cons_mk (shut_int Tryd.underlying58 w1) trodAll_mk0)), rfl, bel.frame _, fun h => by cases h⟩
theorem over : Rows.irredWholeRow.holds Tryd.pinned (OpenSpec.ofChange Rows.irredWholeSpec) :=
  OpenClaim.holds_of_wide 11 Tryd.f11 rfl rfl rfl rfl rfl rfl rfl ⟨rfl, rfl, rfl, rfl, rfl⟩ rfl rfl rfl rfl rfl (by kernel_rfl) Tryd.func11 (by kernel_rfl)
    (of_decide_eq_true (by kernel_rfl)) (by unfold Func.isWrapper; first | (rw [if_pos (by decide +kernel)]; kernel_rfl) | (rw [if_neg (by decide +kernel)]; exact ⟨rfl, rfl⟩))
    (fun os started H enc _ => lifted os started H enc)
theorem proved : Rows.IrredWholeCardSaid :=
  Claim7.holds_tied_plain_at .later [] [.data] true (true, "74622ce580f42d7679b3f1b99dba5767b9d65d84d5b6a6f27581c9318c0d92c8") false
    over (fun _ h => by cases h) (by kernel_rfl) (fun _ h => by cases h) irredWhole_row_tie rfl ⟨rfl, rfl⟩ (by kernel_rfl) rfl
    (fun f fn hf hfn => by
      obtain rfl : f = 11 := Option.some.inj ((show Tryd.prog.funcNamed "blazon/blazonlaw15.IrredWhole" = some 11 by kernel_rfl).symm.trans hf) |>.symm
      obtain rfl : fn = Tryd.f11 := (Option.some.inj (Tryd.func11.symm.trans hfn)).symm
      exact ⟨by kernel_rfl, fun j t ht => by
        rw [Tryd.params11] at ht
        have hm : t ∈ [22, 58] := by simpa using Array.mem_of_getElem? ht
        have hall : ([22, 58].all fun u => !Tryd.prog.wantsStandIn u) = true := by kernel_rfl
        exact (show Tryd.prog.wantsStandIn t = false by simpa using List.all_eq_true.1 hall t hm)⟩)
    (by kernel_rfl)
#print axioms proved
end Go.Proofs.YtpfepkkpbampkaaDoor.irredWhole
namespace Go.Proofs.YtpfepkkpbampkaaDoor
theorem irredWhole_holds : Rows.IrredWholeCardSaid := irredWhole.proved
end Go.Proofs.YtpfepkkpbampkaaDoor
