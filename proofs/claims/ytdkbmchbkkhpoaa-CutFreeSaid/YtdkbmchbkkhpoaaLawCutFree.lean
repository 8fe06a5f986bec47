/- The row of CutFree, by cprint.py, a program of this work. Lean checks it. -/
import Derived.Test.YtdkbmchbkkhpoaaRows
import Derived.Test.YtdkbmchbkkhpoaaPCfrx3
import Derived.Test.YtdkbmchbkkhpoaaPureCutFree
import Derived.Test.YtdkbmchbkkhpoaaCOpens
import Derived.WalkKit
import Derived.ProofKit
import Derived.OpenShut
import Derived.ShutString
import Derived.ChangeOld
import Derived.Below
import Derived.SizedLaws
import Derived.Lib.SmallJoins
import Derived.Test.YtdkbmchbkkhpoaaWSized
namespace Go.Proofs.Ytdkbmchbkkhpoaa.cutFree
open Go.ChangeShapes Go.WideShapes Go.ChangeAt Go.RowKit
open Go.ChangeMaps (open_string shut_string)
open Go.Proofs.Ytdkbmchbkkhpoaa.PCfr Go.Proofs.YtdkbmchbkkhpoaaW.PrintWords
set_option linter.unusedVariables false
theorem own : ownKnob Try.prog.godebug = none := by kernel_rfl
theorem laidOut : laidOutB Try.prog = true := by kernel_rfl
set_option maxRecDepth 100000 in
theorem lifted (os : Os) (started : os.Started) (H : Type) (enc : TypeId × Value → H) :
    ReturnsInHanded {} Try.checked os 13 .any (Rows.cutFreeSpec.pre6 enc Try.prog Try.f13 Rows.cutFreeRow.domain false) (Rows.cutFreeSpec.post enc Try.prog Try.f13 false true false false) := by
  refine returnsInHanded_of_change_sized (C := Try.checked) own started (by kernel_rfl) Try.func13
    (ChangeSpec.witness6 (enc := enc) (C := Try.checked) false ⟨#[], #[.slice none 0 0, .slice none 0 0], []⟩ 8 (by kernel_rfl) (by kernel_rfl) (by kernel_rfl) (by kernel_rfl)) ?_
  intro W base args ds gs before hval0 hW hcnd hsz0 _
  have hsz : (DataW.weightsEach Try.prog (Try.f13.params.toList ++ Rows.cutFreeSpec.plain.varTypes Try.prog) (ds ++ gs)).all (· ≤ reachBytes) = true := hsz0
  have hval : ∀ (j : Nat) t v, Try.f13.params[j]? = some t → args[j]? = some v → Value.okWide Try.prog W .any base t v := hval0
  have hW' := hW
  obtain ⟨p, q, hA0, hV, rfl, hfz, hnd⟩ := hW
  have hA : DataW.TrodAll enc Try.prog W 0 (fun _ => true) true Try.f13.params.toList args.toList ds p := hA0
  rw [Try.params13] at hA hval hsz
  obtain ⟨v0, vs0, d0, ds0, p0, q0, hargs, rfl, rfl, h0, r0⟩ := trodAll_cons hA
  obtain ⟨v1, vs1, d1, ds1, p1, q1, rfl, rfl, rfl, h1, r1⟩ := trodAll_cons r0
  obtain ⟨rfl, rfl, rfl⟩ := trodAll_nil r1
  obtain rfl : args = #[v0, v1] := by cases args; simp_all
  obtain ⟨rfl, rfl⟩ := trodVars_none hV
  have k0 := h0
  have lt0 : ∀ x ∈ p0, x.block < W.heap.size := by obtain ⟨m, hm⟩ := k0; exact DataW.trod_lt m _ _ _ hm
  obtain ⟨y0, K0, O0⟩ := opens_arg (fun M => (opens_slice (B := 8) (opens_int Try.underlying2) Try.underlying42 (by kernel_rfl) (by kernel_rfl))) hsz (j := 0) (t := 42) rfl rfl h0
  obtain ⟨a0, len0, cap0, rfl⟩ := okWide_slice Try.underlying42 (hval 0 42 v0 rfl rfl)
  obtain ⟨_, _, he0, hl0, hC0⟩ := K0
  simp only [Value.cells, List.cons.injEq, Value.slice.injEq, and_true] at he0
  obtain ⟨rfl, rfl, rfl⟩ := he0
  have k1 := h1
  have lt1 : ∀ x ∈ p1, x.block < W.heap.size := by obtain ⟨m, hm⟩ := k1; exact DataW.trod_lt m _ _ _ hm
  obtain ⟨y1, K1, O1⟩ := opens_arg (fun M => (opens_slice (B := 16) (opens62 M) Try.underlying48 (by kernel_rfl) (by kernel_rfl))) hsz (j := 1) (t := 48) rfl rfl h1
  obtain ⟨a1, len1, cap1, rfl⟩ := okWide_slice Try.underlying48 (hval 1 48 v1 rfl rfl)
  obtain ⟨_, _, he1, hl1, hC1⟩ := K1
  simp only [Value.cells, List.cons.injEq, Value.slice.injEq, and_true] at he1
  obtain ⟨rfl, rfl, rfl⟩ := he1
  clear hA0 hval0 hsz0 hsz
  obtain ⟨k, h⟩ := Pure.CutFree y0 y1 O0.1 O0.2.1 O0.2.2 O1.1 O1.2.1 O1.2.2
  refine (blazonlaw26_CutFree.calls k _ _ y0 _ _ y1 true (fun _ => 0) W (fun _ => (by decide : (0 : Nat) < 10)) (Ft.of_C (Kd.heap_int .i64) hC0) hl0 (Ft.of_C k62_heap hC1) hl1 h).mono ?_
  rintro e W' ⟨c', rfl, hs⟩
  have bel := hs.below (fun _ => by simp)
  exact ⟨_, rfl, _, _, _, [], _, [], hW', trodAll_mk1 (shut_bool Try.underlying4 _), (trodAll_cons_mk (Below.trod laidOut (by kernel_rfl) (of_decide_eq_true (by kernel_rfl)) k0 bel lt0) (trodAll_cons_mk (Below.trod laidOut (by kernel_rfl) (of_decide_eq_true (by kernel_rfl)) k1 bel lt1) trodAll_mk0)), rfl, bel.frame _, fun h => by cases h⟩
theorem over : Rows.cutFreeRow.holds Try.pinned (OpenSpec.ofChange Rows.cutFreeSpec) :=
  OpenClaim.holds_of_wide 13 Try.f13 rfl rfl rfl rfl rfl rfl rfl ⟨rfl, rfl, rfl, rfl, rfl⟩ rfl rfl rfl rfl rfl (by kernel_rfl) Try.func13 (by kernel_rfl)
    (of_decide_eq_true (by kernel_rfl)) (by unfold Func.isWrapper; first | (rw [if_pos (by decide +kernel)]; kernel_rfl) | (rw [if_neg (by decide +kernel)]; exact ⟨rfl, rfl⟩))
    (fun os started H enc _ => lifted os started H enc)
theorem proved : Rows.CutFreeSaid := over
#print axioms proved
end Go.Proofs.Ytdkbmchbkkhpoaa.cutFree
namespace Go.Proofs.Ytdkbmchbkkhpoaa
/-- The row, under a short name, for the claim. -/
theorem cutFree_holds : Rows.CutFreeSaid := cutFree.proved
end Go.Proofs.Ytdkbmchbkkhpoaa
