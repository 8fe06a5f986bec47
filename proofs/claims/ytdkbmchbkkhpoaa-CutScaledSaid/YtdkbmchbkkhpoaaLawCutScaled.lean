/- The row of CutScaled, by cprint.py, a program of this work. Lean checks it. -/
import Derived.Test.YtdkbmchbkkhpoaaRows
import Derived.Test.YtdkbmchbkkhpoaaPCscx5
import Derived.Test.YtdkbmchbkkhpoaaPureCutScaled
import Derived.Test.YtdkbmchbkkhpoaaCOpens
import Derived.WalkKit
import Derived.ProofKit
import Derived.OpenShut
import Derived.ShutString
import Derived.ChangeOld
import Derived.Below
import Derived.SizedLaws
import Derived.Lib.SmallJoins
import Derived.Test.YtdkbmchbkkhpoaaWSized
namespace Go.Proofs.Ytdkbmchbkkhpoaa.cutScaled
open Go.ChangeShapes Go.WideShapes Go.ChangeAt Go.RowKit
open Go.ChangeMaps (open_string shut_string)
open Go.Proofs.Ytdkbmchbkkhpoaa.PCsc Go.Proofs.YtdkbmchbkkhpoaaW.PrintWords
set_option linter.unusedVariables false
theorem own : ownKnob Try.prog.godebug = none := by kernel_rfl
theorem laidOut : laidOutB Try.prog = true := by kernel_rfl
set_option maxRecDepth 100000 in
theorem lifted (os : Os) (started : os.Started) (H : Type) (enc : TypeId × Value → H) :
    ReturnsInHanded {} Try.checked os 11 .any (Rows.cutScaledSpec.pre6 enc Try.prog Try.f11 Rows.cutScaledRow.domain false) (Rows.cutScaledSpec.post enc Try.prog Try.f11 false true false false) := by
  refine returnsInHanded_of_change_sized (C := Try.checked) own started (by kernel_rfl) Try.func11
    (ChangeSpec.witness6 (enc := enc) (C := Try.checked) false ⟨#[], #[.agg #[.slice none 0 0, .slice none 0 0, .slice none 0 0, .slice none 0 0], .int .u8 0], []⟩ 8 (by kernel_rfl) (by kernel_rfl) (by kernel_rfl) (by kernel_rfl)) ?_
  intro W base args ds gs before hval0 hW hcnd hsz0 _
  have hsz : (DataW.weightsEach Try.prog (Try.f11.params.toList ++ Rows.cutScaledSpec.plain.varTypes Try.prog) (ds ++ gs)).all (· ≤ reachBytes) = true := hsz0
  have hval : ∀ (j : Nat) t v, Try.f11.params[j]? = some t → args[j]? = some v → Value.okWide Try.prog W .any base t v := hval0
  have hW' := hW
  obtain ⟨p, q, hA0, hV, rfl, hfz, hnd⟩ := hW
  have hA : DataW.TrodAll enc Try.prog W 0 (fun _ => true) true Try.f11.params.toList args.toList ds p := hA0
  rw [Try.params11] at hA hval hsz
  obtain ⟨v0, vs0, d0, ds0, p0, q0, hargs, rfl, rfl, h0, r0⟩ := trodAll_cons hA
  obtain ⟨v1, vs1, d1, ds1, p1, q1, rfl, rfl, rfl, h1, r1⟩ := trodAll_cons r0
  obtain ⟨rfl, rfl, rfl⟩ := trodAll_nil r1
  obtain rfl : args = #[v0, v1] := by cases args; simp_all
  obtain ⟨rfl, rfl⟩ := trodVars_none hV
  have k0 := h0
  have lt0 : ∀ x ∈ p0, x.block < W.heap.size := by obtain ⟨m, hm⟩ := k0; exact DataW.trod_lt m _ _ _ hm
  obtain ⟨y0, K0, O0⟩ := opens_arg (fun M => (opens50 M)) hsz (j := 0) (t := 50) rfl rfl h0
  obtain ⟨cs0, rfl, hcs0⟩ := okWide_struct Try.underlying50 (hval 0 50 v0 rfl rfl)
  obtain ⟨A0_0, c0_0, A0_1, c0_1, A0_2, c0_2, A0_3, c0_3, he0, L0_0, G0_0, L0_1, G0_1, L0_2, G0_2, L0_3, G0_3⟩ := k50_open K0
  obtain rfl : cs0 = #[.slice A0_0 (y0.f0).length c0_0, .slice A0_1 (y0.f1).length c0_1, .slice A0_2 (y0.f2).length c0_2, .slice A0_3 (y0.f3).length c0_3] := by cases cs0; simpa [Value.cells] using he0
  obtain ⟨a1, rfl, rfl, rfl, w1⟩ := open_int Try.underlying5 (hval 1 5 v1 rfl rfl) h1
  clear hA0 hval0 hsz0 hsz
  obtain ⟨k, h⟩ := Pure.CutScaled (y0.f0) (y0.f1) (y0.f2) (y0.f3) a1 O0.1.1 O0.1.2.1 O0.1.2.2 O0.2.1.1 O0.2.1.2.1 O0.2.1.2.2 O0.2.2.1.1 O0.2.2.1.2.1 O0.2.2.1.2.2 O0.2.2.2.1 O0.2.2.2.2.1 O0.2.2.2.2.2 w1
  refine (blazonlaw26_CutScaled.calls k _ _ (y0.f0) _ _ (y0.f1) _ _ (y0.f2) _ _ (y0.f3) a1 true (fun _ => 0) W (fun _ => (by decide : (0 : Nat) < 10)) (Ft.of_C (Kd.heap_int .i64) G0_0) L0_0 (Ft.of_C (Kd.heap_int .i64) G0_1) L0_1 (Ft.of_C (Kd.heap_int .i64) G0_2) L0_2 (Ft.of_C k62_heap G0_3) L0_3 h).mono ?_
  rintro e W' ⟨c', rfl, hs⟩
  have bel := hs.below (fun _ => by simp)
  exact ⟨_, rfl, _, _, _, [], _, [], hW', trodAll_mk1 (shut_bool Try.underlying4 _), (trodAll_cons_mk (Below.trod laidOut (by kernel_rfl) (of_decide_eq_true (by kernel_rfl)) k0 bel lt0) (trodAll_cons_mk (shut_int Try.underlying5 w1) trodAll_mk0)), rfl, bel.frame _, fun h => by cases h⟩
theorem over : Rows.cutScaledRow.holds Try.pinned (OpenSpec.ofChange Rows.cutScaledSpec) :=
  OpenClaim.holds_of_wide 11 Try.f11 rfl rfl rfl rfl rfl rfl rfl ⟨rfl, rfl, rfl, rfl, rfl⟩ rfl rfl rfl rfl rfl (by kernel_rfl) Try.func11 (by kernel_rfl)
    (of_decide_eq_true (by kernel_rfl)) (by unfold Func.isWrapper; first | (rw [if_pos (by decide +kernel)]; kernel_rfl) | (rw [if_neg (by decide +kernel)]; exact ⟨rfl, rfl⟩))
    (fun os started H enc _ => lifted os started H enc)
theorem proved : Rows.CutScaledSaid := over
#print axioms proved
end Go.Proofs.Ytdkbmchbkkhpoaa.cutScaled
namespace Go.Proofs.Ytdkbmchbkkhpoaa
/-- The row, under a short name, for the claim. -/
theorem cutScaled_holds : Rows.CutScaledSaid := cutScaled.proved
end Go.Proofs.Ytdkbmchbkkhpoaa
