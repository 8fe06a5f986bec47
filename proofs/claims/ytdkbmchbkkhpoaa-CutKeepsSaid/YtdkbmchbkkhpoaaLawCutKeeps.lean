/- The row of CutKeeps, by cprint.py, a program of this work. Lean checks it. -/
import Derived.Test.YtdkbmchbkkhpoaaRows
import Derived.Test.YtdkbmchbkkhpoaaPCkex6
import Derived.Test.YtdkbmchbkkhpoaaPureCutKeeps
import Derived.Test.YtdkbmchbkkhpoaaCOpens
import Derived.WalkKit
import Derived.ProofKit
import Derived.OpenShut
import Derived.ShutString
import Derived.ChangeOld
import Derived.Below
import Derived.SizedLaws
import Derived.Lib.SmallJoins
import Derived.Test.YtdkbmchbkkhpoaaWSized
set_option maxRecDepth 100000
namespace Go.Proofs.Ytdkbmchbkkhpoaa.cutKeeps
open Go.ChangeShapes Go.WideShapes Go.ChangeAt Go.RowKit
open Go.ChangeMaps (open_string shut_string)
open Go.Proofs.Ytdkbmchbkkhpoaa.PCke Go.Proofs.YtdkbmchbkkhpoaaW.PrintWords
set_option linter.unusedVariables false
theorem own : ownKnob Try.prog.godebug = none := by kernel_rfl
theorem laidOut : laidOutB Try.prog = true := by kernel_rfl
theorem lifted (os : Os) (started : os.Started) (H : Type) (enc : TypeId × Value → H) :
    ReturnsInHanded {} Try.checked os 10 .any (Rows.cutKeepsSpec.pre6 enc Try.prog Try.f10 Rows.cutKeepsRow.domain false) (Rows.cutKeepsSpec.post enc Try.prog Try.f10 false true false false) := by
  refine returnsInHanded_of_change_sized (C := Try.checked) own started (by kernel_rfl) Try.func10
    (ChangeSpec.witness6 (enc := enc) (C := Try.checked) false ⟨#[], #[.agg #[.slice none 0 0, .slice none 0 0, .slice none 0 0, .slice none 0 0], .slice none 0 0], []⟩ 8 (by kernel_rfl) (by kernel_rfl) (by kernel_rfl) (by kernel_rfl)) ?_
  intro W base args ds gs before hval0 hW hcnd hsz0 _
  have hsz : (DataW.weightsEach Try.prog (Try.f10.params.toList ++ Rows.cutKeepsSpec.plain.varTypes Try.prog) (ds ++ gs)).all (· ≤ reachBytes) = true := hsz0
  have hval : ∀ (j : Nat) t v, Try.f10.params[j]? = some t → args[j]? = some v → Value.okWide Try.prog W .any base t v := hval0
  have hW' := hW
  obtain ⟨p, q, hA0, hV, rfl, hfz, hnd⟩ := hW
  have hA : DataW.TrodAll enc Try.prog W 0 (fun _ => true) true Try.f10.params.toList args.toList ds p := hA0
  rw [Try.params10] at hA hval hsz
  obtain ⟨v0, vs0, d0, ds0, p0, q0, hargs, rfl, rfl, h0, r0⟩ := trodAll_cons hA
  obtain ⟨v1, vs1, d1, ds1, p1, q1, rfl, rfl, rfl, h1, r1⟩ := trodAll_cons r0
  obtain ⟨rfl, rfl, rfl⟩ := trodAll_nil r1
  obtain rfl : args = #[v0, v1] := by cases args; simp_all
  obtain ⟨rfl, rfl⟩ := trodVars_none hV
  have k0 := h0
  have lt0 : ∀ x ∈ p0, x.block < W.heap.size := by obtain ⟨m, hm⟩ := k0; exact DataW.trod_lt m _ _ _ hm
  obtain ⟨y0, K0, O0⟩ := rV (fun M => (wG M)) hsz (j := 0) (t := 50) rfl rfl h0
  obtain ⟨cs0, rfl, hcs0⟩ := okWide_struct Try.underlying50 (hval 0 50 v0 rfl rfl)
  obtain ⟨A0_0, c0_0, A0_1, c0_1, A0_2, c0_2, A0_3, c0_3, he0, L0_0, G0_0, L0_1, G0_1, L0_2, G0_2, L0_3, G0_3⟩ := lN K0
  obtain rfl : cs0 = #[.slice A0_0 (y0.f0).length c0_0, .slice A0_1 (y0.f1).length c0_1, .slice A0_2 (y0.f2).length c0_2, .slice A0_3 (y0.f3).length c0_3] := by cases cs0; simpa [Value.cells] using he0
  have k1 := h1
  have lt1 : ∀ x ∈ p1, x.block < W.heap.size := by obtain ⟨m, hm⟩ := k1; exact DataW.trod_lt m _ _ _ hm
  obtain ⟨y1, K1, O1⟩ := rV (fun M => (lS (B := 1) (yt Try.underlying4) Try.underlying43 (by kernel_rfl) (by kernel_rfl))) hsz (j := 1) (t := 43) rfl rfl h1
  obtain ⟨a1, len1, cap1, rfl⟩ := okWide_slice Try.underlying43 (hval 1 43 v1 rfl rfl)
  obtain ⟨_, _, he1, hl1, hC1⟩ := K1
  simp only [Value.cells, List.cons.injEq, Value.slice.injEq, and_true] at he1
  obtain ⟨rfl, rfl, rfl⟩ := he1
  clear hA0 hval0 hsz0 hsz
  obtain ⟨k, h⟩ := Pure.CutKeeps (y0.f0) (y0.f1) (y0.f2) (y0.f3) y1 O0.1.1 O0.1.2.1 O0.1.2.2 O0.2.1.1 O0.2.1.2.1 O0.2.1.2.2 O0.2.2.1.1 O0.2.2.1.2.1 O0.2.2.1.2.2 O0.2.2.2.1 O0.2.2.2.2.1 O0.2.2.2.2.2 O1.1 O1.2.1 O1.2.2
  refine (iy.calls k _ _ (y0.f0) _ _ (y0.f1) _ _ (y0.f2) _ _ (y0.f3) _ _ y1 true (fun _ => 0) W (fun _ => (by decide : (0 : Nat) < 10)) (Ft.of_C (Kd.kE .i64) G0_0) L0_0 (Ft.of_C (Kd.kE .i64) G0_1) L0_1 (Ft.of_C (Kd.kE .i64) G0_2) L0_2 (Ft.of_C pR G0_3) L0_3 (Ft.of_C Kd.vN hC1) hl1 h).mono ?_
  rintro e W' ⟨c', rfl, hs⟩
  have bel := hs.below (fun _ => by simp)
  exact ⟨_, rfl, _, _, _, [], _, [], hW', trodAll_mk1 (shut_bool Try.underlying4 _), (trodAll_cons_mk (Below.trod laidOut (by kernel_rfl) (of_decide_eq_true (by kernel_rfl)) k0 bel lt0) (trodAll_cons_mk (Below.trod laidOut (by kernel_rfl) (of_decide_eq_true (by kernel_rfl)) k1 bel lt1) trodAll_mk0)), rfl, bel.frame _, fun h => by cases h⟩
theorem over : Rows.cutKeepsRow.holds Try.pinned (OpenSpec.ofChange Rows.cutKeepsSpec) :=
  OpenClaim.holds_of_wide 10 Try.f10 rfl rfl rfl rfl rfl rfl rfl ⟨rfl, rfl, rfl, rfl, rfl⟩ rfl rfl rfl rfl rfl (by kernel_rfl) Try.func10 (by kernel_rfl)
    (of_decide_eq_true (by kernel_rfl)) (by unfold Func.isWrapper; first | (rw [if_pos (by decide +kernel)]; kernel_rfl) | (rw [if_neg (by decide +kernel)]; exact ⟨rfl, rfl⟩))
    (fun os started H enc _ => lifted os started H enc)
theorem proved : Rows.CutKeepsSaid := over
#print axioms proved
end Go.Proofs.Ytdkbmchbkkhpoaa.cutKeeps
namespace Go.Proofs.Ytdkbmchbkkhpoaa
theorem cutKeeps_holds : Rows.CutKeepsSaid := cutKeeps.proved
end Go.Proofs.Ytdkbmchbkkhpoaa
