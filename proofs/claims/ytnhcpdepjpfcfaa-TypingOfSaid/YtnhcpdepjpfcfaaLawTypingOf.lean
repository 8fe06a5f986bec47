/- The row of TypingOf, by cprint.py, a program of this work. Lean checks it. -/
import Derived.Test.YtnhcpdepjpfcfaaRows
import Derived.Test.YtnhcpdepjpfcfaaPTyox11
import Derived.Test.YtnhcpdepjpfcfaaPureTypingOf
import Derived.Test.YtnhcpdepjpfcfaaCOpens
import Derived.WalkKit
import Derived.ProofKit
import Derived.OpenShut
import Derived.ShutString
import Derived.ChangeOld
import Derived.Below
import Derived.SizedLaws
import Derived.Lib.SmallJoins
import Derived.Test.YtnhcpdepjpfcfaaWSized
namespace Go.Proofs.Ytnhcpdepjpfcfaa.typingOf
open Go.ChangeShapes Go.WideShapes Go.ChangeAt Go.RowKit
open Go.ChangeMaps (open_string shut_string)
open Go.Proofs.Ytnhcpdepjpfcfaa.PTyo Go.Proofs.YtnhcpdepjpfcfaaW.PrintWords
set_option linter.unusedVariables false
theorem own : ownKnob Try.prog.godebug = none := by kernel_rfl
theorem laidOut : laidOutB Try.prog = true := by kernel_rfl
set_option maxRecDepth 100000 in
theorem lifted (os : Os) (started : os.Started) (H : Type) (enc : TypeId × Value → H) :
    ReturnsInHanded {} Try.checked os 7 .any (Rows.typingOfSpec.pre6 enc Try.prog Try.f7 Rows.typingOfRow.domain false) (Rows.typingOfSpec.post enc Try.prog Try.f7 false true false false) := by
  refine returnsInHanded_of_change_sized (C := Try.checked) own started (by kernel_rfl) Try.func7
    (ChangeSpec.witness6 (enc := enc) (C := Try.checked) false ⟨#[], #[.agg #[.slice none 0 0, .slice none 0 0], .agg #[.int .i64 0, .int .i64 0, .int .i64 0, .int .i64 0, .int .i64 0, .string ByteArray.empty, .slice none 0 0]], []⟩ 8 (by kernel_rfl) (by kernel_rfl) (by kernel_rfl) (by kernel_rfl)) ?_
  intro W base args ds gs before hval0 hW hcnd hsz0 _
  have hsz : (DataW.weightsEach Try.prog (Try.f7.params.toList ++ Rows.typingOfSpec.plain.varTypes Try.prog) (ds ++ gs)).all (· ≤ reachBytes) = true := hsz0
  have hval : ∀ (j : Nat) t v, Try.f7.params[j]? = some t → args[j]? = some v → Value.okWide Try.prog W .any base t v := hval0
  have hW' := hW
  obtain ⟨p, q, hA0, hV, rfl, hfz, hnd⟩ := hW
  have hA : DataW.TrodAll enc Try.prog W 0 (fun _ => true) true Try.f7.params.toList args.toList ds p := hA0
  rw [Try.params7] at hA hval hsz
  obtain ⟨v0, vs0, d0, ds0, p0, q0, hargs, rfl, rfl, h0, r0⟩ := trodAll_cons hA
  obtain ⟨v1, vs1, d1, ds1, p1, q1, rfl, rfl, rfl, h1, r1⟩ := trodAll_cons r0
  obtain ⟨rfl, rfl, rfl⟩ := trodAll_nil r1
  obtain rfl : args = #[v0, v1] := by cases args; simp_all
  obtain ⟨rfl, rfl⟩ := trodVars_none hV
  have k0 := h0
  have lt0 : ∀ x ∈ p0, x.block < W.heap.size := by obtain ⟨m, hm⟩ := k0; exact DataW.trod_lt m _ _ _ hm
  obtain ⟨y0, K0, O0⟩ := opens_arg (fun M => (opens48 M)) hsz (j := 0) (t := 48) rfl rfl h0
  obtain ⟨cs0, rfl, hcs0⟩ := okWide_struct Try.underlying48 (hval 0 48 v0 rfl rfl)
  obtain ⟨A0_0, c0_0, A0_1, c0_1, he0, L0_0, G0_0, L0_1, G0_1⟩ := k48_open K0
  obtain rfl : cs0 = #[.slice A0_0 (y0.f0).length c0_0, .slice A0_1 (y0.f1).length c0_1] := by cases cs0; simpa [Value.cells] using he0
  have k1 := h1
  have lt1 : ∀ x ∈ p1, x.block < W.heap.size := by obtain ⟨m, hm⟩ := k1; exact DataW.trod_lt m _ _ _ hm
  obtain ⟨y1, K1, O1⟩ := opens_arg (fun M => (opens51 M)) hsz (j := 1) (t := 51) rfl rfl h1
  obtain ⟨cs1, rfl, hcs1⟩ := okWide_struct Try.underlying51 (hval 1 51 v1 rfl rfl)
  obtain ⟨A1_6, c1_6, he1, L1_6, G1_6⟩ := k51_open K1
  obtain rfl : cs1 = #[.int .i64 y1.f0, .int .i64 y1.f1, .int .i64 y1.f2, .int .i64 y1.f3, .int .i64 y1.f4, .string y1.f5, .slice A1_6 (y1.f6).length c1_6] := by cases cs1; simpa [Value.cells] using he1
  obtain ⟨_, o1_0, o1_1, o1_2, o1_3, o1_4, o1_5, o1_6a, o1_6b, o1_6c⟩ := O1
  clear hA0 hval0 hsz0 hsz
  obtain ⟨k, h⟩ := Pure.TypingOf (y0.f0) (y0.f1) (y1.f0) (y1.f1) (y1.f2) (y1.f3) (y1.f4) (y1.f5) (y1.f6) O0.1.1 O0.1.2.1 O0.1.2.2 O0.2.1 O0.2.2.1 O0.2.2.2 o1_0 o1_1 o1_2 o1_3 o1_4 o1_5 o1_6a o1_6b o1_6c
  refine (blazonlaw19_TypingOf.calls k _ _ (y0.f0) _ _ (y0.f1) (y1.f0) (y1.f1) (y1.f2) (y1.f3) (y1.f4) (y1.f5) _ _ (y1.f6) true (fun _ => 0) W (fun _ => (by decide : (0 : Nat) < 10)) (Ft.of_C k134_heap G0_0) L0_0 (Ft.of_C k102_heap G0_1) L0_1 (Ft.of_C k51_heap G1_6) L1_6 h).mono ?_
  rintro e W' ⟨c', rfl, hs⟩
  have bel := hs.below (fun _ => by simp)
  exact ⟨_, rfl, _, _, _, [], _, [], hW', trodAll_mk1 (shut_bool Try.underlying4 _), (trodAll_cons_mk (Below.trod laidOut (by kernel_rfl) (of_decide_eq_true (by kernel_rfl)) k0 bel lt0) (trodAll_cons_mk (Below.trod laidOut (by kernel_rfl) (of_decide_eq_true (by kernel_rfl)) k1 bel lt1) trodAll_mk0)), rfl, bel.frame _, fun h => by cases h⟩
theorem over : Rows.typingOfRow.holds Try.pinned (OpenSpec.ofChange Rows.typingOfSpec) :=
  OpenClaim.holds_of_wide 7 Try.f7 rfl rfl rfl rfl rfl rfl rfl ⟨rfl, rfl, rfl, rfl, rfl⟩ rfl rfl rfl rfl rfl (by kernel_rfl) Try.func7 (by kernel_rfl)
    (of_decide_eq_true (by kernel_rfl)) (by unfold Func.isWrapper; first | (rw [if_pos (by decide +kernel)]; kernel_rfl) | (rw [if_neg (by decide +kernel)]; exact ⟨rfl, rfl⟩))
    (fun os started H enc _ => lifted os started H enc)
theorem proved : Rows.TypingOfSaid := over
#print axioms proved
end Go.Proofs.Ytnhcpdepjpfcfaa.typingOf
namespace Go.Proofs.Ytnhcpdepjpfcfaa
/-- The row, under a short name, for the claim. -/
theorem typingOf_holds : Rows.TypingOfSaid := typingOf.proved
end Go.Proofs.Ytnhcpdepjpfcfaa
