/- The row of RecordApart, by cprint.py, a program of this work. Lean checks it. -/
import Derived.Test.YtbpagdgbehefkaaRows
import Derived.Test.YtbpagdgbehefkaaPRecx5
import Derived.Test.YtbpagdgbehefkaaPureRecordApart
import Derived.Test.YtbpagdgbehefkaaCOpens
import Derived.WalkKit
import Derived.ProofKit
import Derived.OpenShut
import Derived.ShutString
import Derived.ChangeOld
import Derived.Below
import Derived.SizedLaws
import Derived.Lib.SmallJoins
import Derived.Test.YtbpagdgbehefkaaWSized
namespace Go.Proofs.Ytbpagdgbehefkaa.recordApart
open Go.ChangeShapes Go.WideShapes Go.ChangeAt Go.RowKit
open Go.ChangeMaps (open_string shut_string)
open Go.Proofs.Ytbpagdgbehefkaa.PRec Go.Proofs.YtbpagdgbehefkaaW.PrintWords
set_option linter.unusedVariables false
theorem own : ownKnob Try.prog.godebug = none := by kernel_rfl
theorem laidOut : laidOutB Try.prog = true := by kernel_rfl
set_option maxRecDepth 100000 in
theorem lifted (os : Os) (started : os.Started) (H : Type) (enc : TypeId × Value → H) :
    ReturnsInHanded {} Try.checked os 15 .any (Rows.recordApartSpec.pre6 enc Try.prog Try.f15 Rows.recordApartRow.domain false) (Rows.recordApartSpec.post enc Try.prog Try.f15 false true false false) := by
  refine returnsInHanded_of_change_sized (C := Try.checked) own started (by kernel_rfl) Try.func15
    (ChangeSpec.witness6 (enc := enc) (C := Try.checked) false ⟨#[], #[.agg #[.int .u8 0, .slice none 0 0], .agg #[.int .u8 0, .slice none 0 0], .slice none 0 0], []⟩ 8 (by kernel_rfl) (by kernel_rfl) (by kernel_rfl) (by kernel_rfl)) ?_
  intro W base args ds gs before hval0 hW hcnd hsz0 _
  have hsz : (DataW.weightsEach Try.prog (Try.f15.params.toList ++ Rows.recordApartSpec.plain.varTypes Try.prog) (ds ++ gs)).all (· ≤ reachBytes) = true := hsz0
  have hval : ∀ (j : Nat) t v, Try.f15.params[j]? = some t → args[j]? = some v → Value.okWide Try.prog W .any base t v := hval0
  have hW' := hW
  obtain ⟨p, q, hA0, hV, rfl, hfz, hnd⟩ := hW
  have hA : DataW.TrodAll enc Try.prog W 0 (fun _ => true) true Try.f15.params.toList args.toList ds p := hA0
  rw [Try.params15] at hA hval hsz
  obtain ⟨v0, vs0, d0, ds0, p0, q0, hargs, rfl, rfl, h0, r0⟩ := trodAll_cons hA
  obtain ⟨v1, vs1, d1, ds1, p1, q1, rfl, rfl, rfl, h1, r1⟩ := trodAll_cons r0
  obtain ⟨v2, vs2, d2, ds2, p2, q2, rfl, rfl, rfl, h2, r2⟩ := trodAll_cons r1
  obtain ⟨rfl, rfl, rfl⟩ := trodAll_nil r2
  obtain rfl : args = #[v0, v1, v2] := by cases args; simp_all
  obtain ⟨rfl, rfl⟩ := trodVars_none hV
  have k0 := h0
  have lt0 : ∀ x ∈ p0, x.block < W.heap.size := by obtain ⟨m, hm⟩ := k0; exact DataW.trod_lt m _ _ _ hm
  obtain ⟨y0, K0, O0⟩ := opens_arg (fun M => (opens74 M)) hsz (j := 0) (t := 74) rfl rfl h0
  obtain ⟨cs0, rfl, hcs0⟩ := okWide_struct Try.underlying74 (hval 0 74 v0 rfl rfl)
  obtain ⟨A0_1, c0_1, he0, L0_1, G0_1⟩ := k74_open K0
  obtain rfl : cs0 = #[.int .u8 y0.f0, .slice A0_1 (y0.f1).length c0_1] := by cases cs0; simpa [Value.cells] using he0
  have k1 := h1
  have lt1 : ∀ x ∈ p1, x.block < W.heap.size := by obtain ⟨m, hm⟩ := k1; exact DataW.trod_lt m _ _ _ hm
  obtain ⟨y1, K1, O1⟩ := opens_arg (fun M => (opens74 M)) hsz (j := 1) (t := 74) rfl rfl h1
  obtain ⟨cs1, rfl, hcs1⟩ := okWide_struct Try.underlying74 (hval 1 74 v1 rfl rfl)
  obtain ⟨A1_1, c1_1, he1, L1_1, G1_1⟩ := k74_open K1
  obtain rfl : cs1 = #[.int .u8 y1.f0, .slice A1_1 (y1.f1).length c1_1] := by cases cs1; simpa [Value.cells] using he1
  have k2 := h2
  have lt2 : ∀ x ∈ p2, x.block < W.heap.size := by obtain ⟨m, hm⟩ := k2; exact DataW.trod_lt m _ _ _ hm
  obtain ⟨y2, K2, O2⟩ := opens_arg (fun M => (opens_slice (B := 1) (opens_int Try.underlying5) Try.underlying23 (by kernel_rfl) (by kernel_rfl))) hsz (j := 2) (t := 23) rfl rfl h2
  obtain ⟨a2, len2, cap2, rfl⟩ := okWide_slice Try.underlying23 (hval 2 23 v2 rfl rfl)
  obtain ⟨_, _, he2, hl2, hC2⟩ := K2
  simp only [Value.cells, List.cons.injEq, Value.slice.injEq, and_true] at he2
  obtain ⟨rfl, rfl, rfl⟩ := he2
  clear hA0 hval0 hsz0 hsz
  obtain ⟨k, h⟩ := Pure.RecordApart (y0.f0) (y0.f1) (y1.f0) (y1.f1) y2 O0.1 O0.2.1 O0.2.2.1 O0.2.2.2 O1.1 O1.2.1 O1.2.2.1 O1.2.2.2 O2.1 O2.2.1 O2.2.2
  refine (blazonlaw04_RecordApart.calls k (y0.f0) _ _ (y0.f1) (y1.f0) _ _ (y1.f1) _ _ y2 true (fun _ => 0) W (fun _ => (by decide : (0 : Nat) < 10)) (Ft.of_C (Kd.heap_int .u8) G0_1) L0_1 (Ft.of_C (Kd.heap_int .u8) G1_1) L1_1 (Ft.of_C (Kd.heap_int .u8) hC2) hl2 h).mono ?_
  rintro e W' ⟨c', rfl, hs⟩
  have bel := hs.below (fun _ => by simp)
  exact ⟨_, rfl, _, _, _, [], _, [], hW', trodAll_mk1 (shut_bool Try.underlying4 _), (trodAll_cons_mk (Below.trod laidOut (by kernel_rfl) (of_decide_eq_true (by kernel_rfl)) k0 bel lt0) (trodAll_cons_mk (Below.trod laidOut (by kernel_rfl) (of_decide_eq_true (by kernel_rfl)) k1 bel lt1) (trodAll_cons_mk (Below.trod laidOut (by kernel_rfl) (of_decide_eq_true (by kernel_rfl)) k2 bel lt2) trodAll_mk0))), rfl, bel.frame _, fun h => by cases h⟩
theorem over : Rows.recordApartRow.holds Try.pinned (OpenSpec.ofChange Rows.recordApartSpec) :=
  OpenClaim.holds_of_wide 15 Try.f15 rfl rfl rfl rfl rfl rfl rfl ⟨rfl, rfl, rfl, rfl, rfl⟩ rfl rfl rfl rfl rfl (by kernel_rfl) Try.func15 (by kernel_rfl)
    (of_decide_eq_true (by kernel_rfl)) (by unfold Func.isWrapper; first | (rw [if_pos (by decide +kernel)]; kernel_rfl) | (rw [if_neg (by decide +kernel)]; exact ⟨rfl, rfl⟩))
    (fun os started H enc _ => lifted os started H enc)
theorem proved : Rows.RecordApartSaid := over
#print axioms proved
end Go.Proofs.Ytbpagdgbehefkaa.recordApart
namespace Go.Proofs.Ytbpagdgbehefkaa
/-- The row, under a short name, for the claim. -/
theorem recordApart_holds : Rows.RecordApartSaid := recordApart.proved
end Go.Proofs.Ytbpagdgbehefkaa
