/- An order that is none has nothing. -/
import Derived.Test.YtpfepkkpbampkaaPOrdx1
import Derived.Test.YtpfepkkpbampkaaPOrdx10
import Derived.Test.YtpfepkkpbampkaaPOrdx4
import Derived.Test.YtpfepkkpbampkaaPOrdx5
import Derived.Test.YtpfepkkpbampkaaPOrdx8
import Derived.OpenShut
import Derived.Laws.BitsLemmas
import Derived.Laws.BitsAllLaws
import Derived.Lib.Bytes
import Derived.Test.YtpfepkkpbampkaaWSized
set_option linter.unusedVariables false
set_option linter.unusedSimpArgs false
namespace Go.Proofs.Ytpfepkkpbampkaa.Pure
open Go.RowKit Go.Proofs.Ytpfepkkpbampkaa.POrd Go.Proofs.YtpfepkkpbampkaaW.PrintWords Go.Proofs.YtpfepkkpbampkaaW.PrintLast

theorem awake_tells (k : Nat) : blazonlaw13_awake.f (k + 100) = some true := by kernel_rfl
theorem OrderNil : blazonlaw13_OrderNil.Pure := by
  intro a0 a1 h0 h1
  refine ⟨100, ?_⟩
  have l0 : order_Order_Len.f none = some 0 := rfl
  have i0 : ∀ a, order_Order_in.f none a = some false := by
    intro a
    unfold order_Order_in.f
    split
    · rw [l0, Option.bind_some, decide_eq_false (by omega)]
    · rfl
  have s0 : order_Order_Sorted.f 100 none = some [] := by kernel_rfl
  unfold blazonlaw13_OrderNil.f order_Order_Name.f order_Order_Most.f order_Order_Below.f order_Order_Above.f
  simp only [i0, l0, s0, Option.bind_some]
  have f0 : order_Order_Find.f none (⟨#[97]⟩ : ByteArray) = some (0, false) := rfl
  rw [f0, awake_tells 0]
  rfl

end Go.Proofs.Ytpfepkkpbampkaa.Pure
