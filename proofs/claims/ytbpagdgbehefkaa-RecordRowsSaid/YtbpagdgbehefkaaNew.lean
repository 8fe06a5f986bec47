/- crc.New. -/
import Derived.Test.YtbpagdgbehefkaaSummer
import Derived.RowKit3
import Derived.Laws.NewBlocks
set_option linter.unusedVariables false
set_option linter.unusedSimpArgs false
namespace Go.Proofs.Ytbpagdgbehefkaa.Crc
open Go.RowKit Go.Proofs.YtbpagdgbehefkaaW.PrintWords
def isU32 : Option Value → Bool
  | some (.int .u32 _) => true
  | _ => false
theorem zeros_u32 : ((List.range 256).all fun j => isU32 Try.zeroCells97[3 + j]?) = true := by kernel_rfl
set_option maxRecDepth 100000 in
set_option maxHeartbeats 1600000 in
theorem new_calls (w : World) : Calls Try.prog 34 #[] w fun e w' => e = .returned (.pointer (some ⟨w.heap.size, 0, none⟩)) ∧ IsSum w' w.heap.size 0 ∧ Below w.heap.size w w' ∧ w'.heap.size = w.heap.size + 1 ∧ ∃ cs, w'.heap[w.heap.size]? = some (.cells cs 97 (0, 0)) := by
  go_enter Try.func34, Try.ntmps34
  go_wp2
  go_ret
  have hcell : ∀ j, (w.alloc (Obj.cells Try.zeroCells97 97)).cell? ⟨w.heap.size, j, none⟩ = Try.zeroCells97[j]? := fun j => World.cell?_alloc_at _ _ _ _ rfl
  refine ⟨rfl, ⟨by simp, fun j => (frozen?_alloc_cells w _ _ _).trans (by simp [World.frozen?]), ?_, ?_, .inl ⟨?_, fun j hj => ?_⟩⟩, (Below.refl _ w).alloc (Nat.le_refl _) _, by simp, _, heap_alloc_new w _⟩
  · rw [hcell]; kernel_rfl
  · rw [hcell]; kernel_rfl
  · rw [hcell]; kernel_rfl
  · rw [hcell]
    have := List.all_eq_true.1 zeros_u32 j (List.mem_range.2 hj)
    revert this
    cases Try.zeroCells97[3 + j]? with
    | none => intro h; cases h
    | some v =>
      intro h
      cases v with
      | int k x => cases k <;> first | exact ⟨x, rfl⟩ | cases h
      | _ => cases h
end Go.Proofs.Ytbpagdgbehefkaa.Crc
