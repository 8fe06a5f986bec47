import Derived.Test.YtdkbmchbkkhpoaaCOpens
set_option linter.unusedVariables false
set_option linter.unusedSimpArgs false
namespace Go.Proofs.YtdkbmchbkkhpoaaW.PrintWords
open Go.RowKit Go.Proofs.YtdkbmchbkkhpoaaW.PrintLast Go.Proofs.YtdkbmchbkkhpoaaW.PrintMore
theorem tN {β : Type} {P : Program} {M : Nat} {t e : TypeId} {k : IntKind} {f : β → Int × Int} (g : Int × Int → β) (hg : ∀ p, f (g p) = p) {Ok2 : β → Prop} (hOk : ∀ p, (Lit.int k p.1).wf = true ∧ (Lit.int k p.2).wf = true → Ok2 (g p)) (ht : P.underlying t = some (.array 2 e)) (he : P.underlying e = some (.int k)) (hc : P.cellsOf e = 1) (hct : P.cellsOf t = 2) : kY P (M + 1) t (Kd.iso (Kd.pair (Kd.int k) (Kd.int k)) f) Ok2 := by
  refine ⟨?_⟩
  intro H enc w base spare held m cs x hm htr hw
  obtain ⟨xs, n, rfl, rfl, hcs, hlen, hx⟩ := DataW.trod_array ht htr
  rw [hct] at hcs
  match cs, hcs with
  | [a, b], _ =>
    match xs, hlen with
    | [x0, x1], _ =>
      have h0 := hx 0 (by decide)
      have h1 := hx 1 (by decide)
      rw [hc] at h0 h1
      obtain ⟨y0, e0, _, w0⟩ := DataW.trod_int he h0
      obtain ⟨y1, e1, _, w1⟩ := DataW.trod_int he h1
      simp at e0 e1
      subst e0; subst e1
      refine ⟨g (y0, y1), ?_, hOk (y0, y1) ⟨w0, w1⟩⟩
      show (Kd.pair (Kd.int k) (Kd.int k)).K w (f (g (y0, y1))) _
      rw [hg]
      exact ⟨[.int k y0], [.int k y1], rfl, rfl, rfl⟩
end Go.Proofs.YtdkbmchbkkhpoaaW.PrintWords
