import Derived.Test.YtdkbmchbkkhpoaaCRows
set_option linter.unusedVariables false
set_option linter.unusedSimpArgs false
namespace Go.Proofs.YtdkbmchbkkhpoaaW.PrintWords
open Go.RowKit Go.Proofs.YtdkbmchbkkhpoaaW.PrintLast Go.Proofs.YtdkbmchbkkhpoaaW.PrintMore
theorem nC {P : Program} {W : World} {t e : TypeId} {n : Nat} (ht : P.underlying t = some (.array n e)) {sz : Nat} (hi : (P.info? e).map (·.size) = some sz) {k : IntKind} {a : Addr} {j : Int} (h0 : 0 ≤ j) (h1 : j < (n : Int)) {m : Nat} (hm : j.toNat * sz = m) :
    (Instr.indexAt t (.pointer (some a)) (.int k j)).run P W = .ok (.pointer (some (a.add m))) W := by
  subst hm
  obtain ⟨i, hi0, hsz⟩ := Option.map_eq_some_iff.mp hi
  simp [Instr.indexAt, asIntOf, run_underlying ht, Instr.sureAddr, h0, h1, sizeOf, typeInfo, hi0, hsz, Result.andThen]
def RRz (C : Nat → Nat) (z : Nat) (W : World) (κ : IntKind) (e1 e2 : Nat) (v : Value) (rows : List (List Int)) : Prop := (rows ≠ [] → RR C z W κ e1 e2 v rows) ∧ ∃ A c, v = .slice A rows.length c ∧ rows.length ≤ c
namespace RRz
variable {C c' : Nat → Nat} {z e1 e2 : Nat} {W w' : World} {κ : IntKind} {v : Value} {rows : List (List Int)} {T : List Nat}
theorem of {A : Option Addr} {c : Nat} (h : RR C z W κ e1 e2 (.slice A rows.length c) rows) : RRz C z W κ e1 e2 (.slice A rows.length c) rows := ⟨fun _ => h, A, c, rfl, h.at_.2⟩
theorem vU {C : Nat → Nat} {z e1 : Nat} {W : World} (κ : IntKind) (e2 : Nat) {A : Option Addr} {c m : Nat} (h : Own C z W (Kd.raw 1) e1 (.slice A (List.replicate m ([.slice none 0 0] : List Value)).length c) (List.replicate m [.slice none 0 0])) (hm' : m ≤ 9223372036854775807) (hc : (List.replicate m ([.slice none 0 0] : List Value)).length ≤ c) : RRz C z W κ e1 e2 (.slice A (List.replicate m ([.slice none 0 0] : List Value)).length c) (List.replicate m ([] : List Int)) :=
  ⟨fun hne => RR.vU κ e2 h (by cases m with
    | zero => exact absurd rfl hne
    | succ m => omega) hm', A, c, by rw [List.length_replicate, List.length_replicate], by rw [List.length_replicate] at hc ⊢; exact hc⟩
theorem move {j : Nat} (h : RRz C z W κ e1 e2 v rows) (hs : W.heap.size ≤ w'.heap.size) (hc : ∀ k, k < W.heap.size → C k = z → c' k = j) (hm : ∀ k, k < W.heap.size → C k = z → w'.heap[k]? = W.heap[k]?) : RRz c' j w' κ e1 e2 v rows := ⟨fun hne => (h.1 hne).move hs hc hm, h.2⟩
theorem below (h : RRz C z W κ e1 e2 v rows) (hb : Below W.heap.size W w') : RRz C z w' κ e1 e2 v rows := h.move hb.size (fun _ _ h => h) (fun k hk _ => hb.block k hk)
theorem alloc (h : RRz C z W κ e1 e2 v rows) (o : Obj) : RRz C z (W.alloc o) κ e1 e2 v rows := h.below (below_alloc (Below.refl _ _) o)
theorem drew (h : RRz C z W κ e1 e2 v rows) : RRz C z W.drew κ e1 e2 v rows := h.below (below_drew (Below.refl _ _))
theorem drewN (h : RRz C z W κ e1 e2 v rows) (m : Nat) : RRz C z (W.drewN m) κ e1 e2 v rows := h.below (lD (Below.refl _ _) m)
theorem iE (h : RRz C z W κ e1 e2 v rows) (s : Step C W c' w' T) (hZ : (!T.contains z) = true) : RRz c' z w' κ e1 e2 v rows := ⟨fun hne => (h.1 hne).iE s hZ, h.2⟩
theorem recol (h : RRz C z W κ e1 e2 v rows) {a b : Nat} (ha : z ≠ a) (h0 : 0 ≠ a) : RRz (PrintWords.recol C a b) z W κ e1 e2 v rows := ⟨fun hne => (h.1 hne).recol ha h0, h.2⟩
theorem recolor (h : RRz C z W κ e1 e2 v rows) {b : Nat} (h0 : 0 ≠ z) : RRz (PrintWords.recol C z b) b W κ e1 e2 v rows := ⟨fun hne => (h.1 hne).recolor h0, h.2⟩
theorem arg {L : List (Nat × Nat)} {j : Nat} (h : RRz C z W κ e1 e2 v rows) (hj : pal L z = j) (h0 : pal L 0 = 0) : RRz (fun k => pal L (C k)) j W κ e1 e2 v rows := ⟨fun hne => (h.1 hne).arg hj h0, h.2⟩
theorem at_ {A : Option Addr} {n c : Nat} (h : RRz C z W κ e1 e2 (.slice A n c) rows) : n = rows.length ∧ n ≤ c := by
  obtain ⟨_, A', c', he, hl⟩ := h
  injection he with _ h1 h2
  subst h1; subst h2
  exact ⟨rfl, hl⟩
theorem ft {A : Option Addr} {c : Nat} (h : RRz C z W κ e1 e2 (.slice A rows.length c) rows) : Ft C [z, 0] W (fun w => (Kd.slice e2 (Kd.int κ)).C w A rows.length rows) := by
  by_cases hne : rows = []
  · subst hne
    exact fun W' _ => ⟨rfl, by simp, fun h => absurd h (by simp)⟩
  · exact (h.1 hne).ft
theorem open_ {A : Option Addr} {n c : Nat} (h : RRz C z W κ e1 e2 (.slice A n c) rows) (hp : 0 < (rows.length : Int)) : ∃ g vs, A = some ⟨g, 0, none⟩ ∧ Bx C z W g e1 vs ∧ rows.length ≤ vs.length ∧ sQ C z W κ e2 g vs rows ∧ rows.length ≤ 9223372036854775807 := (h.1 (by rintro rfl; simp at hp)).open_
theorem form {A : Option Addr} {n c : Nat} (h : RRz C z W κ e1 e2 (.slice A n c) rows) (hp : 0 < n) : ∃ g, A = some ⟨g, 0, none⟩ := by
  have e1 := h.at_.1
  obtain ⟨g, vs, e, _⟩ := h.open_ (by omega)
  exact ⟨g, e⟩
end RRz
end Go.Proofs.YtdkbmchbkkhpoaaW.PrintWords
