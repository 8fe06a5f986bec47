/- (*sync.Once).doSlow and Do at a Summer: the first time, and later. -/
import Derived.Test.YtbpagdgbehefkaaFill
import Derived.Test.YtbpagdgbehefkaaWWords
set_option linter.unusedVariables false
set_option linter.unusedSimpArgs false
namespace Go.Proofs.Ytbpagdgbehefkaa.Crc
open Go.RowKit Go.Proofs.YtbpagdgbehefkaaW.PrintWords
/-- The world behind the first call. -/
def doneW (w : World) (b : Nat) : World := (((fillW (w.setCell ⟨b, 1, none⟩ (.int .i32 1)) b 256).drew.setCell ⟨b, 0, none⟩ (.int .u32 1)).setCell ⟨b, 1, none⟩ (.int .i32 0))
theorem fillW_low (w : World) (b k j : Nat) (h : j < 3) : (fillW w b k).cell? ⟨b, j, none⟩ = w.cell? ⟨b, j, none⟩ := by
  induction k with
  | zero => rfl
  | succ k ih =>
    simp only [fillW]
    rw [World.cell?_setCell_other _ _ _ _ (by intro h2; have := congrArg Addr.off h2; simp at this; omega)]
    exact ih
set_option maxRecDepth 100000 in
theorem load_any (a : Addr) (d : Int) (w : World) (h0 : w.cell? a = some (.int .u32 d)) : Calls Try.prog 55 #[.pointer (some a)] w fun e w' => e = .returned (.bool (d != 0)) ∧ w' = w := by
  have hl := run_call_load (P := Try.prog) Try.func58 (by kernel_rfl) (by kernel_rfl) (by kernel_rfl) .u32 (by kernel_rfl) h0
  go_enter Try.func55, Try.ntmps55
  go_wp2
  go_ret
  exact ⟨rfl, rfl⟩
set_option maxRecDepth 100000 in
set_option maxHeartbeats 1600000 in
theorem slow_first (b : Nat) (w : World) (h0 : w.cell? ⟨b, 0, none⟩ = some (.int .u32 0)) (h1 : w.cell? ⟨b, 1, none⟩ = some (.int .i32 0))
    (hc : ∀ j, j < 256 → ∃ x, w.cell? ⟨b, 3 + j, none⟩ = some (.int .u32 x)) (hf : ∀ j, w.frozen? ⟨b, j, none⟩ = false) :
    Calls Try.prog 56 #[.pointer (some ⟨b, 0, none⟩), .func (.func 52) #[.pointer (some ⟨b, 0, none⟩)] #[]] w fun e w' => e = .returned (.tuple #[]) ∧ w' = doneW w b := by
  have HL := Aside0.mk ((World.cell?_setCell_other w ⟨b, 1, none⟩ ⟨b, 0, none⟩ (.int .i32 1) (by simp)).trans h0)
  have hnot : ∀ (x : Bool) (w : World), (Op.unary .not (.bool x)).run Try.prog w = .ok (.bool (!x)) w := fun _ _ => rfl
  have f0 := hf 0
  have f1 := hf 1
  have hc1 : ∀ j, j < 256 → ∃ x, (w.setCell ⟨b, 1, none⟩ (.int .i32 1)).cell? ⟨b, 3 + j, none⟩ = some (.int .u32 x) := fun j hj => by
    obtain ⟨x, hx⟩ := hc j hj
    exact ⟨x, (World.cell?_setCell_other _ _ _ _ (by intro h2; have := congrArg Addr.off h2; simp at this; omega)).trans hx⟩
  have hf1 : ∀ j, (w.setCell ⟨b, 1, none⟩ (.int .i32 1)).frozen? ⟨b, j, none⟩ = false := fun j => by simp [hf]
  have HC := Aside0.mk hc1
  have HF := Aside0.mk hf1
  clear hc hc1 hf1 hf
  go_enter_defers Try.func56, Try.ntmps56
  go_wp2_with (first | (go_at_call 59; refine (lock_free ⟨b, 1, none⟩ _ (by go_simp) (by go_simp)).mono ?_; rintro e w' ⟨rfl, rfl⟩) | (go_at_call 55; refine (load_any ⟨b, 0, none⟩ 0 _ HL.out).mono ?_; rintro e w' ⟨rfl, rfl⟩) | (go_at_call 52; refine (fill_calls b _ HC.out HF.out).mono ?_; rintro e w' ⟨rfl, rfl⟩))
  refine leaves_cons (f := 61) (args := #[.pointer (some ⟨b, 0, none⟩), .bool true]) (by simp) (by simp [go_sem]) ?_
  refine (store_deferred ⟨b, 0, none⟩ (.int .u32 0) .returning _ ?_ ?_).mono ?_
  · exact (fillW_low _ b 256 0 (by omega)).trans HL.out
  · exact (fillW_frozen _ b 256 _).trans (HF.out 0)
  rintro e u' w'' ⟨rfl, rfl, rfl⟩
  refine leaves_cons (f := 60) (args := #[.pointer (some ⟨b, 1, none⟩)]) (by simp [settle]) (by simp [go_sem]) ?_
  refine (unlock_deferred ⟨b, 1, none⟩ _ _ ?_ ?_).mono ?_
  · refine (World.cell?_setCell_other _ ⟨b, 0, none⟩ ⟨b, 1, none⟩ _ (by simp)).trans ?_
    rw [World.cell?_drew]
    exact (fillW_low _ b 256 1 (by omega)).trans (World.cell?_setCell_same w _ _ h1)
  · have : (fillW (w.setCell ⟨b, 1, none⟩ (.int .i32 1)) b 256).frozen? ⟨b, 1, none⟩ = false := (fillW_frozen _ b 256 _).trans (HF.out 1)
    simp [this]
  rintro e u' w'' ⟨rfl, rfl, rfl⟩
  simp [Leaves, settle, results, Try.results56, doneW]
set_option maxRecDepth 100000 in
set_option maxHeartbeats 1600000 in
/-- Do, the first time. -/
theorem do_first (b : Nat) (w : World) (h0 : w.cell? ⟨b, 0, none⟩ = some (.int .u32 0)) (h1 : w.cell? ⟨b, 1, none⟩ = some (.int .i32 0))
    (hc : ∀ j, j < 256 → ∃ x, w.cell? ⟨b, 3 + j, none⟩ = some (.int .u32 x)) (hf : ∀ j, w.frozen? ⟨b, j, none⟩ = false) :
    Calls Try.prog 51 #[.pointer (some ⟨b, 0, none⟩), .func (.func 52) #[.pointer (some ⟨b, 0, none⟩)] #[]] w fun e w' => e = .returned (.tuple #[]) ∧ w' = doneW w b := by
  have hnot : ∀ (x : Bool) (w : World), (Op.unary .not (.bool x)).run Try.prog w = .ok (.bool (!x)) w := fun _ _ => rfl
  have HC := Aside0.mk hc
  have HF := Aside0.mk hf
  have H0 := Aside0.mk h0
  have H1 := Aside0.mk h1
  clear hc hf h0 h1
  go_enter Try.func51, Try.ntmps51
  go_wp2_with (first | (go_at_call 55; refine (load_any ⟨b, 0, none⟩ 0 _ H0.out).mono ?_; rintro e w' ⟨rfl, rfl⟩) | (go_at_call 56; refine (slow_first b _ H0.out H1.out HC.out HF.out).mono ?_; rintro e w' ⟨rfl, rfl⟩))
  go_end0
  exact ⟨rfl, rfl⟩
set_option maxRecDepth 100000 in
/-- Do, done already. -/
theorem do_done (a : Addr) (fv : Value) (w : World) (h0 : w.cell? a = some (.int .u32 1)) :
    Calls Try.prog 51 #[.pointer (some a), fv] w fun e w' => e = .returned (.tuple #[]) ∧ w' = w := by
  have hnot : ∀ (x : Bool) (w : World), (Op.unary .not (.bool x)).run Try.prog w = .ok (.bool (!x)) w := fun _ _ => rfl
  have H0 := Aside0.mk h0
  clear h0
  go_enter Try.func51, Try.ntmps51
  go_wp2_with (go_at_call 55; refine (load_any a 1 _ H0.out).mono ?_; rintro e w' ⟨rfl, rfl⟩)
  go_end0
  exact ⟨rfl, rfl⟩
end Go.Proofs.Ytbpagdgbehefkaa.Crc
