/- (*Summer).fill: the table. -/
import Derived.Test.YtbpagdgbehefkaaOnce
import Derived.WalkKit
import Derived.LoopTactic
set_option linter.unusedVariables false
set_option linter.unusedSimpArgs false
namespace Go.Proofs.Ytbpagdgbehefkaa.Crc
open Go.RowKit
/-- One bit's step. -/
def bit1 (c : Int) : Int := if Go.bits .and .u32 c 1 = 1 then Go.bits .xor .u32 (c / 2) 3988292384 else c / 2
def bits (n : Nat) (c : Int) : Int := match n with
  | 0 => c
  | n + 1 => bit1 (bits n c)
/-- The world in which so many rows of the table are laid. -/
def fillW (w : World) (b : Nat) : Nat → World
  | 0 => w
  | n + 1 => (fillW w b n).setCell ⟨b, 3 + n, none⟩ (.int .u32 (bits 8 n))
theorem fillW_above (w : World) (b k j : Nat) (h : k ≤ j) : (fillW w b k).cell? ⟨b, 3 + j, none⟩ = w.cell? ⟨b, 3 + j, none⟩ := by
  induction k with
  | zero => rfl
  | succ k ih =>
    simp only [fillW]
    rw [World.cell?_setCell_other _ _ _ _ (by intro h; have := congrArg Addr.off h; simp at this; omega)]
    exact ih (by omega)
theorem fillW_frozen (w : World) (b k : Nat) (a : Addr) : (fillW w b k).frozen? a = w.frozen? a := by
  induction k with
  | zero => rfl
  | succ k ih =>
    simp only [fillW]
    rw [← ih]
    simp
set_option maxRecDepth 100000 in
set_option maxHeartbeats 1600000 in
theorem fill_calls (b : Nat) (w : World) (hc : ∀ j, j < 256 → ∃ x, w.cell? ⟨b, 3 + j, none⟩ = some (.int .u32 x)) (hf : ∀ j, w.frozen? ⟨b, j, none⟩ = false) :
    Calls Try.prog 52 #[.pointer (some ⟨b, 0, none⟩)] w fun e w' => e = .returned (.tuple #[]) ∧ w' = fillW w b 256 := by
  go_enter Try.func52, Try.ntmps52
  go_wp2
  go_loopw [5] (fun i w' => ∃ k : Nat, k ≤ 256 ∧ i = .int .i64 k ∧ w' = fillW w b k) (fun i _ => 256 - (intOf i).toNat)
  case atStart => exact ⟨0, by omega, rfl, rfl⟩
  case round =>
    obtain ⟨k, hk, rfl, rfl⟩ := hrel
    by_cases hlt : k < 256
    · go_wp2
      go_loop [3, 10] (fun c i => ∃ m : Nat, m ≤ 8 ∧ i = .int .i64 m ∧ c = .int .u32 (bits m k)) (fun _ i => 8 - (intOf i).toNat)
      case atStart => exact ⟨0, by omega, rfl, rfl⟩
      case round =>
        obtain ⟨m, hm, rfl, rfl⟩ := hrel
        by_cases hlm : m < 8
        · go_wp2
          · rename_i ho
            refine ⟨⟨m + 1, by omega, by go_num, ?_⟩, by simp [intOf]; omega⟩
            simp only [bits, bit1]
            rw [if_pos (by simpa using ho)]
          · rename_i ho
            refine ⟨⟨m + 1, by omega, by go_num, ?_⟩, by simp [intOf]; omega⟩
            simp only [bits, bit1]
            rw [if_neg (by simpa using ho)]
        · obtain rfl : m = 8 := by omega
          obtain ⟨x, hx⟩ := hc k hlt
          have hx2 : (fillW w b k).cell? ⟨b, 3 + k, none⟩ = some (.int .u32 x) := (fillW_above w b k k (Nat.le_refl _)).trans hx
          have hz : (fillW w b k).frozen? ⟨b, 3 + k, none⟩ = false := (fillW_frozen w b k _).trans (hf _)
          have hlt2 : (k : Int) < 256 := by omega
          have hlt3 : 0 ≤ (k : Int) := by omega
          clear hx hc hf
          go_wp2
          exact ⟨⟨k + 1, by omega, by go_num, rfl⟩, by simp [intOf]; omega⟩
    · go_wp2
      go_end0
      obtain rfl : k = 256 := by omega
      exact ⟨rfl, rfl⟩
end Go.Proofs.Ytbpagdgbehefkaa.Crc
