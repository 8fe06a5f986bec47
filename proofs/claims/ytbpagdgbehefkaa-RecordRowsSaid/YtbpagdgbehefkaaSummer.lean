/- A Summer's methods and its making, each a contract of its own. -/
import Derived.Test.YtbpagdgbehefkaaSteps
set_option linter.unusedVariables false
set_option linter.unusedSimpArgs false
namespace Go.Proofs.Ytbpagdgbehefkaa.Crc
open Go.RowKit Go.Proofs.YtbpagdgbehefkaaW.PrintWords
/-- All bits turned. -/
def flip (x : Int) : Int := Go.bits .xor .u32 IntKind.u32.max x
set_option maxRecDepth 100000 in
set_option maxHeartbeats 1600000 in
theorem of_calls (b : Nat) (n : Int) (A : Option Addr) (cap : Nat) (l : List Int) (w : World) (hs : IsSum w b n) (hn : 0 ≤ n ∧ n ≤ 1000000) (hl : l.length ≤ 1000000)
    (hr : ∀ w', Only b w w' → Kd.C (Kd.int .u8) w' A l.length l) :
    Calls Try.prog 36 #[.pointer (some ⟨b, 0, none⟩), .slice A l.length cap] w fun e w' => e = .returned (.int .u32 (flip (stepsF 4294967295 l))) ∧ IsSum w' b (n + 1) ∧ Only b w w' := by
  have HC := Aside0.mk (steps_calls b n 4294967295 A cap l w hs hn hl hr)
  clear hs hr
  go_enter Try.func36, Try.ntmps36
  go_wp2_with (go_at_call 47; refine HC.out.mono ?_; rintro e w' ⟨rfl, hs, ho⟩; have HS := Aside0.mk hs; have HO := Aside0.mk ho; clear hs ho)
  go_ret
  exact ⟨rfl, HS.out, HO.out⟩
set_option maxRecDepth 100000 in
set_option maxHeartbeats 1600000 in
theorem calls_calls (b : Nat) (n : Int) (w : World) (hs : IsSum w b n) :
    Calls Try.prog 40 #[.pointer (some ⟨b, 0, none⟩)] w fun e w' => e = .returned (.int .i64 n) ∧ w' = w := by
  have hl := run_call_load (P := Try.prog) Try.func54 (by kernel_rfl) (by kernel_rfl) (by kernel_rfl) .i64 (by kernel_rfl) hs.calls
  clear hs
  go_enter Try.func40, Try.ntmps40
  go_wp2_with (go_at_call 48; go_in)
  go_ret
  exact ⟨rfl, rfl⟩
set_option maxRecDepth 100000 in
set_option maxHeartbeats 1600000 in
theorem more_calls (b : Nat) (n c : Int) (A : Option Addr) (cap : Nat) (l : List Int) (w : World) (hs : IsSum w b n) (hn : 0 ≤ n ∧ n ≤ 1000000) (hl : l.length ≤ 1000000)
    (hr : ∀ w', Only b w w' → Kd.C (Kd.int .u8) w' A l.length l) :
    Calls Try.prog 38 #[.pointer (some ⟨b, 0, none⟩), .int .u32 c, .slice A l.length cap] w fun e w' => e = .returned (.int .u32 (flip (stepsF (flip c) l))) ∧ IsSum w' b (n + 1) ∧ Only b w w' := by
  have HC := Aside0.mk (steps_calls b n (flip c) A cap l w hs hn hl hr)
  clear hs hr
  go_enter Try.func38, Try.ntmps38
  go_wp2_with (go_at_call 47; refine HC.out.mono ?_; rintro e w' ⟨rfl, hs, ho⟩; have HS := Aside0.mk hs; have HO := Aside0.mk ho; clear hs ho)
  go_ret
  exact ⟨rfl, HS.out, HO.out⟩
theorem nil_more (c v : Value) (w : World) : Calls Try.prog 38 #[.pointer none, c, v] w fun e w' => e = .returned (.int .u32 0) ∧ w' = w := by
  go_enter Try.func38, Try.ntmps38
  go_wp2
  go_ret
  exact ⟨rfl, rfl⟩
theorem nil_calls (w : World) : Calls Try.prog 40 #[.pointer none] w fun e w' => e = .returned (.int .i64 0) ∧ w' = w := by
  go_enter Try.func40, Try.ntmps40
  go_wp2
  go_ret
  exact ⟨rfl, rfl⟩
theorem nil_of (v : Value) (w : World) : Calls Try.prog 36 #[.pointer none, v] w fun e w' => e = .returned (.int .u32 0) ∧ w' = w := by
  go_enter Try.func36, Try.ntmps36
  go_wp2
  go_ret
  exact ⟨rfl, rfl⟩
end Go.Proofs.Ytbpagdgbehefkaa.Crc
