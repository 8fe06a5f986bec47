-- By cprint.py, a program of this work. Lean checks it.
import Derived.Test.YtpfepkkpbampkaaPOrsx0
import Derived.Test.YtpfepkkpbampkaaPOrsx1
import Derived.Test.YtpfepkkpbampkaaPOrsx3
namespace Go.Proofs.Ytpfepkkpbampkaa.POrs
open Go.RowKit Go.Proofs.YtpfepkkpbampkaaW.PrintWords Go.Proofs.YtpfepkkpbampkaaW.PrintLast Go.Proofs.YtpfepkkpbampkaaW.PrintMore
set_option linter.unusedVariables false
set_option linter.unusedSimpArgs false

/-! ### bits_OnesCount64: function 21 -/
def bits_OnesCount64.f (a0 : Int) : Option (Int) := (some (Go.bits .and .u64 (shr .u64 (IntKind.u64.wrap ((Go.bits .and .u64 (shr .u64 a0 1) 6148914691236517205) + (Go.bits .and .u64 a0 6148914691236517205))) 2) 3689348814741910323 : Int)).bind fun y5757 => ((some (Go.bits .and .u64 (IntKind.u64.wrap ((Go.bits .and .u64 (shr .u64 a0 1) 6148914691236517205) + (Go.bits .and .u64 a0 6148914691236517205))) 3689348814741910323 : Int)).bind fun y5759 => ((some (shr .u64 (Go.bits .and .u64 (IntKind.u64.wrap ((shr .u64 (IntKind.u64.wrap (y5757 + y5759)) 4) + (IntKind.u64.wrap (y5757 + y5759)))) 1085102592571150095) 8 : Int)).bind fun y5763 => ((some (IntKind.u64.wrap ((Go.bits .and .u64 (IntKind.u64.wrap ((shr .u64 (IntKind.u64.wrap (y5757 + y5759)) 4) + (IntKind.u64.wrap (y5757 + y5759)))) 1085102592571150095) + y5763) : Int)).bind fun y5765 => ((some (Go.bits .and .i64 (wrap64 (IntKind.u64.wrap ((IntKind.u64.wrap (y5765 + (shr .u64 y5765 16))) + (shr .u64 (IntKind.u64.wrap (y5765 + (shr .u64 y5765 16))) 32)))) 127 : Int)).bind fun y5770 => (some y5770)))))
set_option maxHeartbeats 2000000 in
set_option maxRecDepth 100000 in
theorem bits_OnesCount64.calls (a0 : Int) (r : Int) (c : Nat → Nat) (w : World) (hc : ∀ k, c k < 10)  (H : bits_OnesCount64.f a0 = some r) :
    Calls Try.prog 21 #[.int .u64 a0] w fun e w' => ∃ (c' : Nat → Nat) , e = .returned (.int .i64 r) ∧ Step c w c' w' [] := by
 unfold bits_OnesCount64.f at H
 have HS := Step.refl c w []
 go_enter Try.func21, Try.ntmps21
 refine wp_seq_k fun K5754 hK5754 => ?_
 refine wl_region ?_
 refine st (.int .i64 0) rfl rfl (xr_assign (.int .i64 0) rfl rfl) ?_
 simp only [ls0, ls1]
 refine wl_end ?_
 (try simp only [Act.put, List.setIfInBounds_toArray, ls0, ls1])
 refine hK5754 _ _ ?_
 (try clear hK5754 K5754)
 refine wp_seq_k fun K5755 hK5755 => ?_
 refine wl_region ?_
 refine st (.int .u64 a0) rfl rfl (xr_move (.int .u64 a0) rfl rfl) ?_
 simp only [ls0, ls1]
 refine st (.int .u64 (shr .u64 a0 1)) rfl rfl (xr_bin (.int .u64 a0) (.int .u64 1) (.int .u64 (shr .u64 a0 1)) rfl rfl rfl (B.shr_u64_u64 a0 1 (by decide))) ?_
 simp only [ls0, ls1]
 refine st (.int .u64 (Go.bits .and .u64 (shr .u64 a0 1) 6148914691236517205)) rfl rfl (xr_bin (.int .u64 (shr .u64 a0 1)) (.int .u64 6148914691236517205) (.int .u64 (Go.bits .and .u64 (shr .u64 a0 1) 6148914691236517205)) rfl rfl rfl (B.and_u64 (shr .u64 a0 1) 6148914691236517205)) ?_
 simp only [ls0, ls1]
 refine st (.int .u64 a0) rfl rfl (xr_move (.int .u64 a0) rfl rfl) ?_
 simp only [ls0, ls1]
 refine st (.int .u64 (Go.bits .and .u64 a0 6148914691236517205)) rfl rfl (xr_bin (.int .u64 a0) (.int .u64 6148914691236517205) (.int .u64 (Go.bits .and .u64 a0 6148914691236517205)) rfl rfl rfl (B.and_u64 a0 6148914691236517205)) ?_
 simp only [ls0, ls1]
 refine st (.int .u64 (IntKind.u64.wrap ((Go.bits .and .u64 (shr .u64 a0 1) 6148914691236517205) + (Go.bits .and .u64 a0 6148914691236517205)))) rfl rfl (xr_bin (.int .u64 (Go.bits .and .u64 (shr .u64 a0 1) 6148914691236517205)) (.int .u64 (Go.bits .and .u64 a0 6148914691236517205)) (.int .u64 (IntKind.u64.wrap ((Go.bits .and .u64 (shr .u64 a0 1) 6148914691236517205) + (Go.bits .and .u64 a0 6148914691236517205)))) rfl rfl rfl (B.add_u64 (Go.bits .and .u64 (shr .u64 a0 1) 6148914691236517205) (Go.bits .and .u64 a0 6148914691236517205))) ?_
 simp only [ls0, ls1]
 refine st (.int .u64 (IntKind.u64.wrap ((Go.bits .and .u64 (shr .u64 a0 1) 6148914691236517205) + (Go.bits .and .u64 a0 6148914691236517205)))) rfl rfl (xr_assign (.int .u64 (IntKind.u64.wrap ((Go.bits .and .u64 (shr .u64 a0 1) 6148914691236517205) + (Go.bits .and .u64 a0 6148914691236517205)))) rfl rfl) ?_
 simp only [ls0, ls1]
 refine wl_end ?_
 (try simp only [Act.put, List.setIfInBounds_toArray, ls0, ls1])
 refine hK5755 _ _ ?_
 (try clear hK5755 K5755)
 refine wp_seq_k fun K5756 hK5756 => ?_
 refine wl_region ?_
 refine st (.int .u64 (IntKind.u64.wrap ((Go.bits .and .u64 (shr .u64 a0 1) 6148914691236517205) + (Go.bits .and .u64 a0 6148914691236517205)))) rfl rfl (xr_move (.int .u64 (IntKind.u64.wrap ((Go.bits .and .u64 (shr .u64 a0 1) 6148914691236517205) + (Go.bits .and .u64 a0 6148914691236517205)))) rfl rfl) ?_
 simp only [ls0, ls1]
 refine st (.int .u64 (shr .u64 (IntKind.u64.wrap ((Go.bits .and .u64 (shr .u64 a0 1) 6148914691236517205) + (Go.bits .and .u64 a0 6148914691236517205))) 2)) rfl rfl (xr_bin (.int .u64 (IntKind.u64.wrap ((Go.bits .and .u64 (shr .u64 a0 1) 6148914691236517205) + (Go.bits .and .u64 a0 6148914691236517205)))) (.int .u64 2) (.int .u64 (shr .u64 (IntKind.u64.wrap ((Go.bits .and .u64 (shr .u64 a0 1) 6148914691236517205) + (Go.bits .and .u64 a0 6148914691236517205))) 2)) rfl rfl rfl (B.shr_u64_u64 (IntKind.u64.wrap ((Go.bits .and .u64 (shr .u64 a0 1) 6148914691236517205) + (Go.bits .and .u64 a0 6148914691236517205))) 2 (by decide))) ?_
 simp only [ls0, ls1]
 obtain ⟨y5757, A5758, H⟩ := Option.bind_eq_some_iff.mp H
 (try dsimp only at H)
 refine st (.int .u64 (Go.bits .and .u64 (shr .u64 (IntKind.u64.wrap ((Go.bits .and .u64 (shr .u64 a0 1) 6148914691236517205) + (Go.bits .and .u64 a0 6148914691236517205))) 2) 3689348814741910323)) rfl rfl (xr_bin (.int .u64 (shr .u64 (IntKind.u64.wrap ((Go.bits .and .u64 (shr .u64 a0 1) 6148914691236517205) + (Go.bits .and .u64 a0 6148914691236517205))) 2)) (.int .u64 3689348814741910323) (.int .u64 (Go.bits .and .u64 (shr .u64 (IntKind.u64.wrap ((Go.bits .and .u64 (shr .u64 a0 1) 6148914691236517205) + (Go.bits .and .u64 a0 6148914691236517205))) 2) 3689348814741910323)) rfl rfl rfl (B.and_u64 (shr .u64 (IntKind.u64.wrap ((Go.bits .and .u64 (shr .u64 a0 1) 6148914691236517205) + (Go.bits .and .u64 a0 6148914691236517205))) 2) 3689348814741910323)) ?_
 simp only [ls0, ls1]
 rw [Option.some.inj A5758]
 refine st (.int .u64 (IntKind.u64.wrap ((Go.bits .and .u64 (shr .u64 a0 1) 6148914691236517205) + (Go.bits .and .u64 a0 6148914691236517205)))) rfl rfl (xr_move (.int .u64 (IntKind.u64.wrap ((Go.bits .and .u64 (shr .u64 a0 1) 6148914691236517205) + (Go.bits .and .u64 a0 6148914691236517205)))) rfl rfl) ?_
 simp only [ls0, ls1]
 obtain ⟨y5759, A5760, H⟩ := Option.bind_eq_some_iff.mp H
 (try dsimp only at H)
 refine st (.int .u64 (Go.bits .and .u64 (IntKind.u64.wrap ((Go.bits .and .u64 (shr .u64 a0 1) 6148914691236517205) + (Go.bits .and .u64 a0 6148914691236517205))) 3689348814741910323)) rfl rfl (xr_bin (.int .u64 (IntKind.u64.wrap ((Go.bits .and .u64 (shr .u64 a0 1) 6148914691236517205) + (Go.bits .and .u64 a0 6148914691236517205)))) (.int .u64 3689348814741910323) (.int .u64 (Go.bits .and .u64 (IntKind.u64.wrap ((Go.bits .and .u64 (shr .u64 a0 1) 6148914691236517205) + (Go.bits .and .u64 a0 6148914691236517205))) 3689348814741910323)) rfl rfl rfl (B.and_u64 (IntKind.u64.wrap ((Go.bits .and .u64 (shr .u64 a0 1) 6148914691236517205) + (Go.bits .and .u64 a0 6148914691236517205))) 3689348814741910323)) ?_
 simp only [ls0, ls1]
 rw [Option.some.inj A5760]
 refine st (.int .u64 (IntKind.u64.wrap (y5757 + y5759))) rfl rfl (xr_bin (.int .u64 y5757) (.int .u64 y5759) (.int .u64 (IntKind.u64.wrap (y5757 + y5759))) rfl rfl rfl (B.add_u64 y5757 y5759)) ?_
 simp only [ls0, ls1]
 refine st (.int .u64 (IntKind.u64.wrap (y5757 + y5759))) rfl rfl (xr_assign (.int .u64 (IntKind.u64.wrap (y5757 + y5759))) rfl rfl) ?_
 simp only [ls0, ls1]
 refine wl_end ?_
 (try simp only [Act.put, List.setIfInBounds_toArray, ls0, ls1])
 refine hK5756 _ _ ?_
 (try clear hK5756 K5756)
 refine wp_seq_k fun K5761 hK5761 => ?_
 refine wl_region ?_
 refine st (.int .u64 (IntKind.u64.wrap (y5757 + y5759))) rfl rfl (xr_move (.int .u64 (IntKind.u64.wrap (y5757 + y5759))) rfl rfl) ?_
 simp only [ls0, ls1]
 refine st (.int .u64 (shr .u64 (IntKind.u64.wrap (y5757 + y5759)) 4)) rfl rfl (xr_bin (.int .u64 (IntKind.u64.wrap (y5757 + y5759))) (.int .u64 4) (.int .u64 (shr .u64 (IntKind.u64.wrap (y5757 + y5759)) 4)) rfl rfl rfl (B.shr_u64_u64 (IntKind.u64.wrap (y5757 + y5759)) 4 (by decide))) ?_
 simp only [ls0, ls1]
 refine st (.int .u64 (IntKind.u64.wrap (y5757 + y5759))) rfl rfl (xr_move (.int .u64 (IntKind.u64.wrap (y5757 + y5759))) rfl rfl) ?_
 simp only [ls0, ls1]
 refine st (.int .u64 (IntKind.u64.wrap ((shr .u64 (IntKind.u64.wrap (y5757 + y5759)) 4) + (IntKind.u64.wrap (y5757 + y5759))))) rfl rfl (xr_bin (.int .u64 (shr .u64 (IntKind.u64.wrap (y5757 + y5759)) 4)) (.int .u64 (IntKind.u64.wrap (y5757 + y5759))) (.int .u64 (IntKind.u64.wrap ((shr .u64 (IntKind.u64.wrap (y5757 + y5759)) 4) + (IntKind.u64.wrap (y5757 + y5759))))) rfl rfl rfl (B.add_u64 (shr .u64 (IntKind.u64.wrap (y5757 + y5759)) 4) (IntKind.u64.wrap (y5757 + y5759)))) ?_
 simp only [ls0, ls1]
 refine st (.int .u64 (Go.bits .and .u64 (IntKind.u64.wrap ((shr .u64 (IntKind.u64.wrap (y5757 + y5759)) 4) + (IntKind.u64.wrap (y5757 + y5759)))) 1085102592571150095)) rfl rfl (xr_bin (.int .u64 (IntKind.u64.wrap ((shr .u64 (IntKind.u64.wrap (y5757 + y5759)) 4) + (IntKind.u64.wrap (y5757 + y5759))))) (.int .u64 1085102592571150095) (.int .u64 (Go.bits .and .u64 (IntKind.u64.wrap ((shr .u64 (IntKind.u64.wrap (y5757 + y5759)) 4) + (IntKind.u64.wrap (y5757 + y5759)))) 1085102592571150095)) rfl rfl rfl (B.and_u64 (IntKind.u64.wrap ((shr .u64 (IntKind.u64.wrap (y5757 + y5759)) 4) + (IntKind.u64.wrap (y5757 + y5759)))) 1085102592571150095)) ?_
 simp only [ls0, ls1]
 refine st (.int .u64 (Go.bits .and .u64 (IntKind.u64.wrap ((shr .u64 (IntKind.u64.wrap (y5757 + y5759)) 4) + (IntKind.u64.wrap (y5757 + y5759)))) 1085102592571150095)) rfl rfl (xr_assign (.int .u64 (Go.bits .and .u64 (IntKind.u64.wrap ((shr .u64 (IntKind.u64.wrap (y5757 + y5759)) 4) + (IntKind.u64.wrap (y5757 + y5759)))) 1085102592571150095)) rfl rfl) ?_
 simp only [ls0, ls1]
 refine wl_end ?_
 (try simp only [Act.put, List.setIfInBounds_toArray, ls0, ls1])
 refine hK5761 _ _ ?_
 (try clear hK5761 K5761)
 refine wp_seq_k fun K5762 hK5762 => ?_
 refine wl_region ?_
 refine st (.int .u64 (Go.bits .and .u64 (IntKind.u64.wrap ((shr .u64 (IntKind.u64.wrap (y5757 + y5759)) 4) + (IntKind.u64.wrap (y5757 + y5759)))) 1085102592571150095)) rfl rfl (xr_move (.int .u64 (Go.bits .and .u64 (IntKind.u64.wrap ((shr .u64 (IntKind.u64.wrap (y5757 + y5759)) 4) + (IntKind.u64.wrap (y5757 + y5759)))) 1085102592571150095)) rfl rfl) ?_
 simp only [ls0, ls1]
 refine st (.int .u64 (Go.bits .and .u64 (IntKind.u64.wrap ((shr .u64 (IntKind.u64.wrap (y5757 + y5759)) 4) + (IntKind.u64.wrap (y5757 + y5759)))) 1085102592571150095)) rfl rfl (xr_move (.int .u64 (Go.bits .and .u64 (IntKind.u64.wrap ((shr .u64 (IntKind.u64.wrap (y5757 + y5759)) 4) + (IntKind.u64.wrap (y5757 + y5759)))) 1085102592571150095)) rfl rfl) ?_
 simp only [ls0, ls1]
 obtain ⟨y5763, A5764, H⟩ := Option.bind_eq_some_iff.mp H
 (try dsimp only at H)
 refine st (.int .u64 (shr .u64 (Go.bits .and .u64 (IntKind.u64.wrap ((shr .u64 (IntKind.u64.wrap (y5757 + y5759)) 4) + (IntKind.u64.wrap (y5757 + y5759)))) 1085102592571150095) 8)) rfl rfl (xr_bin (.int .u64 (Go.bits .and .u64 (IntKind.u64.wrap ((shr .u64 (IntKind.u64.wrap (y5757 + y5759)) 4) + (IntKind.u64.wrap (y5757 + y5759)))) 1085102592571150095)) (.int .u64 8) (.int .u64 (shr .u64 (Go.bits .and .u64 (IntKind.u64.wrap ((shr .u64 (IntKind.u64.wrap (y5757 + y5759)) 4) + (IntKind.u64.wrap (y5757 + y5759)))) 1085102592571150095) 8)) rfl rfl rfl (B.shr_u64_u64 (Go.bits .and .u64 (IntKind.u64.wrap ((shr .u64 (IntKind.u64.wrap (y5757 + y5759)) 4) + (IntKind.u64.wrap (y5757 + y5759)))) 1085102592571150095) 8 (by decide))) ?_
 simp only [ls0, ls1]
 rw [Option.some.inj A5764]
 obtain ⟨y5765, A5766, H⟩ := Option.bind_eq_some_iff.mp H
 (try dsimp only at H)
 refine st (.int .u64 (IntKind.u64.wrap ((Go.bits .and .u64 (IntKind.u64.wrap ((shr .u64 (IntKind.u64.wrap (y5757 + y5759)) 4) + (IntKind.u64.wrap (y5757 + y5759)))) 1085102592571150095) + y5763))) rfl rfl (xr_bin (.int .u64 (Go.bits .and .u64 (IntKind.u64.wrap ((shr .u64 (IntKind.u64.wrap (y5757 + y5759)) 4) + (IntKind.u64.wrap (y5757 + y5759)))) 1085102592571150095)) (.int .u64 y5763) (.int .u64 (IntKind.u64.wrap ((Go.bits .and .u64 (IntKind.u64.wrap ((shr .u64 (IntKind.u64.wrap (y5757 + y5759)) 4) + (IntKind.u64.wrap (y5757 + y5759)))) 1085102592571150095) + y5763))) rfl rfl rfl (B.add_u64 (Go.bits .and .u64 (IntKind.u64.wrap ((shr .u64 (IntKind.u64.wrap (y5757 + y5759)) 4) + (IntKind.u64.wrap (y5757 + y5759)))) 1085102592571150095) y5763)) ?_
 simp only [ls0, ls1]
 rw [Option.some.inj A5766]
 refine st (.int .u64 y5765) rfl rfl (xr_assign (.int .u64 y5765) rfl rfl) ?_
 simp only [ls0, ls1]
 refine wl_end ?_
 (try simp only [Act.put, List.setIfInBounds_toArray, ls0, ls1])
 refine hK5762 _ _ ?_
 (try clear hK5762 K5762)
 refine wp_seq_k fun K5767 hK5767 => ?_
 refine wl_region ?_
 refine st (.int .u64 y5765) rfl rfl (xr_move (.int .u64 y5765) rfl rfl) ?_
 simp only [ls0, ls1]
 refine st (.int .u64 y5765) rfl rfl (xr_move (.int .u64 y5765) rfl rfl) ?_
 simp only [ls0, ls1]
 refine st (.int .u64 (shr .u64 y5765 16)) rfl rfl (xr_bin (.int .u64 y5765) (.int .u64 16) (.int .u64 (shr .u64 y5765 16)) rfl rfl rfl (B.shr_u64_u64 y5765 16 (by decide))) ?_
 simp only [ls0, ls1]
 refine st (.int .u64 (IntKind.u64.wrap (y5765 + (shr .u64 y5765 16)))) rfl rfl (xr_bin (.int .u64 y5765) (.int .u64 (shr .u64 y5765 16)) (.int .u64 (IntKind.u64.wrap (y5765 + (shr .u64 y5765 16)))) rfl rfl rfl (B.add_u64 y5765 (shr .u64 y5765 16))) ?_
 simp only [ls0, ls1]
 refine st (.int .u64 (IntKind.u64.wrap (y5765 + (shr .u64 y5765 16)))) rfl rfl (xr_assign (.int .u64 (IntKind.u64.wrap (y5765 + (shr .u64 y5765 16)))) rfl rfl) ?_
 simp only [ls0, ls1]
 refine wl_end ?_
 (try simp only [Act.put, List.setIfInBounds_toArray, ls0, ls1])
 refine hK5767 _ _ ?_
 (try clear hK5767 K5767)
 refine wp_seq_k fun K5768 hK5768 => ?_
 refine wl_region ?_
 refine st (.int .u64 (IntKind.u64.wrap (y5765 + (shr .u64 y5765 16)))) rfl rfl (xr_move (.int .u64 (IntKind.u64.wrap (y5765 + (shr .u64 y5765 16)))) rfl rfl) ?_
 simp only [ls0, ls1]
 refine st (.int .u64 (IntKind.u64.wrap (y5765 + (shr .u64 y5765 16)))) rfl rfl (xr_move (.int .u64 (IntKind.u64.wrap (y5765 + (shr .u64 y5765 16)))) rfl rfl) ?_
 simp only [ls0, ls1]
 refine st (.int .u64 (shr .u64 (IntKind.u64.wrap (y5765 + (shr .u64 y5765 16))) 32)) rfl rfl (xr_bin (.int .u64 (IntKind.u64.wrap (y5765 + (shr .u64 y5765 16)))) (.int .u64 32) (.int .u64 (shr .u64 (IntKind.u64.wrap (y5765 + (shr .u64 y5765 16))) 32)) rfl rfl rfl (B.shr_u64_u64 (IntKind.u64.wrap (y5765 + (shr .u64 y5765 16))) 32 (by decide))) ?_
 simp only [ls0, ls1]
 refine st (.int .u64 (IntKind.u64.wrap ((IntKind.u64.wrap (y5765 + (shr .u64 y5765 16))) + (shr .u64 (IntKind.u64.wrap (y5765 + (shr .u64 y5765 16))) 32)))) rfl rfl (xr_bin (.int .u64 (IntKind.u64.wrap (y5765 + (shr .u64 y5765 16)))) (.int .u64 (shr .u64 (IntKind.u64.wrap (y5765 + (shr .u64 y5765 16))) 32)) (.int .u64 (IntKind.u64.wrap ((IntKind.u64.wrap (y5765 + (shr .u64 y5765 16))) + (shr .u64 (IntKind.u64.wrap (y5765 + (shr .u64 y5765 16))) 32)))) rfl rfl rfl (B.add_u64 (IntKind.u64.wrap (y5765 + (shr .u64 y5765 16))) (shr .u64 (IntKind.u64.wrap (y5765 + (shr .u64 y5765 16))) 32))) ?_
 simp only [ls0, ls1]
 refine st (.int .u64 (IntKind.u64.wrap ((IntKind.u64.wrap (y5765 + (shr .u64 y5765 16))) + (shr .u64 (IntKind.u64.wrap (y5765 + (shr .u64 y5765 16))) 32)))) rfl rfl (xr_assign (.int .u64 (IntKind.u64.wrap ((IntKind.u64.wrap (y5765 + (shr .u64 y5765 16))) + (shr .u64 (IntKind.u64.wrap (y5765 + (shr .u64 y5765 16))) 32)))) rfl rfl) ?_
 simp only [ls0, ls1]
 refine wl_end ?_
 (try simp only [Act.put, List.setIfInBounds_toArray, ls0, ls1])
 refine hK5768 _ _ ?_
 (try clear hK5768 K5768)
 refine wp_seq_k fun K5769 hK5769 => ?_
 refine wl_region ?_
 refine st (.int .u64 (IntKind.u64.wrap ((IntKind.u64.wrap (y5765 + (shr .u64 y5765 16))) + (shr .u64 (IntKind.u64.wrap (y5765 + (shr .u64 y5765 16))) 32)))) rfl rfl (xr_move (.int .u64 (IntKind.u64.wrap ((IntKind.u64.wrap (y5765 + (shr .u64 y5765 16))) + (shr .u64 (IntKind.u64.wrap (y5765 + (shr .u64 y5765 16))) 32)))) rfl rfl) ?_
 simp only [ls0, ls1]
 refine st (.int .i64 (wrap64 (IntKind.u64.wrap ((IntKind.u64.wrap (y5765 + (shr .u64 y5765 16))) + (shr .u64 (IntKind.u64.wrap (y5765 + (shr .u64 y5765 16))) 32))))) rfl rfl (xr_conv (.int .u64 (IntKind.u64.wrap ((IntKind.u64.wrap (y5765 + (shr .u64 y5765 16))) + (shr .u64 (IntKind.u64.wrap (y5765 + (shr .u64 y5765 16))) 32)))) (.int .i64 (wrap64 (IntKind.u64.wrap ((IntKind.u64.wrap (y5765 + (shr .u64 y5765 16))) + (shr .u64 (IntKind.u64.wrap (y5765 + (shr .u64 y5765 16))) 32))))) rfl rfl (by first | rfl | (go_simp; done) | (go_simp; rfl) | (go_simp; exact i64_w _) | (go_simp; exact i32_w _))) ?_
 simp only [ls0, ls1]
 obtain ⟨y5770, A5771, H⟩ := Option.bind_eq_some_iff.mp H
 (try dsimp only at H)
 refine st (.int .i64 (Go.bits .and .i64 (wrap64 (IntKind.u64.wrap ((IntKind.u64.wrap (y5765 + (shr .u64 y5765 16))) + (shr .u64 (IntKind.u64.wrap (y5765 + (shr .u64 y5765 16))) 32)))) 127)) rfl rfl (xr_bin (.int .i64 (wrap64 (IntKind.u64.wrap ((IntKind.u64.wrap (y5765 + (shr .u64 y5765 16))) + (shr .u64 (IntKind.u64.wrap (y5765 + (shr .u64 y5765 16))) 32))))) (.int .i64 127) (.int .i64 (Go.bits .and .i64 (wrap64 (IntKind.u64.wrap ((IntKind.u64.wrap (y5765 + (shr .u64 y5765 16))) + (shr .u64 (IntKind.u64.wrap (y5765 + (shr .u64 y5765 16))) 32)))) 127)) rfl rfl rfl (B.and_i64 (wrap64 (IntKind.u64.wrap ((IntKind.u64.wrap (y5765 + (shr .u64 y5765 16))) + (shr .u64 (IntKind.u64.wrap (y5765 + (shr .u64 y5765 16))) 32)))) 127)) ?_
 simp only [ls0, ls1]
 rw [Option.some.inj A5771]
 refine st (.int .i64 y5770) rfl rfl (xr_assign (.int .i64 y5770) rfl rfl) ?_
 simp only [ls0, ls1]
 refine wl_end ?_
 (try simp only [Act.put, List.setIfInBounds_toArray, ls0, ls1])
 refine hK5769 _ _ ?_
 (try clear hK5769 K5769)
 refine wp_ret ?_
 (try simp only [Exit.inBlock, Exit.then, Exit.noGoto])
 (try simp only [Act.put, List.setIfInBounds_toArray, ls0, ls1])
 obtain rfl := Option.some.inj H
 refine bodyPost_ret (results_tmp rfl _ _ _) rfl ?_
 exact ⟨_, rfl, HS⟩

/-! ### order_Order_Sorted: function 15 -/
mutual
def order_Order_Sorted.j0 : Nat → Int → Int → (Option S47) → (List Int) → Int → Int → Bool → Option (List Int)
  | 0, _, _, _, _, _, _, _ => none
  | k + 1, t6878, t7015, x0, x6850, x6856, x6998, x7036 => if x7036 = true then (if x6850.length < 17592186044416 then ((some (x6850 ++ [x6998] : List Int)).bind fun y7044 => (order_Order_Sorted.l1 k x0 y7044 (Go.bits .or .u64 x6856 (Go.bits .andNot .u64 t7015 x6856)))) else (none)) else (order_Order_Sorted.l0 k t6878 x0 x6850 x6856 (wrap64 (x6998 + 1)))
def order_Order_Sorted.l0 : Nat → Int → (Option S47) → (List Int) → Int → Int → Option (List Int)
  | 0, _, _, _, _, _ => none
  | k + 1, t6878, x0, x6850, x6856, x6998 => if x6998 < t6878 then ((order_Order_Below.f x0 x6998).bind fun t7015 => ((bits_OnesCount64.f (Go.bits .andNot .u64 t7015 x6856)).bind fun t7054 => (if t7054 = 1 then (if 0 ≤ (IntKind.u64.wrap (x6998)) then (order_Order_Sorted.j0 k t6878 t7015 x0 x6850 x6856 x6998 (decide ((Go.bits .and .u64 (shr .u64 (Go.bits .andNot .u64 t7015 x6856) (IntKind.u64.wrap (x6998))) 1) = 1))) else (none)) else (order_Order_Sorted.j0 k t6878 t7015 x0 x6850 x6856 x6998 false)))) else (some x6850)
def order_Order_Sorted.l1 : Nat → (Option S47) → (List Int) → Int → Option (List Int)
  | 0, _, _, _ => none
  | k + 1, x0, x6850, x6856 => (order_Order_Len.f x0).bind fun t6869 => (if (x6850.length : Int) < t6869 then ((order_Order_Len.f x0).bind fun t6878 => (order_Order_Sorted.l0 k t6878 x0 x6850 x6856 0)) else (some x6850))
end
def order_Order_Sorted.f (k : Nat) (x0 : Option S47) : Option (List Int) := order_Order_Sorted.l1 k x0 ([] : List Int) 0

set_option maxHeartbeats 2000000 in
set_option maxRecDepth 100000 in
theorem order_Order_Sorted.calls (k : Nat) (v0 : Value) (x0 : Option S47) (r : List Int) (c : Nat → Nat) (w : World) (hc : ∀ k, c k < 10) (HP0 : Ft c [0] w (fun w_ => (Kd.ptr 47 k47).K w_ x0 [v0])) (H : order_Order_Sorted.f k x0 = some r) :
    Calls Try.prog 15 #[v0] w fun e w' => ∃ (c' : Nat → Nat) (A_r : Option Addr) (c_r : Nat), e = .returned (.slice A_r r.length c_r) ∧ Step c w c' w' [] ∧ Own c' 5 w' (Kd.int .i64) 3 (.slice A_r r.length c_r) r ∧ r.length ≤ c_r := by
 unfold order_Order_Sorted.f at H
 have HS := Step.refl c w []
 go_enter Try.func15, Try.ntmps15
 refine wp_seq_k fun K6418 hK6418 => ?_
 refine wl_region ?_
 refine st (.slice none 0 0) rfl rfl (xr_assign (.slice none 0 0) rfl rfl) ?_
 simp only [ls0, ls1]
 refine wl_end ?_
 (try simp only [Act.put, List.setIfInBounds_toArray, ls0, ls1])
 refine hK6418 _ _ ?_
 (try clear hK6418 K6418)
 refine wp_scope_straight ?_
 refine wp_seq_k fun K6419 hK6419 => ?_
 refine wl_region ?_
 refine st (.slice none 0 0) rfl rfl (xr_assign (.slice none 0 0) rfl rfl) ?_
 simp only [ls0, ls1]
 refine wl_end ?_
 (try simp only [Act.put, List.setIfInBounds_toArray, ls0, ls1])
 refine hK6419 _ _ ?_
 (try clear hK6419 K6419)
 refine wp_seq_k fun K6420 hK6420 => ?_
 refine wl_region ?_
 refine st (.int .u64 0) rfl rfl (xr_assign (.int .u64 0) rfl rfl) ?_
 simp only [ls0, ls1]
 refine wl_end ?_
 (try simp only [Act.put, List.setIfInBounds_toArray, ls0, ls1])
 refine hK6420 _ _ ?_
 (try clear hK6420 K6420)
 refine wp_seq_k fun K6421 hK6421 => ?_
 refine wp_label ?_
 (try simp only [Act.put, List.setIfInBounds_toArray, ls0, ls1])
 refine hK6421 _ _ ?_
 (try clear hK6421 K6421)
 refine wp_seq_k fun K6422 hK6422 => ?_
 refine wp_block ?_
 (try simp only [Act.put, List.setIfInBounds_toArray, ls0, ls1])
 refine wp_looped (looped_ind (fun kq6860 a_ w6859 => ∃ (C6858 : Nat → Nat) (x6856 : Int) (A6851 : Option Addr) (n6852 cp6853 : Nat) (x6850 : List Int) (g6857 : Nat → Value), a_ = ⟨#[v0, (g6857 1), (g6857 2), .slice A6851 n6852 cp6853, .int .u64 x6856, (g6857 5), (g6857 6), (g6857 7), (g6857 8), (g6857 9), (g6857 10), (g6857 11), (g6857 12), (g6857 13), (g6857 14), (g6857 15), (g6857 16), (g6857 17), (g6857 18), (g6857 19), (g6857 20), (g6857 21), (g6857 22), (g6857 23), (g6857 24), (g6857 25), (g6857 26), (g6857 27), (g6857 28), (g6857 29), (g6857 30), (g6857 31), (g6857 32), (g6857 33), (g6857 34), (g6857 35), (g6857 36), (g6857 37), (g6857 38), (g6857 39), (g6857 40), (g6857 41)], []⟩ ∧ Step c w C6858 w6859 [] ∧ kq6860 ≤ k ∧ (Ft C6858 [0] w6859 (fun w_ => (Kd.ptr 47 k47).K w_ x0 [v0])) ∧ (Own C6858 11 w6859 (Kd.int .i64) 3 (.slice A6851 n6852 cp6853) x6850) ∧ (n6852 ≤ cp6853) ∧ order_Order_Sorted.l1 kq6860 x0 x6850 x6856 = some r) ?step k _ _ ?init)
 case init =>
  exact ⟨_, 0, none, 0, 0, ([] : List Int), (fun q_ => List.getD [undef, undef, .slice none 0 0, undef, undef, undef, undef, undef, undef, undef, undef, undef, undef, undef, undef, undef, undef, undef, undef, undef, undef, undef, undef, undef, undef, undef, undef, undef, undef, undef, undef, undef, undef, undef, undef, undef, undef, undef, undef, undef, undef, undef] q_ undef), rfl, HS, Nat.le_refl _, HP0, (Own.nil _ _ _ _ _), (Nat.le_refl 0), H⟩
 case step =>
  intro kq6860 ih6863 a6864 w6859 hr6865
  obtain ⟨C6858, x6856, A6851, n6852, cp6853, x6850, g6857, rfl, HS6861, hk6862, HJ6849, HJ6855, HC6854, H⟩ := hr6865
  refine looped_round ?_
  obtain rfl : n6852 = x6850.length := HJ6855.at_.1
  cases kq6860 with
  | zero => exact absurd H (by simp [order_Order_Sorted.l1])
  | succ k6866 =>
   simp only [order_Order_Sorted.l1] at H
   refine wp_seq_k fun K6867 hK6867 => ?_
   refine wp_seq_k fun K6868 hK6868 => ?_
   refine wl_region ?_
   refine st (.slice A6851 x6850.length cp6853) rfl rfl (xr_move (.slice A6851 x6850.length cp6853) rfl rfl) ?_
   simp only [ls0, ls1]
   refine st (.int .i64 (x6850.length : Int)) rfl rfl (xr_builtin #[.slice A6851 x6850.length cp6853] (.int .i64 (x6850.length : Int)) rfl (by simp only [List.map_toArray, List.map_cons, List.map_nil]; first | done | rfl) (by first | rfl | (go_simp; done) | (go_simp; rfl) | (go_simp; exact i64_w _) | (go_simp; exact i32_w _))) ?_
   simp only [ls0, ls1]
   refine st (v0) rfl rfl (xr_move (v0) rfl rfl) ?_
   simp only [ls0, ls1]
   obtain ⟨t6869, A6870, H⟩ := Option.bind_eq_some_iff.mp H
   (try dsimp only at H)
   refine st_call #[v0] rfl rfl Try.func10 (by kernel_rfl) rfl rfl (by simp only [List.map_toArray, List.map_cons, List.map_nil]; first | done | rfl) ?_
   refine (order_Order_Len.calls v0 x0 t6869  (fun z_ => pal [(0, 0)] (C6858 z_)) w6859 (fun _ => pal_lt rfl _) (Ft.arg HJ6849 rfl) A6870).mono ?_
   rintro _ w6872 ⟨C6873, rfl, hs6874⟩
   refine ⟨_, rfl, ?_⟩
   replace hs6874 := Step.lift (U := [(0, 0)]) hs6874 [] rfl rfl
   generalize up C6858 C6873 w6859.heap.size [(0, 0)] = C6873_ at hs6874
   replace HJ6849 := HJ6849.thru hs6874 rfl
   replace HJ6855 := HJ6855.thru hs6874 rfl
   replace HS6861 := HS6861.trans hs6874 hc rfl
   (try simp only [Act.put, List.setIfInBounds_toArray, ls0, ls1])
   refine st (.bool (decide ((x6850.length : Int) < t6869))) rfl rfl (xr_bin (.int .i64 (x6850.length : Int)) (.int .i64 t6869) (.bool (decide ((x6850.length : Int) < t6869))) rfl rfl rfl (B.lss_i64 (x6850.length : Int) t6869)) ?_
   simp only [ls0, ls1]
   refine wl_end ?_
   (try simp only [Act.put, List.setIfInBounds_toArray, ls0, ls1])
   refine hK6868 _ _ ?_
   (try clear hK6868 K6868)
   by_cases c6875 : (x6850.length : Int) < t6869
   ·rw [if_pos c6875] at H
    (try rw [(decide_eq_true c6875)])
    (try simp only [Bool.not_true, Bool.not_false])
    refine wp_cond_true rfl ?_
    refine wp_skip ?_
    (try simp only [Act.put, List.setIfInBounds_toArray, ls0, ls1])
    refine hK6867 _ _ ?_
    (try clear hK6867 K6867)
    refine wp_block ?_
    refine wp_seq_k fun K6876 hK6876 => ?_
    refine wp_seq_k fun K6877 hK6877 => ?_
    refine wl_region ?_
    refine st (v0) rfl rfl (xr_move (v0) rfl rfl) ?_
    simp only [ls0, ls1]
    obtain ⟨t6878, A6879, H⟩ := Option.bind_eq_some_iff.mp H
    (try dsimp only at H)
    refine st_call #[v0] rfl rfl Try.func10 (by kernel_rfl) rfl rfl (by simp only [List.map_toArray, List.map_cons, List.map_nil]; first | done | rfl) ?_
    refine (order_Order_Len.calls v0 x0 t6878  (fun z_ => pal [(0, 0)] (C6873_ z_)) w6872 (fun _ => pal_lt rfl _) (Ft.arg HJ6849 rfl) A6879).mono ?_
    rintro _ w6881 ⟨C6882, rfl, hs6883⟩
    refine ⟨_, rfl, ?_⟩
    replace hs6883 := Step.lift (U := [(0, 0)]) hs6883 [] rfl rfl
    generalize up C6873_ C6882 w6872.heap.size [(0, 0)] = C6882_ at hs6883
    replace HJ6849 := HJ6849.thru hs6883 rfl
    replace HJ6855 := HJ6855.thru hs6883 rfl
    replace HS6861 := HS6861.trans hs6883 hc rfl
    (try simp only [Act.put, List.setIfInBounds_toArray, ls0, ls1])
    refine st (.int .i64 0) rfl rfl (xr_move (.int .i64 0) rfl rfl) ?_
    simp only [ls0, ls1]
    refine wl_end ?_
    (try simp only [Act.put, List.setIfInBounds_toArray, ls0, ls1])
    refine hK6877 _ _ ?_
    (try clear hK6877 K6877)
    refine wp_block ?_
    (try simp only [Act.put, List.setIfInBounds_toArray, ls0, ls1])
    refine wp_looped (looped_ind (fun kq7002 a_ w7001 => ∃ (C7000 : Nat → Nat) (x6998 : Int) (g6999 : Nat → Value), a_ = ⟨#[v0, (g6999 1), (g6999 2), .slice A6851 x6850.length cp6853, .int .u64 x6856, (g6999 5), (g6999 6), (g6999 7), (g6999 8), (g6999 9), (g6999 10), (g6999 11), (g6999 12), .int .i64 t6878, .int .i64 x6998, (g6999 15), (g6999 16), (g6999 17), (g6999 18), (g6999 19), (g6999 20), (g6999 21), (g6999 22), (g6999 23), (g6999 24), (g6999 25), (g6999 26), (g6999 27), (g6999 28), (g6999 29), (g6999 30), (g6999 31), (g6999 32), (g6999 33), (g6999 34), (g6999 35), (g6999 36), (g6999 37), (g6999 38), (g6999 39), (g6999 40), (g6999 41)], []⟩ ∧ Step c w C7000 w7001 [] ∧ kq7002 ≤ k6866 ∧ (Ft C7000 [0] w7001 (fun w_ => (Kd.ptr 47 k47).K w_ x0 [v0])) ∧ (Own C7000 11 w7001 (Kd.int .i64) 3 (.slice A6851 x6850.length cp6853) x6850) ∧ order_Order_Sorted.l0 kq7002 t6878 x0 x6850 x6856 x6998 = some r) ?step k6866 _ _ ?init)
    case init =>
     exact ⟨_, 0, (fun q_ => List.getD [undef, (g6857 1), (g6857 2), undef, undef, (g6857 5), (g6857 6), .slice A6851 x6850.length cp6853, .int .i64 (x6850.length : Int), v0, .int .i64 t6869, .bool true, v0, undef, undef, (g6857 15), (g6857 16), (g6857 17), (g6857 18), (g6857 19), (g6857 20), (g6857 21), (g6857 22), (g6857 23), (g6857 24), (g6857 25), (g6857 26), (g6857 27), (g6857 28), (g6857 29), (g6857 30), (g6857 31), (g6857 32), (g6857 33), (g6857 34), (g6857 35), (g6857 36), (g6857 37), (g6857 38), (g6857 39), (g6857 40), (g6857 41)] q_ undef), rfl, HS6861, Nat.le_refl _, HJ6849, HJ6855, H⟩
    case step =>
     intro kq7002 ih7005 a7006 w7001 hr7007
     obtain ⟨C7000, x6998, g6999, rfl, HS7003, hk7004, HJ6996, HJ6997, H⟩ := hr7007
     refine looped_round ?_
     cases kq7002 with
     | zero => exact absurd H (by simp [order_Order_Sorted.l0])
     | succ k7008 =>
      simp only [order_Order_Sorted.l0] at H
      refine wp_seq_k fun K7009 hK7009 => ?_
      refine wl_region ?_
      refine st (.bool (decide (x6998 < t6878))) rfl rfl (xr_bin (.int .i64 x6998) (.int .i64 t6878) (.bool (decide (x6998 < t6878))) rfl rfl rfl (B.lss_i64 x6998 t6878)) ?_
      simp only [ls0, ls1]
      refine wl_end ?_
      (try simp only [Act.put, List.setIfInBounds_toArray, ls0, ls1])
      refine hK7009 _ _ ?_
      (try clear hK7009 K7009)
      refine wp_seq_k fun K7010 hK7010 => ?_
      by_cases c7011 : x6998 < t6878
      ·rw [if_pos c7011] at H
       (try rw [(decide_eq_true c7011)])
       (try simp only [Bool.not_true, Bool.not_false])
       refine wp_cond_true rfl ?_
       refine wp_skip ?_
       (try simp only [Act.put, List.setIfInBounds_toArray, ls0, ls1])
       refine hK7010 _ _ ?_
       (try clear hK7010 K7010)
       refine wp_seq_k fun K7012 hK7012 => ?_
       refine wp_block ?_
       refine wp_seq_k fun K7013 hK7013 => ?_
       refine wl_region ?_
       refine st (.int .i64 x6998) rfl rfl (xr_move (.int .i64 x6998) rfl rfl) ?_
       simp only [ls0, ls1]
       refine st (.int .i64 x6998) rfl rfl (xr_assign (.int .i64 x6998) rfl rfl) ?_
       simp only [ls0, ls1]
       refine wl_end ?_
       (try simp only [Act.put, List.setIfInBounds_toArray, ls0, ls1])
       refine hK7013 _ _ ?_
       (try clear hK7013 K7013)
       refine wp_seq_k fun K7014 hK7014 => ?_
       refine wl_region ?_
       refine st (v0) rfl rfl (xr_move (v0) rfl rfl) ?_
       simp only [ls0, ls1]
       refine st (.int .i64 x6998) rfl rfl (xr_move (.int .i64 x6998) rfl rfl) ?_
       simp only [ls0, ls1]
       obtain ⟨t7015, A7016, H⟩ := Option.bind_eq_some_iff.mp H
       (try dsimp only at H)
       refine st_call #[v0, .int .i64 x6998] rfl rfl Try.func16 (by kernel_rfl) rfl rfl (by simp only [List.map_toArray, List.map_cons, List.map_nil]; first | done | rfl) ?_
       refine (order_Order_Below.calls v0 x0 x6998 t7015  (fun z_ => pal [(0, 0)] (C7000 z_)) w7001 (fun _ => pal_lt rfl _) (Ft.arg HJ6996 rfl) A7016).mono ?_
       rintro _ w7018 ⟨C7019, rfl, hs7020⟩
       refine ⟨_, rfl, ?_⟩
       replace hs7020 := Step.lift (U := [(0, 0)]) hs7020 [] rfl rfl
       generalize up C7000 C7019 w7001.heap.size [(0, 0)] = C7019_ at hs7020
       replace HJ6996 := HJ6996.thru hs7020 rfl
       replace HJ6997 := HJ6997.thru hs7020 rfl
       replace HS7003 := HS7003.trans hs7020 hc rfl
       (try simp only [Act.put, List.setIfInBounds_toArray, ls0, ls1])
       refine st (.int .u64 x6856) rfl rfl (xr_move (.int .u64 x6856) rfl rfl) ?_
       simp only [ls0, ls1]
       refine st (.int .u64 (Go.bits .andNot .u64 t7015 x6856)) rfl rfl (xr_bin (.int .u64 t7015) (.int .u64 x6856) (.int .u64 (Go.bits .andNot .u64 t7015 x6856)) rfl rfl rfl (B.andNot_u64 t7015 x6856)) ?_
       simp only [ls0, ls1]
       refine st (.int .u64 (Go.bits .andNot .u64 t7015 x6856)) rfl rfl (xr_assign (.int .u64 (Go.bits .andNot .u64 t7015 x6856)) rfl rfl) ?_
       simp only [ls0, ls1]
       refine wl_end ?_
       (try simp only [Act.put, List.setIfInBounds_toArray, ls0, ls1])
       refine hK7014 _ _ ?_
       (try clear hK7014 K7014)
       refine wp_seq_k fun K7021 hK7021 => ?_
       have hj7030 : ∀ (kq7038 : Nat) (C7031 : Nat → Nat) (w7032 : World) (x7036 : Bool) (g7037 : Nat → Value), Step c w C7031 w7032 [] → kq7038 ≤ k7008 → (Ft C7031 [0] w7032 (fun w_ => (Kd.ptr 47 k47).K w_ x0 [v0])) → (Own C7031 11 w7032 (Kd.int .i64) 3 (.slice A6851 x6850.length cp6853) x6850) → order_Order_Sorted.j0 kq7038 t6878 t7015 x0 x6850 x6856 x6998 x7036 = some r → K7021 ⟨#[v0, (g7037 1), (g7037 2), .slice A6851 x6850.length cp6853, .int .u64 x6856, .int .i64 x6998, .int .u64 (Go.bits .andNot .u64 t7015 x6856), (g7037 7), (g7037 8), (g7037 9), (g7037 10), (g7037 11), (g7037 12), .int .i64 t6878, .int .i64 x6998, (g7037 15), (g7037 16), (g7037 17), (g7037 18), (g7037 19), (g7037 20), (g7037 21), (g7037 22), (g7037 23), (g7037 24), (g7037 25), (g7037 26), (g7037 27), (g7037 28), (g7037 29), (g7037 30), (g7037 31), .bool x7036, (g7037 33), (g7037 34), (g7037 35), (g7037 36), (g7037 37), (g7037 38), (g7037 39), (g7037 40), (g7037 41)], []⟩ w7032 := by
        intro kq7038 C7031 w7032 x7036 g7037 HS7033 hk7039 HJ7034 HJ7035 H
        cases kq7038 with
        | zero => exact absurd H (by simp [order_Order_Sorted.j0])
        | succ k7040 =>
         simp only [order_Order_Sorted.j0] at H
         refine hK7021 _ _ ?_
         (try clear hK7021)
         by_cases c7041 : x7036 = true
         ·rw [if_pos c7041] at H
          (try rw [c7041])
          (try simp only [Bool.not_true, Bool.not_false])
          refine wp_cond_true rfl ?_
          refine wp_seq_k fun K7042 hK7042 => ?_
          refine wl_region ?_
          refine st (.slice A6851 x6850.length cp6853) rfl rfl (xr_move (.slice A6851 x6850.length cp6853) rfl rfl) ?_
          simp only [ls0, ls1]
          refine st (.int .i64 x6998) rfl rfl (xr_move (.int .i64 x6998) rfl rfl) ?_
          simp only [ls0, ls1]
          refine ev_run (w1 := w7032.alloc (.cells #[.int .i64 x6998] 3)) (.slice (some ⟨w7032.heap.size, 0, none⟩) 1 1) rfl rfl (by first | (go_simp; done) | (go_simp; rfl)) ?_
          (try simp only [Act.put, List.setIfInBounds_toArray, ls0, ls1])
          by_cases c7043 : x6850.length < 17592186044416
          ·rw [if_pos c7043] at H
           obtain ⟨y7044, A7045, H⟩ := Option.bind_eq_some_iff.mp H
           (try dsimp only at H)
           refine Own.append (Kd.int .i64) (C := C7031) (i := 11) rfl (.tmp 33) (.tmp 35) 38 3 (.int .i64 0) 8 rfl Try.underlying38 info3 rfl (by decide) (by decide) (.slice A6851 x6850.length cp6853) x6850 x6998 [.int .i64 x6998] rfl rfl (fk_int .i64 _ _ x6998) HJ7035 (by decide) (by omega) (Option.some.inj A7045) ?_
           intro A7046 cp7047 w7048 C7049 HO7050 HC7051 hs7052
           replace HJ7034 := HJ7034.thru hs7052 rfl
           replace HS7033 := HS7033.trans hs7052 hc rfl
           (try simp only [Act.put, List.setIfInBounds_toArray, ls0, ls1])
           refine st (.slice A7046 y7044.length cp7047) rfl rfl (xr_assign (.slice A7046 y7044.length cp7047) rfl rfl) ?_
           simp only [ls0, ls1]
           refine wl_end ?_
           (try simp only [Act.put, List.setIfInBounds_toArray, ls0, ls1])
           refine hK7042 _ _ ?_
           (try clear hK7042 K7042)
           refine wp_seq_k fun K7053 hK7053 => ?_
           refine wl_region ?_
           refine st (.int .u64 x6856) rfl rfl (xr_move (.int .u64 x6856) rfl rfl) ?_
           simp only [ls0, ls1]
           refine st (.int .u64 (Go.bits .andNot .u64 t7015 x6856)) rfl rfl (xr_move (.int .u64 (Go.bits .andNot .u64 t7015 x6856)) rfl rfl) ?_
           simp only [ls0, ls1]
           refine st (.int .u64 (Go.bits .or .u64 x6856 (Go.bits .andNot .u64 t7015 x6856))) rfl rfl (xr_bin (.int .u64 x6856) (.int .u64 (Go.bits .andNot .u64 t7015 x6856)) (.int .u64 (Go.bits .or .u64 x6856 (Go.bits .andNot .u64 t7015 x6856))) rfl rfl rfl (B.or_u64 x6856 (Go.bits .andNot .u64 t7015 x6856))) ?_
           simp only [ls0, ls1]
           refine st (.int .u64 (Go.bits .or .u64 x6856 (Go.bits .andNot .u64 t7015 x6856))) rfl rfl (xr_assign (.int .u64 (Go.bits .or .u64 x6856 (Go.bits .andNot .u64 t7015 x6856))) rfl rfl) ?_
           simp only [ls0, ls1]
           refine wl_end ?_
           (try simp only [Act.put, List.setIfInBounds_toArray, ls0, ls1])
           refine hK7053 _ _ ?_
           (try clear hK7053 K7053)
           refine wp_exit ?_
           (try simp only [Act.put, List.setIfInBounds_toArray, ls0, ls1])
           exact ih6863 k7040 (by omega) _ _ ⟨_, Go.bits .or .u64 x6856 (Go.bits .andNot .u64 t7015 x6856), A7046, y7044.length, cp7047, y7044, (fun q_ => List.getD [undef, (g7037 1), (g7037 2), undef, undef, .int .i64 x6998, .int .u64 (Go.bits .andNot .u64 t7015 x6856), (g7037 7), (g7037 8), (g7037 9), (g7037 10), (g7037 11), (g7037 12), .int .i64 t6878, .int .i64 x6998, (g7037 15), (g7037 16), (g7037 17), (g7037 18), (g7037 19), (g7037 20), (g7037 21), (g7037 22), (g7037 23), (g7037 24), (g7037 25), (g7037 26), (g7037 27), (g7037 28), (g7037 29), (g7037 30), (g7037 31), .bool true, .slice A6851 x6850.length cp6853, .int .i64 x6998, .slice (some ⟨w7032.heap.size, 0, none⟩) 1 1, .slice A7046 y7044.length cp7047, .int .u64 x6856, .int .u64 (Go.bits .andNot .u64 t7015 x6856), .int .u64 (Go.bits .or .u64 x6856 (Go.bits .andNot .u64 t7015 x6856)), (g7037 40), (g7037 41)] q_ undef), rfl, HS7033, (by omega), HJ7034, HO7050, HC7051, H⟩
          ·rw [if_neg c7043] at H
           exact absurd H (by simp)
         ·rw [if_neg c7041] at H
          (try rw [(Bool.eq_false_iff.mpr c7041)])
          (try simp only [Bool.not_true, Bool.not_false])
          refine wp_cond_false rfl ?_
          refine wp_skip ?_
          (try simp only [Act.put, List.setIfInBounds_toArray, ls0, ls1])
          refine hK7012 _ _ ?_
          (try clear hK7012 K7012)
          refine wl_region ?_
          refine st (.int .i64 (wrap64 (x6998 + 1))) rfl rfl (xr_bin (.int .i64 x6998) (.int .i64 1) (.int .i64 (wrap64 (x6998 + 1))) rfl rfl rfl (B.add_i64 x6998 1)) ?_
          simp only [ls0, ls1]
          refine st (.int .i64 (wrap64 (x6998 + 1))) rfl rfl (xr_move (.int .i64 (wrap64 (x6998 + 1))) rfl rfl) ?_
          simp only [ls0, ls1]
          refine wl_end ?_
          (try simp only [Act.put, List.setIfInBounds_toArray, ls0, ls1])
          exact ih7005 k7040 (by omega) _ _ ⟨_, wrap64 (x6998 + 1), (fun q_ => List.getD [undef, (g7037 1), (g7037 2), undef, undef, .int .i64 x6998, .int .u64 (Go.bits .andNot .u64 t7015 x6856), (g7037 7), (g7037 8), (g7037 9), (g7037 10), (g7037 11), (g7037 12), undef, undef, (g7037 15), (g7037 16), (g7037 17), (g7037 18), (g7037 19), (g7037 20), (g7037 21), (g7037 22), (g7037 23), (g7037 24), (g7037 25), (g7037 26), (g7037 27), (g7037 28), (g7037 29), (g7037 30), (g7037 31), .bool false, (g7037 33), (g7037 34), (g7037 35), (g7037 36), (g7037 37), (g7037 38), (g7037 39), .int .i64 (wrap64 (x6998 + 1)), (g7037 41)] q_ undef), rfl, HS7033, (by omega), HJ7034, HJ7035, H⟩
       refine wl_region ?_
       refine st (.int .u64 (Go.bits .andNot .u64 t7015 x6856)) rfl rfl (xr_move (.int .u64 (Go.bits .andNot .u64 t7015 x6856)) rfl rfl) ?_
       simp only [ls0, ls1]
       obtain ⟨t7054, A7055, H⟩ := Option.bind_eq_some_iff.mp H
       (try dsimp only at H)
       refine st_call #[.int .u64 (Go.bits .andNot .u64 t7015 x6856)] rfl rfl Try.func21 (by kernel_rfl) rfl rfl (by simp only [List.map_toArray, List.map_cons, List.map_nil]; first | done | rfl) ?_
       refine (bits_OnesCount64.calls (Go.bits .andNot .u64 t7015 x6856) t7054  (fun z_ => pal [(0, 0)] (C7019_ z_)) w7018 (fun _ => pal_lt rfl _) A7055).mono ?_
       rintro _ w7057 ⟨C7058, rfl, hs7059⟩
       refine ⟨_, rfl, ?_⟩
       replace hs7059 := Step.lift (U := [(0, 0)]) hs7059 [] rfl rfl
       generalize up C7019_ C7058 w7018.heap.size [(0, 0)] = C7058_ at hs7059
       replace HJ6996 := HJ6996.thru hs7059 rfl
       replace HJ6997 := HJ6997.thru hs7059 rfl
       replace HS7003 := HS7003.trans hs7059 hc rfl
       (try simp only [Act.put, List.setIfInBounds_toArray, ls0, ls1])
       refine st (.bool (decide (t7054 = 1))) rfl rfl (xr_bin (.int .i64 t7054) (.int .i64 1) (.bool (decide (t7054 = 1))) rfl rfl rfl (B.eql_i64 t7054 1)) ?_
       simp only [ls0, ls1]
       refine st (.bool (decide (t7054 = 1))) rfl rfl (xr_move (.bool (decide (t7054 = 1))) rfl rfl) ?_
       simp only [ls0, ls1]
       by_cases c7060 : t7054 = 1
       ·rw [if_pos c7060] at H
        (try rw [(decide_eq_true c7060)])
        (try simp only [Bool.not_true, Bool.not_false])
        refine on_guard (guard_on 3 true 25 rfl rfl rfl) ?_
        refine st (.int .u64 (Go.bits .andNot .u64 t7015 x6856)) rfl rfl (xr_move (.int .u64 (Go.bits .andNot .u64 t7015 x6856)) rfl rfl) ?_
        simp only [ls0, ls1]
        refine on_guard (guard_on 3 true 25 rfl rfl rfl) ?_
        refine st (.int .i64 x6998) rfl rfl (xr_move (.int .i64 x6998) rfl rfl) ?_
        simp only [ls0, ls1]
        refine on_guard (guard_on 3 true 25 rfl rfl rfl) ?_
        refine st (.int .u64 (IntKind.u64.wrap (x6998))) rfl rfl (xr_conv (.int .i64 x6998) (.int .u64 (IntKind.u64.wrap (x6998))) rfl rfl (by first | rfl | (go_simp; done) | (go_simp; rfl) | (go_simp; exact i64_w _) | (go_simp; exact i32_w _))) ?_
        simp only [ls0, ls1]
        refine on_guard (guard_on 3 true 25 rfl rfl rfl) ?_
        by_cases c7061 : 0 ≤ (IntKind.u64.wrap (x6998))
        ·rw [if_pos c7061] at H
         refine st (.int .u64 (shr .u64 (Go.bits .andNot .u64 t7015 x6856) (IntKind.u64.wrap (x6998)))) rfl rfl (xr_bin (.int .u64 (Go.bits .andNot .u64 t7015 x6856)) (.int .u64 (IntKind.u64.wrap (x6998))) (.int .u64 (shr .u64 (Go.bits .andNot .u64 t7015 x6856) (IntKind.u64.wrap (x6998)))) rfl rfl rfl (B.shr_u64_u64 (Go.bits .andNot .u64 t7015 x6856) (IntKind.u64.wrap (x6998)) (by assumption))) ?_
         simp only [ls0, ls1]
         refine on_guard (guard_on 3 true 25 rfl rfl rfl) ?_
         refine st (.int .u64 (Go.bits .and .u64 (shr .u64 (Go.bits .andNot .u64 t7015 x6856) (IntKind.u64.wrap (x6998))) 1)) rfl rfl (xr_bin (.int .u64 (shr .u64 (Go.bits .andNot .u64 t7015 x6856) (IntKind.u64.wrap (x6998)))) (.int .u64 1) (.int .u64 (Go.bits .and .u64 (shr .u64 (Go.bits .andNot .u64 t7015 x6856) (IntKind.u64.wrap (x6998))) 1)) rfl rfl rfl (B.and_u64 (shr .u64 (Go.bits .andNot .u64 t7015 x6856) (IntKind.u64.wrap (x6998))) 1)) ?_
         simp only [ls0, ls1]
         refine on_guard (guard_on 3 true 25 rfl rfl rfl) ?_
         refine st (.bool (decide ((Go.bits .and .u64 (shr .u64 (Go.bits .andNot .u64 t7015 x6856) (IntKind.u64.wrap (x6998))) 1) = 1))) rfl rfl (xr_bin (.int .u64 (Go.bits .and .u64 (shr .u64 (Go.bits .andNot .u64 t7015 x6856) (IntKind.u64.wrap (x6998))) 1)) (.int .u64 1) (.bool (decide ((Go.bits .and .u64 (shr .u64 (Go.bits .andNot .u64 t7015 x6856) (IntKind.u64.wrap (x6998))) 1) = 1))) rfl rfl rfl (B.eql_u64 (Go.bits .and .u64 (shr .u64 (Go.bits .andNot .u64 t7015 x6856) (IntKind.u64.wrap (x6998))) 1) 1)) ?_
         simp only [ls0, ls1]
         refine st (.bool (decide ((Go.bits .and .u64 (shr .u64 (Go.bits .andNot .u64 t7015 x6856) (IntKind.u64.wrap (x6998))) 1) = 1))) rfl rfl (xr_pick true (.bool (decide ((Go.bits .and .u64 (shr .u64 (Go.bits .andNot .u64 t7015 x6856) (IntKind.u64.wrap (x6998))) 1) = 1))) rfl rfl rfl) ?_
         simp only [ls0, ls1]
         refine wl_end ?_
         (try simp only [Act.put, List.setIfInBounds_toArray, ls0, ls1])
         exact hj7030 _ _ _ (decide ((Go.bits .and .u64 (shr .u64 (Go.bits .andNot .u64 t7015 x6856) (IntKind.u64.wrap (x6998))) 1) = 1)) (fun q_ => List.getD [undef, (g6999 1), (g6999 2), undef, undef, undef, undef, (g6999 7), (g6999 8), (g6999 9), (g6999 10), (g6999 11), (g6999 12), undef, undef, .bool true, .int .i64 x6998, v0, .int .i64 x6998, .int .u64 t7015, .int .u64 x6856, .int .u64 (Go.bits .andNot .u64 t7015 x6856), .int .u64 (Go.bits .andNot .u64 t7015 x6856), .int .i64 t7054, .bool true, .bool true, .int .u64 (Go.bits .andNot .u64 t7015 x6856), .int .i64 x6998, .int .u64 (IntKind.u64.wrap (x6998)), .int .u64 (shr .u64 (Go.bits .andNot .u64 t7015 x6856) (IntKind.u64.wrap (x6998))), .int .u64 (Go.bits .and .u64 (shr .u64 (Go.bits .andNot .u64 t7015 x6856) (IntKind.u64.wrap (x6998))) 1), .bool (decide ((Go.bits .and .u64 (shr .u64 (Go.bits .andNot .u64 t7015 x6856) (IntKind.u64.wrap (x6998))) 1) = 1)), undef, (g6999 33), (g6999 34), (g6999 35), (g6999 36), (g6999 37), (g6999 38), (g6999 39), (g6999 40), (g6999 41)] q_ undef)  HS7003 (by omega) HJ6996 HJ6997 H
        ·rw [if_neg c7061] at H
         exact absurd H (by simp)
       ·rw [if_neg c7060] at H
        (try rw [(decide_eq_false c7060)])
        (try simp only [Bool.not_true, Bool.not_false])
        refine sk_guard (guard_off 3 true 25 rfl rfl false (by decide) rfl) rfl ?_
        simp only [ls0, ls1]
        refine sk_guard (guard_off 3 true 25 rfl rfl false (by decide) rfl) rfl ?_
        simp only [ls0, ls1]
        refine sk_guard (guard_off 3 true 25 rfl rfl false (by decide) rfl) rfl ?_
        simp only [ls0, ls1]
        refine sk_guard (guard_off 3 true 25 rfl rfl false (by decide) rfl) rfl ?_
        simp only [ls0, ls1]
        refine sk_guard (guard_off 3 true 25 rfl rfl false (by decide) rfl) rfl ?_
        simp only [ls0, ls1]
        refine sk_guard (guard_off 3 true 25 rfl rfl false (by decide) rfl) rfl ?_
        simp only [ls0, ls1]
        refine st (.bool false) rfl rfl (xr_pick false (.bool false) rfl rfl rfl) ?_
        simp only [ls0, ls1]
        refine wl_end ?_
        (try simp only [Act.put, List.setIfInBounds_toArray, ls0, ls1])
        exact hj7030 _ _ _ (false) (fun q_ => List.getD [undef, (g6999 1), (g6999 2), undef, undef, undef, undef, (g6999 7), (g6999 8), (g6999 9), (g6999 10), (g6999 11), (g6999 12), undef, undef, .bool true, .int .i64 x6998, v0, .int .i64 x6998, .int .u64 t7015, .int .u64 x6856, .int .u64 (Go.bits .andNot .u64 t7015 x6856), .int .u64 (Go.bits .andNot .u64 t7015 x6856), .int .i64 t7054, .bool false, .bool false, undef, undef, undef, undef, undef, undef, undef, (g6999 33), (g6999 34), (g6999 35), (g6999 36), (g6999 37), (g6999 38), (g6999 39), (g6999 40), (g6999 41)] q_ undef)  HS7003 (by omega) HJ6996 HJ6997 H
      ·rw [if_neg c7011] at H
       (try rw [(decide_eq_false c7011)])
       (try simp only [Bool.not_true, Bool.not_false])
       refine wp_cond_false rfl ?_
       refine wp_exit ?_
       (try simp only [Act.put, List.setIfInBounds_toArray, ls0, ls1])
       refine hK6876 _ _ ?_
       (try clear hK6876 K6876)
       refine wp_exit ?_
       (try simp only [Act.put, List.setIfInBounds_toArray, ls0, ls1])
       refine hK6422 _ _ ?_
       (try clear hK6422 K6422)
       refine wp_seq_k fun K7062 hK7062 => ?_
       refine wl_region ?_
       refine st (.slice A6851 x6850.length cp6853) rfl rfl (xr_move (.slice A6851 x6850.length cp6853) rfl rfl) ?_
       simp only [ls0, ls1]
       refine st (.slice A6851 x6850.length cp6853) rfl rfl (xr_assign (.slice A6851 x6850.length cp6853) rfl rfl) ?_
       simp only [ls0, ls1]
       refine wl_end ?_
       (try simp only [Act.put, List.setIfInBounds_toArray, ls0, ls1])
       refine hK7062 _ _ ?_
       (try clear hK7062 K7062)
       refine wp_ret ?_
       (try simp only [Exit.inBlock, Exit.then, Exit.noGoto])
       (try simp only [Act.put, List.setIfInBounds_toArray, ls0, ls1])
       replace HJ6996 := Ft.recol (a := 11) (b := 5) HJ6996 (.inl rfl)
       replace HJ6997 := Own.recolor (b := 5) HJ6997 (by decide)
       replace HS7003 := Step.recol (a := 11) (b := 5) HS7003 hc (by decide)
       obtain rfl := Option.some.inj H
       refine bodyPost_ret (results_tmp rfl _ _ _) rfl ?_
       exact ⟨_, A6851, cp6853, rfl, HS7003, HJ6997, HC6854⟩
   ·rw [if_neg c6875] at H
    (try rw [(decide_eq_false c6875)])
    (try simp only [Bool.not_true, Bool.not_false])
    refine wp_cond_false rfl ?_
    refine wp_exit ?_
    (try simp only [Act.put, List.setIfInBounds_toArray, ls0, ls1])
    refine hK6422 _ _ ?_
    (try clear hK6422 K6422)
    refine wp_seq_k fun K7063 hK7063 => ?_
    refine wl_region ?_
    refine st (.slice A6851 x6850.length cp6853) rfl rfl (xr_move (.slice A6851 x6850.length cp6853) rfl rfl) ?_
    simp only [ls0, ls1]
    refine st (.slice A6851 x6850.length cp6853) rfl rfl (xr_assign (.slice A6851 x6850.length cp6853) rfl rfl) ?_
    simp only [ls0, ls1]
    refine wl_end ?_
    (try simp only [Act.put, List.setIfInBounds_toArray, ls0, ls1])
    refine hK7063 _ _ ?_
    (try clear hK7063 K7063)
    refine wp_ret ?_
    (try simp only [Exit.inBlock, Exit.then, Exit.noGoto])
    (try simp only [Act.put, List.setIfInBounds_toArray, ls0, ls1])
    replace HJ6849 := Ft.recol (a := 11) (b := 5) HJ6849 (.inl rfl)
    replace HJ6855 := Own.recolor (b := 5) HJ6855 (by decide)
    replace HS6861 := Step.recol (a := 11) (b := 5) HS6861 hc (by decide)
    obtain rfl := Option.some.inj H
    refine bodyPost_ret (results_tmp rfl _ _ _) rfl ?_
    exact ⟨_, A6851, cp6853, rfl, HS6861, HJ6855, HC6854⟩

end Go.Proofs.Ytpfepkkpbampkaa.POrs
