-- By cprint.py, a program of this work. Lean checks it.
import Derived.Test.YtnhcpdepjpfcfaaPRowx0
namespace Go.Proofs.Ytnhcpdepjpfcfaa.PRow
open Go.RowKit Go.Proofs.YtnhcpdepjpfcfaaW.PrintWords Go.Proofs.YtnhcpdepjpfcfaaW.PrintLast Go.Proofs.YtnhcpdepjpfcfaaW.PrintMore
set_option linter.unusedVariables false
set_option linter.unusedSimpArgs false

/-! ### lex_Keyword: function 78 -/
def lex_Keyword.j0 (x114 : Bool) : Option (Bool) := if x114 = true then (some true) else (some false)
def lex_Keyword.f (a0 : ByteArray) : Option (Bool) := if a0 = (⟨#[105, 109, 112, 111, 114, 116]⟩ : ByteArray) then (lex_Keyword.j0 true) else (if a0 = (⟨#[108, 97, 116, 116, 105, 99, 101]⟩ : ByteArray) then (lex_Keyword.j0 true) else (if a0 = (⟨#[101, 102, 102, 101, 99, 116, 115]⟩ : ByteArray) then (lex_Keyword.j0 true) else (if a0 = (⟨#[118, 97, 114]⟩ : ByteArray) then (lex_Keyword.j0 true) else (if a0 = (⟨#[102, 110]⟩ : ByteArray) then (lex_Keyword.j0 true) else (if a0 = (⟨#[108, 101, 116]⟩ : ByteArray) then (lex_Keyword.j0 true) else (if a0 = (⟨#[105, 102]⟩ : ByteArray) then (lex_Keyword.j0 true) else (if a0 = (⟨#[101, 108, 115, 101]⟩ : ByteArray) then (lex_Keyword.j0 true) else (if a0 = (⟨#[119, 104, 105, 108, 101]⟩ : ByteArray) then (lex_Keyword.j0 true) else (if a0 = (⟨#[114, 101, 116, 117, 114, 110]⟩ : ByteArray) then (lex_Keyword.j0 true) else (if a0 = (⟨#[100, 111]⟩ : ByteArray) then (lex_Keyword.j0 true) else (if a0 = (⟨#[116, 114, 117, 101]⟩ : ByteArray) then (lex_Keyword.j0 true) else (if a0 = (⟨#[102, 97, 108, 115, 101]⟩ : ByteArray) then (lex_Keyword.j0 true) else (if a0 = (⟨#[105, 110, 116]⟩ : ByteArray) then (lex_Keyword.j0 true) else (if a0 = (⟨#[98, 111, 111, 108]⟩ : ByteArray) then (lex_Keyword.j0 true) else (lex_Keyword.j0 (decide (a0 = (⟨#[100, 101, 99, 108, 97, 115, 115, 105, 102, 121]⟩ : ByteArray))))))))))))))))))
set_option maxHeartbeats 2000000 in
set_option maxRecDepth 100000 in
theorem lex_Keyword.calls (a0 : ByteArray) (r : Bool) (c : Nat → Nat) (w : World) (hc : ∀ k, c k < 10)  (H : lex_Keyword.f a0 = some r) :
    Calls Try.prog 78 #[.string a0] w fun e w' => ∃ (c' : Nat → Nat) , e = .returned (.bool r) ∧ Step c w c' w' [] := by
  unfold lex_Keyword.f at H
  have HS := Step.refl c w []
  go_enter Try.func78, Try.ntmps78
  refine wp_seq_k fun K76 hK76 => ?_
  refine wl_region ?_
  refine st (.bool false) rfl rfl (xr_assign (.bool false) rfl rfl) ?_
  simp only [ls0, ls1]
  refine wl_end ?_
  (try simp only [Act.put, List.setIfInBounds_toArray, ls0, ls1])
  refine hK76 _ _ ?_
  (try clear hK76 K76)
  refine wp_seq_k fun K77 hK77 => ?_
  refine wp_seq_k fun K78 hK78 => ?_
  refine wl_region ?_
  refine st (.string a0) rfl rfl (xr_move (.string a0) rfl rfl) ?_
  simp only [ls0, ls1]
  refine wl_end ?_
  (try simp only [Act.put, List.setIfInBounds_toArray, ls0, ls1])
  refine hK78 _ _ ?_
  (try clear hK78 K78)
  refine wp_block ?_
  refine wp_seq_k fun K79 hK79 => ?_
  have hj110 : ∀ (C111 : Nat → Nat) (w112 : World) (x114 : Bool) (g115 : Nat → Value), Step c w C111 w112 [] → lex_Keyword.j0 x114 = some r → K79 ⟨#[(g115 0), (g115 1), (g115 2), (g115 3), .bool x114, (g115 5), (g115 6), (g115 7), (g115 8), (g115 9), (g115 10), (g115 11), (g115 12), (g115 13), (g115 14), (g115 15), (g115 16), (g115 17), (g115 18), (g115 19), (g115 20)], []⟩ w112 := by
    intro C111 w112 x114 g115 HS113  H
    unfold lex_Keyword.j0 at H
    refine hK79 _ _ ?_
    (try clear hK79)
    by_cases c118 : x114 = true
    · rw [if_pos c118] at H
      (try rw [c118])
      (try simp only [Bool.not_true, Bool.not_false])
      refine wp_cond_true rfl ?_
      refine wp_seq_k fun K119 hK119 => ?_
      refine wl_region ?_
      refine st (.bool true) rfl rfl (xr_assign (.bool true) rfl rfl) ?_
      simp only [ls0, ls1]
      refine wl_end ?_
      (try simp only [Act.put, List.setIfInBounds_toArray, ls0, ls1])
      refine hK119 _ _ ?_
      (try clear hK119 K119)
      refine wp_ret ?_
      (try simp only [Exit.inBlock, Exit.then, Exit.noGoto])
      (try simp only [Act.put, List.setIfInBounds_toArray, ls0, ls1])
      obtain rfl := Option.some.inj H
      refine bodyPost_ret (results_tmp rfl _ _ _) rfl ?_
      exact ⟨_, rfl, HS113⟩
    · rw [if_neg c118] at H
      (try rw [(Bool.eq_false_iff.mpr c118)])
      (try simp only [Bool.not_true, Bool.not_false])
      refine wp_cond_false rfl ?_
      refine wp_skip ?_
      (try simp only [Act.put, List.setIfInBounds_toArray, ls0, ls1])
      refine hK77 _ _ ?_
      (try clear hK77 K77)
      refine wp_seq_k fun K120 hK120 => ?_
      refine wl_region ?_
      refine st (.bool false) rfl rfl (xr_assign (.bool false) rfl rfl) ?_
      simp only [ls0, ls1]
      refine wl_end ?_
      (try simp only [Act.put, List.setIfInBounds_toArray, ls0, ls1])
      refine hK120 _ _ ?_
      (try clear hK120 K120)
      refine wp_ret ?_
      (try simp only [Exit.inBlock, Exit.then, Exit.noGoto])
      (try simp only [Act.put, List.setIfInBounds_toArray, ls0, ls1])
      obtain rfl := Option.some.inj H
      refine bodyPost_ret (results_tmp rfl _ _ _) rfl ?_
      exact ⟨_, rfl, HS113⟩
  refine wp_seq_k fun K121 hK121 => ?_
  refine wl_region ?_
  refine st (.bool (decide (a0 = (⟨#[105, 109, 112, 111, 114, 116]⟩ : ByteArray)))) rfl rfl (xr_bin (.string a0) (.string (⟨#[105, 109, 112, 111, 114, 116]⟩ : ByteArray)) (.bool (decide (a0 = (⟨#[105, 109, 112, 111, 114, 116]⟩ : ByteArray)))) rfl rfl rfl (B.eql_str a0 (⟨#[105, 109, 112, 111, 114, 116]⟩ : ByteArray))) ?_
  simp only [ls0, ls1]
  refine st (.bool (decide (a0 = (⟨#[105, 109, 112, 111, 114, 116]⟩ : ByteArray)))) rfl rfl (xr_assign (.bool (decide (a0 = (⟨#[105, 109, 112, 111, 114, 116]⟩ : ByteArray)))) rfl rfl) ?_
  simp only [ls0, ls1]
  refine wl_end ?_
  (try simp only [Act.put, List.setIfInBounds_toArray, ls0, ls1])
  refine hK121 _ _ ?_
  (try clear hK121 K121)
  by_cases c122 : a0 = (⟨#[105, 109, 112, 111, 114, 116]⟩ : ByteArray)
  · rw [if_pos c122] at H
    (try rw [(decide_eq_true c122)])
    (try simp only [Bool.not_true, Bool.not_false])
    refine wp_cond_true rfl ?_
    refine wp_skip ?_
    (try simp only [Act.put, List.setIfInBounds_toArray, ls0, ls1])
    exact hj110 _ _ (true) (fun q_ => List.getD [.string a0, undef, .bool false, .string a0, undef, .bool true, undef, undef, undef, undef, undef, undef, undef, undef, undef, undef, undef, undef, undef, undef, undef] q_ undef)  HS H
  · rw [if_neg c122] at H
    (try rw [(decide_eq_false c122)])
    (try simp only [Bool.not_true, Bool.not_false])
    refine wp_cond_false rfl ?_
    refine wp_seq_k fun K123 hK123 => ?_
    refine wl_region ?_
    refine st (.bool (decide (a0 = (⟨#[108, 97, 116, 116, 105, 99, 101]⟩ : ByteArray)))) rfl rfl (xr_bin (.string a0) (.string (⟨#[108, 97, 116, 116, 105, 99, 101]⟩ : ByteArray)) (.bool (decide (a0 = (⟨#[108, 97, 116, 116, 105, 99, 101]⟩ : ByteArray)))) rfl rfl rfl (B.eql_str a0 (⟨#[108, 97, 116, 116, 105, 99, 101]⟩ : ByteArray))) ?_
    simp only [ls0, ls1]
    refine st (.bool (decide (a0 = (⟨#[108, 97, 116, 116, 105, 99, 101]⟩ : ByteArray)))) rfl rfl (xr_assign (.bool (decide (a0 = (⟨#[108, 97, 116, 116, 105, 99, 101]⟩ : ByteArray)))) rfl rfl) ?_
    simp only [ls0, ls1]
    refine wl_end ?_
    (try simp only [Act.put, List.setIfInBounds_toArray, ls0, ls1])
    refine hK123 _ _ ?_
    (try clear hK123 K123)
    by_cases c124 : a0 = (⟨#[108, 97, 116, 116, 105, 99, 101]⟩ : ByteArray)
    · rw [if_pos c124] at H
      (try rw [(decide_eq_true c124)])
      (try simp only [Bool.not_true, Bool.not_false])
      refine wp_cond_true rfl ?_
      refine wp_skip ?_
      (try simp only [Act.put, List.setIfInBounds_toArray, ls0, ls1])
      exact hj110 _ _ (true) (fun q_ => List.getD [.string a0, undef, .bool false, .string a0, undef, .bool false, .bool true, undef, undef, undef, undef, undef, undef, undef, undef, undef, undef, undef, undef, undef, undef] q_ undef)  HS H
    · rw [if_neg c124] at H
      (try rw [(decide_eq_false c124)])
      (try simp only [Bool.not_true, Bool.not_false])
      refine wp_cond_false rfl ?_
      refine wp_seq_k fun K125 hK125 => ?_
      refine wl_region ?_
      refine st (.bool (decide (a0 = (⟨#[101, 102, 102, 101, 99, 116, 115]⟩ : ByteArray)))) rfl rfl (xr_bin (.string a0) (.string (⟨#[101, 102, 102, 101, 99, 116, 115]⟩ : ByteArray)) (.bool (decide (a0 = (⟨#[101, 102, 102, 101, 99, 116, 115]⟩ : ByteArray)))) rfl rfl rfl (B.eql_str a0 (⟨#[101, 102, 102, 101, 99, 116, 115]⟩ : ByteArray))) ?_
      simp only [ls0, ls1]
      refine st (.bool (decide (a0 = (⟨#[101, 102, 102, 101, 99, 116, 115]⟩ : ByteArray)))) rfl rfl (xr_assign (.bool (decide (a0 = (⟨#[101, 102, 102, 101, 99, 116, 115]⟩ : ByteArray)))) rfl rfl) ?_
      simp only [ls0, ls1]
      refine wl_end ?_
      (try simp only [Act.put, List.setIfInBounds_toArray, ls0, ls1])
      refine hK125 _ _ ?_
      (try clear hK125 K125)
      by_cases c126 : a0 = (⟨#[101, 102, 102, 101, 99, 116, 115]⟩ : ByteArray)
      · rw [if_pos c126] at H
        (try rw [(decide_eq_true c126)])
        (try simp only [Bool.not_true, Bool.not_false])
        refine wp_cond_true rfl ?_
        refine wp_skip ?_
        (try simp only [Act.put, List.setIfInBounds_toArray, ls0, ls1])
        exact hj110 _ _ (true) (fun q_ => List.getD [.string a0, undef, .bool false, .string a0, undef, .bool false, .bool false, .bool true, undef, undef, undef, undef, undef, undef, undef, undef, undef, undef, undef, undef, undef] q_ undef)  HS H
      · rw [if_neg c126] at H
        (try rw [(decide_eq_false c126)])
        (try simp only [Bool.not_true, Bool.not_false])
        refine wp_cond_false rfl ?_
        refine wp_seq_k fun K127 hK127 => ?_
        refine wl_region ?_
        refine st (.bool (decide (a0 = (⟨#[118, 97, 114]⟩ : ByteArray)))) rfl rfl (xr_bin (.string a0) (.string (⟨#[118, 97, 114]⟩ : ByteArray)) (.bool (decide (a0 = (⟨#[118, 97, 114]⟩ : ByteArray)))) rfl rfl rfl (B.eql_str a0 (⟨#[118, 97, 114]⟩ : ByteArray))) ?_
        simp only [ls0, ls1]
        refine st (.bool (decide (a0 = (⟨#[118, 97, 114]⟩ : ByteArray)))) rfl rfl (xr_assign (.bool (decide (a0 = (⟨#[118, 97, 114]⟩ : ByteArray)))) rfl rfl) ?_
        simp only [ls0, ls1]
        refine wl_end ?_
        (try simp only [Act.put, List.setIfInBounds_toArray, ls0, ls1])
        refine hK127 _ _ ?_
        (try clear hK127 K127)
        by_cases c128 : a0 = (⟨#[118, 97, 114]⟩ : ByteArray)
        · rw [if_pos c128] at H
          (try rw [(decide_eq_true c128)])
          (try simp only [Bool.not_true, Bool.not_false])
          refine wp_cond_true rfl ?_
          refine wp_skip ?_
          (try simp only [Act.put, List.setIfInBounds_toArray, ls0, ls1])
          exact hj110 _ _ (true) (fun q_ => List.getD [.string a0, undef, .bool false, .string a0, undef, .bool false, .bool false, .bool false, .bool true, undef, undef, undef, undef, undef, undef, undef, undef, undef, undef, undef, undef] q_ undef)  HS H
        · rw [if_neg c128] at H
          (try rw [(decide_eq_false c128)])
          (try simp only [Bool.not_true, Bool.not_false])
          refine wp_cond_false rfl ?_
          refine wp_seq_k fun K129 hK129 => ?_
          refine wl_region ?_
          refine st (.bool (decide (a0 = (⟨#[102, 110]⟩ : ByteArray)))) rfl rfl (xr_bin (.string a0) (.string (⟨#[102, 110]⟩ : ByteArray)) (.bool (decide (a0 = (⟨#[102, 110]⟩ : ByteArray)))) rfl rfl rfl (B.eql_str a0 (⟨#[102, 110]⟩ : ByteArray))) ?_
          simp only [ls0, ls1]
          refine st (.bool (decide (a0 = (⟨#[102, 110]⟩ : ByteArray)))) rfl rfl (xr_assign (.bool (decide (a0 = (⟨#[102, 110]⟩ : ByteArray)))) rfl rfl) ?_
          simp only [ls0, ls1]
          refine wl_end ?_
          (try simp only [Act.put, List.setIfInBounds_toArray, ls0, ls1])
          refine hK129 _ _ ?_
          (try clear hK129 K129)
          by_cases c130 : a0 = (⟨#[102, 110]⟩ : ByteArray)
          · rw [if_pos c130] at H
            (try rw [(decide_eq_true c130)])
            (try simp only [Bool.not_true, Bool.not_false])
            refine wp_cond_true rfl ?_
            refine wp_skip ?_
            (try simp only [Act.put, List.setIfInBounds_toArray, ls0, ls1])
            exact hj110 _ _ (true) (fun q_ => List.getD [.string a0, undef, .bool false, .string a0, undef, .bool false, .bool false, .bool false, .bool false, .bool true, undef, undef, undef, undef, undef, undef, undef, undef, undef, undef, undef] q_ undef)  HS H
          · rw [if_neg c130] at H
            (try rw [(decide_eq_false c130)])
            (try simp only [Bool.not_true, Bool.not_false])
            refine wp_cond_false rfl ?_
            refine wp_seq_k fun K131 hK131 => ?_
            refine wl_region ?_
            refine st (.bool (decide (a0 = (⟨#[108, 101, 116]⟩ : ByteArray)))) rfl rfl (xr_bin (.string a0) (.string (⟨#[108, 101, 116]⟩ : ByteArray)) (.bool (decide (a0 = (⟨#[108, 101, 116]⟩ : ByteArray)))) rfl rfl rfl (B.eql_str a0 (⟨#[108, 101, 116]⟩ : ByteArray))) ?_
            simp only [ls0, ls1]
            refine st (.bool (decide (a0 = (⟨#[108, 101, 116]⟩ : ByteArray)))) rfl rfl (xr_assign (.bool (decide (a0 = (⟨#[108, 101, 116]⟩ : ByteArray)))) rfl rfl) ?_
            simp only [ls0, ls1]
            refine wl_end ?_
            (try simp only [Act.put, List.setIfInBounds_toArray, ls0, ls1])
            refine hK131 _ _ ?_
            (try clear hK131 K131)
            by_cases c132 : a0 = (⟨#[108, 101, 116]⟩ : ByteArray)
            · rw [if_pos c132] at H
              (try rw [(decide_eq_true c132)])
              (try simp only [Bool.not_true, Bool.not_false])
              refine wp_cond_true rfl ?_
              refine wp_skip ?_
              (try simp only [Act.put, List.setIfInBounds_toArray, ls0, ls1])
              exact hj110 _ _ (true) (fun q_ => List.getD [.string a0, undef, .bool false, .string a0, undef, .bool false, .bool false, .bool false, .bool false, .bool false, .bool true, undef, undef, undef, undef, undef, undef, undef, undef, undef, undef] q_ undef)  HS H
            · rw [if_neg c132] at H
              (try rw [(decide_eq_false c132)])
              (try simp only [Bool.not_true, Bool.not_false])
              refine wp_cond_false rfl ?_
              refine wp_seq_k fun K133 hK133 => ?_
              refine wl_region ?_
              refine st (.bool (decide (a0 = (⟨#[105, 102]⟩ : ByteArray)))) rfl rfl (xr_bin (.string a0) (.string (⟨#[105, 102]⟩ : ByteArray)) (.bool (decide (a0 = (⟨#[105, 102]⟩ : ByteArray)))) rfl rfl rfl (B.eql_str a0 (⟨#[105, 102]⟩ : ByteArray))) ?_
              simp only [ls0, ls1]
              refine st (.bool (decide (a0 = (⟨#[105, 102]⟩ : ByteArray)))) rfl rfl (xr_assign (.bool (decide (a0 = (⟨#[105, 102]⟩ : ByteArray)))) rfl rfl) ?_
              simp only [ls0, ls1]
              refine wl_end ?_
              (try simp only [Act.put, List.setIfInBounds_toArray, ls0, ls1])
              refine hK133 _ _ ?_
              (try clear hK133 K133)
              by_cases c134 : a0 = (⟨#[105, 102]⟩ : ByteArray)
              · rw [if_pos c134] at H
                (try rw [(decide_eq_true c134)])
                (try simp only [Bool.not_true, Bool.not_false])
                refine wp_cond_true rfl ?_
                refine wp_skip ?_
                (try simp only [Act.put, List.setIfInBounds_toArray, ls0, ls1])
                exact hj110 _ _ (true) (fun q_ => List.getD [.string a0, undef, .bool false, .string a0, undef, .bool false, .bool false, .bool false, .bool false, .bool false, .bool false, .bool true, undef, undef, undef, undef, undef, undef, undef, undef, undef] q_ undef)  HS H
              · rw [if_neg c134] at H
                (try rw [(decide_eq_false c134)])
                (try simp only [Bool.not_true, Bool.not_false])
                refine wp_cond_false rfl ?_
                refine wp_seq_k fun K135 hK135 => ?_
                refine wl_region ?_
                refine st (.bool (decide (a0 = (⟨#[101, 108, 115, 101]⟩ : ByteArray)))) rfl rfl (xr_bin (.string a0) (.string (⟨#[101, 108, 115, 101]⟩ : ByteArray)) (.bool (decide (a0 = (⟨#[101, 108, 115, 101]⟩ : ByteArray)))) rfl rfl rfl (B.eql_str a0 (⟨#[101, 108, 115, 101]⟩ : ByteArray))) ?_
                simp only [ls0, ls1]
                refine st (.bool (decide (a0 = (⟨#[101, 108, 115, 101]⟩ : ByteArray)))) rfl rfl (xr_assign (.bool (decide (a0 = (⟨#[101, 108, 115, 101]⟩ : ByteArray)))) rfl rfl) ?_
                simp only [ls0, ls1]
                refine wl_end ?_
                (try simp only [Act.put, List.setIfInBounds_toArray, ls0, ls1])
                refine hK135 _ _ ?_
                (try clear hK135 K135)
                by_cases c136 : a0 = (⟨#[101, 108, 115, 101]⟩ : ByteArray)
                · rw [if_pos c136] at H
                  (try rw [(decide_eq_true c136)])
                  (try simp only [Bool.not_true, Bool.not_false])
                  refine wp_cond_true rfl ?_
                  refine wp_skip ?_
                  (try simp only [Act.put, List.setIfInBounds_toArray, ls0, ls1])
                  exact hj110 _ _ (true) (fun q_ => List.getD [.string a0, undef, .bool false, .string a0, undef, .bool false, .bool false, .bool false, .bool false, .bool false, .bool false, .bool false, .bool true, undef, undef, undef, undef, undef, undef, undef, undef] q_ undef)  HS H
                · rw [if_neg c136] at H
                  (try rw [(decide_eq_false c136)])
                  (try simp only [Bool.not_true, Bool.not_false])
                  refine wp_cond_false rfl ?_
                  refine wp_seq_k fun K137 hK137 => ?_
                  refine wl_region ?_
                  refine st (.bool (decide (a0 = (⟨#[119, 104, 105, 108, 101]⟩ : ByteArray)))) rfl rfl (xr_bin (.string a0) (.string (⟨#[119, 104, 105, 108, 101]⟩ : ByteArray)) (.bool (decide (a0 = (⟨#[119, 104, 105, 108, 101]⟩ : ByteArray)))) rfl rfl rfl (B.eql_str a0 (⟨#[119, 104, 105, 108, 101]⟩ : ByteArray))) ?_
                  simp only [ls0, ls1]
                  refine st (.bool (decide (a0 = (⟨#[119, 104, 105, 108, 101]⟩ : ByteArray)))) rfl rfl (xr_assign (.bool (decide (a0 = (⟨#[119, 104, 105, 108, 101]⟩ : ByteArray)))) rfl rfl) ?_
                  simp only [ls0, ls1]
                  refine wl_end ?_
                  (try simp only [Act.put, List.setIfInBounds_toArray, ls0, ls1])
                  refine hK137 _ _ ?_
                  (try clear hK137 K137)
                  by_cases c138 : a0 = (⟨#[119, 104, 105, 108, 101]⟩ : ByteArray)
                  · rw [if_pos c138] at H
                    (try rw [(decide_eq_true c138)])
                    (try simp only [Bool.not_true, Bool.not_false])
                    refine wp_cond_true rfl ?_
                    refine wp_skip ?_
                    (try simp only [Act.put, List.setIfInBounds_toArray, ls0, ls1])
                    exact hj110 _ _ (true) (fun q_ => List.getD [.string a0, undef, .bool false, .string a0, undef, .bool false, .bool false, .bool false, .bool false, .bool false, .bool false, .bool false, .bool false, .bool true, undef, undef, undef, undef, undef, undef, undef] q_ undef)  HS H
                  · rw [if_neg c138] at H
                    (try rw [(decide_eq_false c138)])
                    (try simp only [Bool.not_true, Bool.not_false])
                    refine wp_cond_false rfl ?_
                    refine wp_seq_k fun K139 hK139 => ?_
                    refine wl_region ?_
                    refine st (.bool (decide (a0 = (⟨#[114, 101, 116, 117, 114, 110]⟩ : ByteArray)))) rfl rfl (xr_bin (.string a0) (.string (⟨#[114, 101, 116, 117, 114, 110]⟩ : ByteArray)) (.bool (decide (a0 = (⟨#[114, 101, 116, 117, 114, 110]⟩ : ByteArray)))) rfl rfl rfl (B.eql_str a0 (⟨#[114, 101, 116, 117, 114, 110]⟩ : ByteArray))) ?_
                    simp only [ls0, ls1]
                    refine st (.bool (decide (a0 = (⟨#[114, 101, 116, 117, 114, 110]⟩ : ByteArray)))) rfl rfl (xr_assign (.bool (decide (a0 = (⟨#[114, 101, 116, 117, 114, 110]⟩ : ByteArray)))) rfl rfl) ?_
                    simp only [ls0, ls1]
                    refine wl_end ?_
                    (try simp only [Act.put, List.setIfInBounds_toArray, ls0, ls1])
                    refine hK139 _ _ ?_
                    (try clear hK139 K139)
                    by_cases c140 : a0 = (⟨#[114, 101, 116, 117, 114, 110]⟩ : ByteArray)
                    · rw [if_pos c140] at H
                      (try rw [(decide_eq_true c140)])
                      (try simp only [Bool.not_true, Bool.not_false])
                      refine wp_cond_true rfl ?_
                      refine wp_skip ?_
                      (try simp only [Act.put, List.setIfInBounds_toArray, ls0, ls1])
                      exact hj110 _ _ (true) (fun q_ => List.getD [.string a0, undef, .bool false, .string a0, undef, .bool false, .bool false, .bool false, .bool false, .bool false, .bool false, .bool false, .bool false, .bool false, .bool true, undef, undef, undef, undef, undef, undef] q_ undef)  HS H
                    · rw [if_neg c140] at H
                      (try rw [(decide_eq_false c140)])
                      (try simp only [Bool.not_true, Bool.not_false])
                      refine wp_cond_false rfl ?_
                      refine wp_seq_k fun K141 hK141 => ?_
                      refine wl_region ?_
                      refine st (.bool (decide (a0 = (⟨#[100, 111]⟩ : ByteArray)))) rfl rfl (xr_bin (.string a0) (.string (⟨#[100, 111]⟩ : ByteArray)) (.bool (decide (a0 = (⟨#[100, 111]⟩ : ByteArray)))) rfl rfl rfl (B.eql_str a0 (⟨#[100, 111]⟩ : ByteArray))) ?_
                      simp only [ls0, ls1]
                      refine st (.bool (decide (a0 = (⟨#[100, 111]⟩ : ByteArray)))) rfl rfl (xr_assign (.bool (decide (a0 = (⟨#[100, 111]⟩ : ByteArray)))) rfl rfl) ?_
                      simp only [ls0, ls1]
                      refine wl_end ?_
                      (try simp only [Act.put, List.setIfInBounds_toArray, ls0, ls1])
                      refine hK141 _ _ ?_
                      (try clear hK141 K141)
                      by_cases c142 : a0 = (⟨#[100, 111]⟩ : ByteArray)
                      · rw [if_pos c142] at H
                        (try rw [(decide_eq_true c142)])
                        (try simp only [Bool.not_true, Bool.not_false])
                        refine wp_cond_true rfl ?_
                        refine wp_skip ?_
                        (try simp only [Act.put, List.setIfInBounds_toArray, ls0, ls1])
                        exact hj110 _ _ (true) (fun q_ => List.getD [.string a0, undef, .bool false, .string a0, undef, .bool false, .bool false, .bool false, .bool false, .bool false, .bool false, .bool false, .bool false, .bool false, .bool false, .bool true, undef, undef, undef, undef, undef] q_ undef)  HS H
                      · rw [if_neg c142] at H
                        (try rw [(decide_eq_false c142)])
                        (try simp only [Bool.not_true, Bool.not_false])
                        refine wp_cond_false rfl ?_
                        refine wp_seq_k fun K143 hK143 => ?_
                        refine wl_region ?_
                        refine st (.bool (decide (a0 = (⟨#[116, 114, 117, 101]⟩ : ByteArray)))) rfl rfl (xr_bin (.string a0) (.string (⟨#[116, 114, 117, 101]⟩ : ByteArray)) (.bool (decide (a0 = (⟨#[116, 114, 117, 101]⟩ : ByteArray)))) rfl rfl rfl (B.eql_str a0 (⟨#[116, 114, 117, 101]⟩ : ByteArray))) ?_
                        simp only [ls0, ls1]
                        refine st (.bool (decide (a0 = (⟨#[116, 114, 117, 101]⟩ : ByteArray)))) rfl rfl (xr_assign (.bool (decide (a0 = (⟨#[116, 114, 117, 101]⟩ : ByteArray)))) rfl rfl) ?_
                        simp only [ls0, ls1]
                        refine wl_end ?_
                        (try simp only [Act.put, List.setIfInBounds_toArray, ls0, ls1])
                        refine hK143 _ _ ?_
                        (try clear hK143 K143)
                        by_cases c144 : a0 = (⟨#[116, 114, 117, 101]⟩ : ByteArray)
                        · rw [if_pos c144] at H
                          (try rw [(decide_eq_true c144)])
                          (try simp only [Bool.not_true, Bool.not_false])
                          refine wp_cond_true rfl ?_
                          refine wp_skip ?_
                          (try simp only [Act.put, List.setIfInBounds_toArray, ls0, ls1])
                          exact hj110 _ _ (true) (fun q_ => List.getD [.string a0, undef, .bool false, .string a0, undef, .bool false, .bool false, .bool false, .bool false, .bool false, .bool false, .bool false, .bool false, .bool false, .bool false, .bool false, .bool true, undef, undef, undef, undef] q_ undef)  HS H
                        · rw [if_neg c144] at H
                          (try rw [(decide_eq_false c144)])
                          (try simp only [Bool.not_true, Bool.not_false])
                          refine wp_cond_false rfl ?_
                          refine wp_seq_k fun K145 hK145 => ?_
                          refine wl_region ?_
                          refine st (.bool (decide (a0 = (⟨#[102, 97, 108, 115, 101]⟩ : ByteArray)))) rfl rfl (xr_bin (.string a0) (.string (⟨#[102, 97, 108, 115, 101]⟩ : ByteArray)) (.bool (decide (a0 = (⟨#[102, 97, 108, 115, 101]⟩ : ByteArray)))) rfl rfl rfl (B.eql_str a0 (⟨#[102, 97, 108, 115, 101]⟩ : ByteArray))) ?_
                          simp only [ls0, ls1]
                          refine st (.bool (decide (a0 = (⟨#[102, 97, 108, 115, 101]⟩ : ByteArray)))) rfl rfl (xr_assign (.bool (decide (a0 = (⟨#[102, 97, 108, 115, 101]⟩ : ByteArray)))) rfl rfl) ?_
                          simp only [ls0, ls1]
                          refine wl_end ?_
                          (try simp only [Act.put, List.setIfInBounds_toArray, ls0, ls1])
                          refine hK145 _ _ ?_
                          (try clear hK145 K145)
                          by_cases c146 : a0 = (⟨#[102, 97, 108, 115, 101]⟩ : ByteArray)
                          · rw [if_pos c146] at H
                            (try rw [(decide_eq_true c146)])
                            (try simp only [Bool.not_true, Bool.not_false])
                            refine wp_cond_true rfl ?_
                            refine wp_skip ?_
                            (try simp only [Act.put, List.setIfInBounds_toArray, ls0, ls1])
                            exact hj110 _ _ (true) (fun q_ => List.getD [.string a0, undef, .bool false, .string a0, undef, .bool false, .bool false, .bool false, .bool false, .bool false, .bool false, .bool false, .bool false, .bool false, .bool false, .bool false, .bool false, .bool true, undef, undef, undef] q_ undef)  HS H
                          · rw [if_neg c146] at H
                            (try rw [(decide_eq_false c146)])
                            (try simp only [Bool.not_true, Bool.not_false])
                            refine wp_cond_false rfl ?_
                            refine wp_seq_k fun K147 hK147 => ?_
                            refine wl_region ?_
                            refine st (.bool (decide (a0 = (⟨#[105, 110, 116]⟩ : ByteArray)))) rfl rfl (xr_bin (.string a0) (.string (⟨#[105, 110, 116]⟩ : ByteArray)) (.bool (decide (a0 = (⟨#[105, 110, 116]⟩ : ByteArray)))) rfl rfl rfl (B.eql_str a0 (⟨#[105, 110, 116]⟩ : ByteArray))) ?_
                            simp only [ls0, ls1]
                            refine st (.bool (decide (a0 = (⟨#[105, 110, 116]⟩ : ByteArray)))) rfl rfl (xr_assign (.bool (decide (a0 = (⟨#[105, 110, 116]⟩ : ByteArray)))) rfl rfl) ?_
                            simp only [ls0, ls1]
                            refine wl_end ?_
                            (try simp only [Act.put, List.setIfInBounds_toArray, ls0, ls1])
                            refine hK147 _ _ ?_
                            (try clear hK147 K147)
                            by_cases c148 : a0 = (⟨#[105, 110, 116]⟩ : ByteArray)
                            · rw [if_pos c148] at H
                              (try rw [(decide_eq_true c148)])
                              (try simp only [Bool.not_true, Bool.not_false])
                              refine wp_cond_true rfl ?_
                              refine wp_skip ?_
                              (try simp only [Act.put, List.setIfInBounds_toArray, ls0, ls1])
                              exact hj110 _ _ (true) (fun q_ => List.getD [.string a0, undef, .bool false, .string a0, undef, .bool false, .bool false, .bool false, .bool false, .bool false, .bool false, .bool false, .bool false, .bool false, .bool false, .bool false, .bool false, .bool false, .bool true, undef, undef] q_ undef)  HS H
                            · rw [if_neg c148] at H
                              (try rw [(decide_eq_false c148)])
                              (try simp only [Bool.not_true, Bool.not_false])
                              refine wp_cond_false rfl ?_
                              refine wp_seq_k fun K149 hK149 => ?_
                              refine wl_region ?_
                              refine st (.bool (decide (a0 = (⟨#[98, 111, 111, 108]⟩ : ByteArray)))) rfl rfl (xr_bin (.string a0) (.string (⟨#[98, 111, 111, 108]⟩ : ByteArray)) (.bool (decide (a0 = (⟨#[98, 111, 111, 108]⟩ : ByteArray)))) rfl rfl rfl (B.eql_str a0 (⟨#[98, 111, 111, 108]⟩ : ByteArray))) ?_
                              simp only [ls0, ls1]
                              refine st (.bool (decide (a0 = (⟨#[98, 111, 111, 108]⟩ : ByteArray)))) rfl rfl (xr_assign (.bool (decide (a0 = (⟨#[98, 111, 111, 108]⟩ : ByteArray)))) rfl rfl) ?_
                              simp only [ls0, ls1]
                              refine wl_end ?_
                              (try simp only [Act.put, List.setIfInBounds_toArray, ls0, ls1])
                              refine hK149 _ _ ?_
                              (try clear hK149 K149)
                              by_cases c150 : a0 = (⟨#[98, 111, 111, 108]⟩ : ByteArray)
                              · rw [if_pos c150] at H
                                (try rw [(decide_eq_true c150)])
                                (try simp only [Bool.not_true, Bool.not_false])
                                refine wp_cond_true rfl ?_
                                refine wp_skip ?_
                                (try simp only [Act.put, List.setIfInBounds_toArray, ls0, ls1])
                                exact hj110 _ _ (true) (fun q_ => List.getD [.string a0, undef, .bool false, .string a0, undef, .bool false, .bool false, .bool false, .bool false, .bool false, .bool false, .bool false, .bool false, .bool false, .bool false, .bool false, .bool false, .bool false, .bool false, .bool true, undef] q_ undef)  HS H
                              · rw [if_neg c150] at H
                                (try rw [(decide_eq_false c150)])
                                (try simp only [Bool.not_true, Bool.not_false])
                                refine wp_cond_false rfl ?_
                                refine wl_region ?_
                                refine st (.bool (decide (a0 = (⟨#[100, 101, 99, 108, 97, 115, 115, 105, 102, 121]⟩ : ByteArray)))) rfl rfl (xr_bin (.string a0) (.string (⟨#[100, 101, 99, 108, 97, 115, 115, 105, 102, 121]⟩ : ByteArray)) (.bool (decide (a0 = (⟨#[100, 101, 99, 108, 97, 115, 115, 105, 102, 121]⟩ : ByteArray)))) rfl rfl rfl (B.eql_str a0 (⟨#[100, 101, 99, 108, 97, 115, 115, 105, 102, 121]⟩ : ByteArray))) ?_
                                simp only [ls0, ls1]
                                refine st (.bool (decide (a0 = (⟨#[100, 101, 99, 108, 97, 115, 115, 105, 102, 121]⟩ : ByteArray)))) rfl rfl (xr_assign (.bool (decide (a0 = (⟨#[100, 101, 99, 108, 97, 115, 115, 105, 102, 121]⟩ : ByteArray)))) rfl rfl) ?_
                                simp only [ls0, ls1]
                                refine wl_end ?_
                                (try simp only [Act.put, List.setIfInBounds_toArray, ls0, ls1])
                                exact hj110 _ _ (decide (a0 = (⟨#[100, 101, 99, 108, 97, 115, 115, 105, 102, 121]⟩ : ByteArray))) (fun q_ => List.getD [.string a0, undef, .bool false, .string a0, undef, .bool false, .bool false, .bool false, .bool false, .bool false, .bool false, .bool false, .bool false, .bool false, .bool false, .bool false, .bool false, .bool false, .bool false, .bool false, .bool (decide (a0 = (⟨#[100, 101, 99, 108, 97, 115, 115, 105, 102, 121]⟩ : ByteArray)))] q_ undef)  HS H

/-! ### lex_letter: function 79 -/
def lex_letter.f (a0 : Int) : Option (Bool) := if (Go.bits .or .u8 a0 32) ≥ 97 then (if (Go.bits .or .u8 a0 32) ≤ 122 then (some true) else (some (decide (a0 = 95)))) else (some (decide (a0 = 95)))
set_option maxHeartbeats 2000000 in
set_option maxRecDepth 100000 in
theorem lex_letter.calls (a0 : Int) (r : Bool) (c : Nat → Nat) (w : World) (hc : ∀ k, c k < 10)  (H : lex_letter.f a0 = some r) :
    Calls Try.prog 79 #[.int .u8 a0] w fun e w' => ∃ (c' : Nat → Nat) , e = .returned (.bool r) ∧ Step c w c' w' [] := by
  unfold lex_letter.f at H
  have HS := Step.refl c w []
  go_enter Try.func79, Try.ntmps79
  refine wp_seq_k fun K155 hK155 => ?_
  refine wl_region ?_
  refine st (.bool false) rfl rfl (xr_assign (.bool false) rfl rfl) ?_
  simp only [ls0, ls1]
  refine wl_end ?_
  (try simp only [Act.put, List.setIfInBounds_toArray, ls0, ls1])
  refine hK155 _ _ ?_
  (try clear hK155 K155)
  refine wp_seq_k fun K156 hK156 => ?_
  refine wl_region ?_
  refine st (.int .u8 a0) rfl rfl (xr_move (.int .u8 a0) rfl rfl) ?_
  simp only [ls0, ls1]
  refine st (.int .u8 (Go.bits .or .u8 a0 32)) rfl rfl (xr_bin (.int .u8 a0) (.int .u8 32) (.int .u8 (Go.bits .or .u8 a0 32)) rfl rfl rfl (B.or_u8 a0 32)) ?_
  simp only [ls0, ls1]
  refine st (.bool (decide ((Go.bits .or .u8 a0 32) ≥ 97))) rfl rfl (xr_bin (.int .u8 (Go.bits .or .u8 a0 32)) (.int .u8 97) (.bool (decide ((Go.bits .or .u8 a0 32) ≥ 97))) rfl rfl rfl (B.geq_u8 (Go.bits .or .u8 a0 32) 97)) ?_
  simp only [ls0, ls1]
  refine st (.bool (decide ((Go.bits .or .u8 a0 32) ≥ 97))) rfl rfl (xr_move (.bool (decide ((Go.bits .or .u8 a0 32) ≥ 97))) rfl rfl) ?_
  simp only [ls0, ls1]
  by_cases c157 : (Go.bits .or .u8 a0 32) ≥ 97
  · rw [if_pos c157] at H
    (try rw [(decide_eq_true c157)])
    (try simp only [Bool.not_true, Bool.not_false])
    refine on_guard (guard_on 3 true 6 rfl rfl rfl) ?_
    refine st (.int .u8 a0) rfl rfl (xr_move (.int .u8 a0) rfl rfl) ?_
    simp only [ls0, ls1]
    refine on_guard (guard_on 3 true 6 rfl rfl rfl) ?_
    refine st (.int .u8 (Go.bits .or .u8 a0 32)) rfl rfl (xr_bin (.int .u8 a0) (.int .u8 32) (.int .u8 (Go.bits .or .u8 a0 32)) rfl rfl rfl (B.or_u8 a0 32)) ?_
    simp only [ls0, ls1]
    refine on_guard (guard_on 3 true 6 rfl rfl rfl) ?_
    refine st (.bool (decide ((Go.bits .or .u8 a0 32) ≤ 122))) rfl rfl (xr_bin (.int .u8 (Go.bits .or .u8 a0 32)) (.int .u8 122) (.bool (decide ((Go.bits .or .u8 a0 32) ≤ 122))) rfl rfl rfl (B.leq_u8 (Go.bits .or .u8 a0 32) 122)) ?_
    simp only [ls0, ls1]
    refine st (.bool (decide ((Go.bits .or .u8 a0 32) ≤ 122))) rfl rfl (xr_pick true (.bool (decide ((Go.bits .or .u8 a0 32) ≤ 122))) rfl rfl rfl) ?_
    simp only [ls0, ls1]
    refine st (.bool (decide ((Go.bits .or .u8 a0 32) ≤ 122))) rfl rfl (xr_move (.bool (decide ((Go.bits .or .u8 a0 32) ≤ 122))) rfl rfl) ?_
    simp only [ls0, ls1]
    by_cases c158 : (Go.bits .or .u8 a0 32) ≤ 122
    · rw [if_pos c158] at H
      (try rw [(decide_eq_true c158)])
      (try simp only [Bool.not_true, Bool.not_false])
      refine sk_guard (guard_off 8 false 11 rfl rfl true (by decide) rfl) rfl ?_
      simp only [ls0, ls1]
      refine sk_guard (guard_off 8 false 11 rfl rfl true (by decide) rfl) rfl ?_
      simp only [ls0, ls1]
      refine st (.bool true) rfl rfl (xr_pick true (.bool true) rfl rfl rfl) ?_
      simp only [ls0, ls1]
      refine st (.bool true) rfl rfl (xr_assign (.bool true) rfl rfl) ?_
      simp only [ls0, ls1]
      refine wl_end ?_
      (try simp only [Act.put, List.setIfInBounds_toArray, ls0, ls1])
      refine hK156 _ _ ?_
      (try clear hK156 K156)
      refine wp_ret ?_
      (try simp only [Exit.inBlock, Exit.then, Exit.noGoto])
      (try simp only [Act.put, List.setIfInBounds_toArray, ls0, ls1])
      obtain rfl := Option.some.inj H
      refine bodyPost_ret (results_tmp rfl _ _ _) rfl ?_
      exact ⟨_, rfl, HS⟩
    · rw [if_neg c158] at H
      (try rw [(decide_eq_false c158)])
      (try simp only [Bool.not_true, Bool.not_false])
      refine on_guard (guard_on 8 false 11 rfl rfl rfl) ?_
      refine st (.int .u8 a0) rfl rfl (xr_move (.int .u8 a0) rfl rfl) ?_
      simp only [ls0, ls1]
      refine on_guard (guard_on 8 false 11 rfl rfl rfl) ?_
      refine st (.bool (decide (a0 = 95))) rfl rfl (xr_bin (.int .u8 a0) (.int .u8 95) (.bool (decide (a0 = 95))) rfl rfl rfl (B.eql_u8 a0 95)) ?_
      simp only [ls0, ls1]
      refine st (.bool (decide (a0 = 95))) rfl rfl (xr_pick false (.bool (decide (a0 = 95))) rfl rfl rfl) ?_
      simp only [ls0, ls1]
      refine st (.bool (decide (a0 = 95))) rfl rfl (xr_assign (.bool (decide (a0 = 95))) rfl rfl) ?_
      simp only [ls0, ls1]
      refine wl_end ?_
      (try simp only [Act.put, List.setIfInBounds_toArray, ls0, ls1])
      refine hK156 _ _ ?_
      (try clear hK156 K156)
      refine wp_ret ?_
      (try simp only [Exit.inBlock, Exit.then, Exit.noGoto])
      (try simp only [Act.put, List.setIfInBounds_toArray, ls0, ls1])
      obtain rfl := Option.some.inj H
      refine bodyPost_ret (results_tmp rfl _ _ _) rfl ?_
      exact ⟨_, rfl, HS⟩
  · rw [if_neg c157] at H
    (try rw [(decide_eq_false c157)])
    (try simp only [Bool.not_true, Bool.not_false])
    refine sk_guard (guard_off 3 true 6 rfl rfl false (by decide) rfl) rfl ?_
    simp only [ls0, ls1]
    refine sk_guard (guard_off 3 true 6 rfl rfl false (by decide) rfl) rfl ?_
    simp only [ls0, ls1]
    refine sk_guard (guard_off 3 true 6 rfl rfl false (by decide) rfl) rfl ?_
    simp only [ls0, ls1]
    refine st (.bool false) rfl rfl (xr_pick false (.bool false) rfl rfl rfl) ?_
    simp only [ls0, ls1]
    refine st (.bool false) rfl rfl (xr_move (.bool false) rfl rfl) ?_
    simp only [ls0, ls1]
    refine on_guard (guard_on 8 false 11 rfl rfl rfl) ?_
    refine st (.int .u8 a0) rfl rfl (xr_move (.int .u8 a0) rfl rfl) ?_
    simp only [ls0, ls1]
    refine on_guard (guard_on 8 false 11 rfl rfl rfl) ?_
    refine st (.bool (decide (a0 = 95))) rfl rfl (xr_bin (.int .u8 a0) (.int .u8 95) (.bool (decide (a0 = 95))) rfl rfl rfl (B.eql_u8 a0 95)) ?_
    simp only [ls0, ls1]
    refine st (.bool (decide (a0 = 95))) rfl rfl (xr_pick false (.bool (decide (a0 = 95))) rfl rfl rfl) ?_
    simp only [ls0, ls1]
    refine st (.bool (decide (a0 = 95))) rfl rfl (xr_assign (.bool (decide (a0 = 95))) rfl rfl) ?_
    simp only [ls0, ls1]
    refine wl_end ?_
    (try simp only [Act.put, List.setIfInBounds_toArray, ls0, ls1])
    refine hK156 _ _ ?_
    (try clear hK156 K156)
    refine wp_ret ?_
    (try simp only [Exit.inBlock, Exit.then, Exit.noGoto])
    (try simp only [Act.put, List.setIfInBounds_toArray, ls0, ls1])
    obtain rfl := Option.some.inj H
    refine bodyPost_ret (results_tmp rfl _ _ _) rfl ?_
    exact ⟨_, rfl, HS⟩

/-! ### lex_digit: function 82 -/
def lex_digit.f (a0 : Int) : Option (Bool) := if a0 ≥ 48 then (some (decide (a0 ≤ 57))) else (some false)
set_option maxHeartbeats 2000000 in
set_option maxRecDepth 100000 in
theorem lex_digit.calls (a0 : Int) (r : Bool) (c : Nat → Nat) (w : World) (hc : ∀ k, c k < 10)  (H : lex_digit.f a0 = some r) :
    Calls Try.prog 82 #[.int .u8 a0] w fun e w' => ∃ (c' : Nat → Nat) , e = .returned (.bool r) ∧ Step c w c' w' [] := by
  unfold lex_digit.f at H
  have HS := Step.refl c w []
  go_enter Try.func82, Try.ntmps82
  refine wp_seq_k fun K221 hK221 => ?_
  refine wl_region ?_
  refine st (.bool false) rfl rfl (xr_assign (.bool false) rfl rfl) ?_
  simp only [ls0, ls1]
  refine wl_end ?_
  (try simp only [Act.put, List.setIfInBounds_toArray, ls0, ls1])
  refine hK221 _ _ ?_
  (try clear hK221 K221)
  refine wp_seq_k fun K222 hK222 => ?_
  refine wl_region ?_
  refine st (.int .u8 a0) rfl rfl (xr_move (.int .u8 a0) rfl rfl) ?_
  simp only [ls0, ls1]
  refine st (.bool (decide (a0 ≥ 48))) rfl rfl (xr_bin (.int .u8 a0) (.int .u8 48) (.bool (decide (a0 ≥ 48))) rfl rfl rfl (B.geq_u8 a0 48)) ?_
  simp only [ls0, ls1]
  refine st (.bool (decide (a0 ≥ 48))) rfl rfl (xr_move (.bool (decide (a0 ≥ 48))) rfl rfl) ?_
  simp only [ls0, ls1]
  by_cases c223 : a0 ≥ 48
  · rw [if_pos c223] at H
    (try rw [(decide_eq_true c223)])
    (try simp only [Bool.not_true, Bool.not_false])
    refine on_guard (guard_on 2 true 5 rfl rfl rfl) ?_
    refine st (.int .u8 a0) rfl rfl (xr_move (.int .u8 a0) rfl rfl) ?_
    simp only [ls0, ls1]
    refine on_guard (guard_on 2 true 5 rfl rfl rfl) ?_
    refine st (.bool (decide (a0 ≤ 57))) rfl rfl (xr_bin (.int .u8 a0) (.int .u8 57) (.bool (decide (a0 ≤ 57))) rfl rfl rfl (B.leq_u8 a0 57)) ?_
    simp only [ls0, ls1]
    refine st (.bool (decide (a0 ≤ 57))) rfl rfl (xr_pick true (.bool (decide (a0 ≤ 57))) rfl rfl rfl) ?_
    simp only [ls0, ls1]
    refine st (.bool (decide (a0 ≤ 57))) rfl rfl (xr_assign (.bool (decide (a0 ≤ 57))) rfl rfl) ?_
    simp only [ls0, ls1]
    refine wl_end ?_
    (try simp only [Act.put, List.setIfInBounds_toArray, ls0, ls1])
    refine hK222 _ _ ?_
    (try clear hK222 K222)
    refine wp_ret ?_
    (try simp only [Exit.inBlock, Exit.then, Exit.noGoto])
    (try simp only [Act.put, List.setIfInBounds_toArray, ls0, ls1])
    obtain rfl := Option.some.inj H
    refine bodyPost_ret (results_tmp rfl _ _ _) rfl ?_
    exact ⟨_, rfl, HS⟩
  · rw [if_neg c223] at H
    (try rw [(decide_eq_false c223)])
    (try simp only [Bool.not_true, Bool.not_false])
    refine sk_guard (guard_off 2 true 5 rfl rfl false (by decide) rfl) rfl ?_
    simp only [ls0, ls1]
    refine sk_guard (guard_off 2 true 5 rfl rfl false (by decide) rfl) rfl ?_
    simp only [ls0, ls1]
    refine st (.bool false) rfl rfl (xr_pick false (.bool false) rfl rfl rfl) ?_
    simp only [ls0, ls1]
    refine st (.bool false) rfl rfl (xr_assign (.bool false) rfl rfl) ?_
    simp only [ls0, ls1]
    refine wl_end ?_
    (try simp only [Act.put, List.setIfInBounds_toArray, ls0, ls1])
    refine hK222 _ _ ?_
    (try clear hK222 K222)
    refine wp_ret ?_
    (try simp only [Exit.inBlock, Exit.then, Exit.noGoto])
    (try simp only [Act.put, List.setIfInBounds_toArray, ls0, ls1])
    obtain rfl := Option.some.inj H
    refine bodyPost_ret (results_tmp rfl _ _ _) rfl ?_
    exact ⟨_, rfl, HS⟩

/-! ### lex_Ident_1: function 81 -/
def lex_Ident_1.f (a0 : Int) : Option (Bool) := (lex_letter.f a0).bind fun t232 => (if t232 = true then (some true) else ((lex_digit.f a0).bind fun t239 => (some t239)))
set_option maxHeartbeats 2000000 in
set_option maxRecDepth 100000 in
theorem lex_Ident_1.calls (a0 : Int) (r : Bool) (c : Nat → Nat) (w : World) (hc : ∀ k, c k < 10)  (H : lex_Ident_1.f a0 = some r) :
    Calls Try.prog 81 #[.int .u8 a0] w fun e w' => ∃ (c' : Nat → Nat) , e = .returned (.bool r) ∧ Step c w c' w' [] := by
  unfold lex_Ident_1.f at H
  have HS := Step.refl c w []
  go_enter Try.func81, Try.ntmps81
  refine wp_seq_k fun K230 hK230 => ?_
  refine wl_region ?_
  refine st (.bool false) rfl rfl (xr_assign (.bool false) rfl rfl) ?_
  simp only [ls0, ls1]
  refine wl_end ?_
  (try simp only [Act.put, List.setIfInBounds_toArray, ls0, ls1])
  refine hK230 _ _ ?_
  (try clear hK230 K230)
  refine wp_seq_k fun K231 hK231 => ?_
  refine wl_region ?_
  refine st (.int .u8 a0) rfl rfl (xr_move (.int .u8 a0) rfl rfl) ?_
  simp only [ls0, ls1]
  obtain ⟨t232, A233, H⟩ := Option.bind_eq_some_iff.mp H
  (try dsimp only at H)
  refine st_call #[.int .u8 a0] rfl rfl Try.func79 (by kernel_rfl) rfl rfl (by simp only [List.map_toArray, List.map_cons, List.map_nil]; first | done | rfl) ?_
  refine (lex_letter.calls a0 t232  (fun z_ => pal [(0, 0)] (c z_)) w (fun _ => pal_lt rfl _) A233).mono ?_
  rintro _ w235 ⟨C236, rfl, hs237⟩
  refine ⟨_, rfl, ?_⟩
  replace hs237 := Step.lift (U := [(0, 0)]) hs237 [] rfl rfl
  generalize up c C236 w.heap.size [(0, 0)] = C236_ at hs237
  replace HS := HS.trans hs237 hc rfl
  (try simp only [Act.put, List.setIfInBounds_toArray, ls0, ls1])
  refine st (.bool t232) rfl rfl (xr_move (.bool t232) rfl rfl) ?_
  simp only [ls0, ls1]
  by_cases c238 : t232 = true
  · rw [if_pos c238] at H
    (try rw [c238])
    (try simp only [Bool.not_true, Bool.not_false])
    refine sk_guard (guard_off 2 false 5 rfl rfl true (by decide) rfl) rfl ?_
    simp only [ls0, ls1]
    refine sk_guard (guard_off 2 false 5 rfl rfl true (by decide) rfl) rfl ?_
    simp only [ls0, ls1]
    refine st (.bool true) rfl rfl (xr_pick true (.bool true) rfl rfl rfl) ?_
    simp only [ls0, ls1]
    refine st (.bool true) rfl rfl (xr_assign (.bool true) rfl rfl) ?_
    simp only [ls0, ls1]
    refine wl_end ?_
    (try simp only [Act.put, List.setIfInBounds_toArray, ls0, ls1])
    refine hK231 _ _ ?_
    (try clear hK231 K231)
    refine wp_ret ?_
    (try simp only [Exit.inBlock, Exit.then, Exit.noGoto])
    (try simp only [Act.put, List.setIfInBounds_toArray, ls0, ls1])
    obtain rfl := Option.some.inj H
    refine bodyPost_ret (results_tmp rfl _ _ _) rfl ?_
    exact ⟨_, rfl, HS⟩
  · rw [if_neg c238] at H
    (try rw [(Bool.eq_false_iff.mpr c238)])
    (try simp only [Bool.not_true, Bool.not_false])
    refine on_guard (guard_on 2 false 5 rfl rfl rfl) ?_
    refine st (.int .u8 a0) rfl rfl (xr_move (.int .u8 a0) rfl rfl) ?_
    simp only [ls0, ls1]
    refine on_guard (guard_on 2 false 5 rfl rfl rfl) ?_
    obtain ⟨t239, A240, H⟩ := Option.bind_eq_some_iff.mp H
    (try dsimp only at H)
    refine st_call #[.int .u8 a0] rfl rfl Try.func82 (by kernel_rfl) rfl rfl (by simp only [List.map_toArray, List.map_cons, List.map_nil]; first | done | rfl) ?_
    refine (lex_digit.calls a0 t239  (fun z_ => pal [(0, 0)] (C236_ z_)) w235 (fun _ => pal_lt rfl _) A240).mono ?_
    rintro _ w242 ⟨C243, rfl, hs244⟩
    refine ⟨_, rfl, ?_⟩
    replace hs244 := Step.lift (U := [(0, 0)]) hs244 [] rfl rfl
    generalize up C236_ C243 w235.heap.size [(0, 0)] = C243_ at hs244
    replace HS := HS.trans hs244 hc rfl
    (try simp only [Act.put, List.setIfInBounds_toArray, ls0, ls1])
    refine st (.bool t239) rfl rfl (xr_pick false (.bool t239) rfl rfl rfl) ?_
    simp only [ls0, ls1]
    refine st (.bool t239) rfl rfl (xr_assign (.bool t239) rfl rfl) ?_
    simp only [ls0, ls1]
    refine wl_end ?_
    (try simp only [Act.put, List.setIfInBounds_toArray, ls0, ls1])
    refine hK231 _ _ ?_
    (try clear hK231 K231)
    refine wp_ret ?_
    (try simp only [Exit.inBlock, Exit.then, Exit.noGoto])
    (try simp only [Act.put, List.setIfInBounds_toArray, ls0, ls1])
    obtain rfl := Option.some.inj H
    refine bodyPost_ret (results_tmp rfl _ _ _) rfl ?_
    exact ⟨_, rfl, HS⟩

/-! ### lex_run_lex_Ident_1: function 80 -/
mutual
def lex_run_lex_Ident_1.j0 : Nat → (List Int) → Int → Bool → Option (Int)
  | 0, _, _, _ => none
  | k + 1, l0, x426, x454 => if x454 = true then (lex_run_lex_Ident_1.l0 k l0 (wrap64 (x426 + 1))) else (some x426)
def lex_run_lex_Ident_1.l0 : Nat → (List Int) → Int → Option (Int)
  | 0, _, _ => none
  | k + 1, l0, x426 => if x426 < (l0.length : Int) then (if 0 ≤ x426 then ((lex_Ident_1.f (rd l0 x426)).bind fun t465 => (lex_run_lex_Ident_1.j0 k l0 x426 t465)) else (none)) else (lex_run_lex_Ident_1.j0 k l0 x426 false)
end
def lex_run_lex_Ident_1.f (k : Nat) (l0 : List Int) : Option (Int) := lex_run_lex_Ident_1.l0 k l0 0

set_option maxHeartbeats 2000000 in
set_option maxRecDepth 100000 in
theorem lex_run_lex_Ident_1.calls (k : Nat) (A0 : Option Addr) (c0 : Nat) (l0 : List Int) (r : Int) (c : Nat → Nat) (w : World) (hc : ∀ k, c k < 10) (HP0 : Ft c [0] w (fun w_ => (Kd.int .u8).C w_ A0 l0.length l0)) (HCP0 : l0.length ≤ c0) (H : lex_run_lex_Ident_1.f k l0 = some r) :
    Calls Try.prog 80 #[.slice A0 l0.length c0, .func (.func 81) #[] #[]] w fun e w' => ∃ (c' : Nat → Nat) , e = .returned (.int .i64 r) ∧ Step c w c' w' [] := by
  unfold lex_run_lex_Ident_1.f at H
  have HS := Step.refl c w []
  go_enter Try.func80, Try.ntmps80
  refine wp_seq_k fun K353 hK353 => ?_
  refine wl_region ?_
  refine st (.int .i64 0) rfl rfl (xr_assign (.int .i64 0) rfl rfl) ?_
  simp only [ls0, ls1]
  refine wl_end ?_
  (try simp only [Act.put, List.setIfInBounds_toArray, ls0, ls1])
  refine hK353 _ _ ?_
  (try clear hK353 K353)
  refine wp_seq_k fun K354 hK354 => ?_
  refine wl_region ?_
  refine st (.int .i64 0) rfl rfl (xr_assign (.int .i64 0) rfl rfl) ?_
  simp only [ls0, ls1]
  refine wl_end ?_
  (try simp only [Act.put, List.setIfInBounds_toArray, ls0, ls1])
  refine hK354 _ _ ?_
  (try clear hK354 K354)
  refine wp_seq_k fun K355 hK355 => ?_
  refine wp_block ?_
  (try simp only [Act.put, List.setIfInBounds_toArray, ls0, ls1])
  refine wp_looped (looped_ind (fun kq430 a_ w429 => ∃ (C428 : Nat → Nat) (x426 : Int) (g427 : Nat → Value), a_ = ⟨#[.slice A0 l0.length c0, .func (.func 81) #[] #[], (g427 2), (g427 3), (g427 4), .int .i64 x426, (g427 6), (g427 7), (g427 8), (g427 9), (g427 10), (g427 11), (g427 12), (g427 13), (g427 14), (g427 15), (g427 16), (g427 17), (g427 18), (g427 19), (g427 20)], []⟩ ∧ Step c w C428 w429 [] ∧ kq430 ≤ k ∧ (Ft C428 [0] w429 (fun w_ => (Kd.int .u8).C w_ A0 l0.length l0)) ∧ lex_run_lex_Ident_1.l0 kq430 l0 x426 = some r) ?step k _ _ ?init)
  case init =>
    exact ⟨_, 0, (fun q_ => List.getD [undef, undef, undef, undef, .int .i64 0, undef, undef, undef, undef, undef, undef, undef, undef, undef, undef, undef, undef, undef, undef, undef, undef] q_ undef), rfl, HS, Nat.le_refl _, HP0, H⟩
  case step =>
    intro kq430 ih433 a434 w429 hr435
    obtain ⟨C428, x426, g427, rfl, HS431, hk432, HJ425, H⟩ := hr435
    refine looped_round ?_
    cases kq430 with
    | zero => exact absurd H (by simp [lex_run_lex_Ident_1.l0])
    | succ k436 =>
      simp only [lex_run_lex_Ident_1.l0] at H
      refine wp_seq_k fun K437 hK437 => ?_
      refine wp_seq_k fun K438 hK438 => ?_
      have hj449 : ∀ (kq456 : Nat) (C450 : Nat → Nat) (w451 : World) (x454 : Bool) (g455 : Nat → Value), Step c w C450 w451 [] → kq456 ≤ k436 → (Ft C450 [0] w451 (fun w_ => (Kd.int .u8).C w_ A0 l0.length l0)) → lex_run_lex_Ident_1.j0 kq456 l0 x426 x454 = some r → K438 ⟨#[.slice A0 l0.length c0, .func (.func 81) #[] #[], (g455 2), (g455 3), (g455 4), .int .i64 x426, (g455 6), (g455 7), (g455 8), (g455 9), (g455 10), (g455 11), (g455 12), (g455 13), (g455 14), (g455 15), (g455 16), .bool x454, (g455 18), (g455 19), (g455 20)], []⟩ w451 := by
        intro kq456 C450 w451 x454 g455 HS452 hk457 HJ453 H
        cases kq456 with
        | zero => exact absurd H (by simp [lex_run_lex_Ident_1.j0])
        | succ k458 =>
          simp only [lex_run_lex_Ident_1.j0] at H
          refine hK438 _ _ ?_
          (try clear hK438)
          by_cases c459 : x454 = true
          · rw [if_pos c459] at H
            (try rw [c459])
            (try simp only [Bool.not_true, Bool.not_false])
            refine wp_cond_true rfl ?_
            refine wp_skip ?_
            (try simp only [Act.put, List.setIfInBounds_toArray, ls0, ls1])
            refine hK437 _ _ ?_
            (try clear hK437 K437)
            refine wp_block ?_
            refine wl_region ?_
            refine st (.int .i64 x426) rfl rfl (xr_move (.int .i64 x426) rfl rfl) ?_
            simp only [ls0, ls1]
            refine st (.int .i64 (wrap64 (x426 + 1))) rfl rfl (xr_bin (.int .i64 x426) (.int .i64 1) (.int .i64 (wrap64 (x426 + 1))) rfl rfl rfl (B.add_i64 x426 1)) ?_
            simp only [ls0, ls1]
            refine st (.int .i64 (wrap64 (x426 + 1))) rfl rfl (xr_assign (.int .i64 (wrap64 (x426 + 1))) rfl rfl) ?_
            simp only [ls0, ls1]
            refine wl_end ?_
            (try simp only [Act.put, List.setIfInBounds_toArray, ls0, ls1])
            exact ih433 k458 (by omega) _ _ ⟨_, wrap64 (x426 + 1), (fun q_ => List.getD [undef, undef, (g455 2), (g455 3), (g455 4), undef, (g455 6), (g455 7), (g455 8), (g455 9), (g455 10), (g455 11), (g455 12), (g455 13), (g455 14), (g455 15), (g455 16), .bool true, .int .i64 x426, .int .i64 (wrap64 (x426 + 1)), (g455 20)] q_ undef), rfl, HS452, (by omega), HJ453, H⟩
          · rw [if_neg c459] at H
            (try rw [(Bool.eq_false_iff.mpr c459)])
            (try simp only [Bool.not_true, Bool.not_false])
            refine wp_cond_false rfl ?_
            refine wp_exit ?_
            (try simp only [Act.put, List.setIfInBounds_toArray, ls0, ls1])
            refine hK355 _ _ ?_
            (try clear hK355 K355)
            refine wp_seq_k fun K460 hK460 => ?_
            refine wl_region ?_
            refine st (.int .i64 x426) rfl rfl (xr_move (.int .i64 x426) rfl rfl) ?_
            simp only [ls0, ls1]
            refine st (.int .i64 x426) rfl rfl (xr_assign (.int .i64 x426) rfl rfl) ?_
            simp only [ls0, ls1]
            refine wl_end ?_
            (try simp only [Act.put, List.setIfInBounds_toArray, ls0, ls1])
            refine hK460 _ _ ?_
            (try clear hK460 K460)
            refine wp_ret ?_
            (try simp only [Exit.inBlock, Exit.then, Exit.noGoto])
            (try simp only [Act.put, List.setIfInBounds_toArray, ls0, ls1])
            obtain rfl := Option.some.inj H
            refine bodyPost_ret (results_tmp rfl _ _ _) rfl ?_
            exact ⟨_, rfl, HS452⟩
      refine wl_region ?_
      refine st (.int .i64 x426) rfl rfl (xr_move (.int .i64 x426) rfl rfl) ?_
      simp only [ls0, ls1]
      refine st (.slice A0 l0.length c0) rfl rfl (xr_move (.slice A0 l0.length c0) rfl rfl) ?_
      simp only [ls0, ls1]
      refine st (.int .i64 (l0.length : Int)) rfl rfl (xr_builtin #[.slice A0 l0.length c0] (.int .i64 (l0.length : Int)) rfl (by simp only [List.map_toArray, List.map_cons, List.map_nil]; first | done | rfl) (by first | rfl | (go_simp; done) | (go_simp; rfl) | (go_simp; exact i64_w _) | (go_simp; exact i32_w _))) ?_
      simp only [ls0, ls1]
      refine st (.bool (decide (x426 < (l0.length : Int)))) rfl rfl (xr_bin (.int .i64 x426) (.int .i64 (l0.length : Int)) (.bool (decide (x426 < (l0.length : Int)))) rfl rfl rfl (B.lss_i64 x426 (l0.length : Int))) ?_
      simp only [ls0, ls1]
      refine st (.bool (decide (x426 < (l0.length : Int)))) rfl rfl (xr_move (.bool (decide (x426 < (l0.length : Int)))) rfl rfl) ?_
      simp only [ls0, ls1]
      by_cases c461 : x426 < (l0.length : Int)
      · rw [if_pos c461] at H
        (try rw [(decide_eq_true c461)])
        (try simp only [Bool.not_true, Bool.not_false])
        refine on_guard (guard_on 4 true 10 rfl rfl rfl) ?_
        refine st (.func (.func 81) #[] #[]) rfl rfl (xr_move (.func (.func 81) #[] #[]) rfl rfl) ?_
        simp only [ls0, ls1]
        refine on_guard (guard_on 4 true 10 rfl rfl rfl) ?_
        refine st (.slice A0 l0.length c0) rfl rfl (xr_move (.slice A0 l0.length c0) rfl rfl) ?_
        simp only [ls0, ls1]
        refine on_guard (guard_on 4 true 10 rfl rfl rfl) ?_
        refine st (.int .i64 x426) rfl rfl (xr_move (.int .i64 x426) rfl rfl) ?_
        simp only [ls0, ls1]
        refine on_guard (guard_on 4 true 10 rfl rfl rfl) ?_
        by_cases c462 : 0 ≤ x426
        · rw [if_pos c462] at H
          obtain ⟨ad463, hA464⟩ := c_addr (Ft.now HJ425) (pos_of (j := x426) (by first | assumption | decide) (by first | assumption | omega))
          refine st (.pointer (some (ad463.add ((x426 : Int).toNat * 1)))) rfl rfl (xr_indexAddr (.slice A0 l0.length c0) (.int .i64 x426) (.pointer (some (ad463.add ((x426 : Int).toNat * 1)))) rfl rfl rfl (index_at Try.underlying23 info5 hA464 (by first | assumption | decide | omega) (by first | assumption | decide | omega))) ?_
          simp only [ls0, ls1]
          refine on_guard (guard_on 4 true 10 rfl rfl rfl) ?_
          refine st (.int .u8 (rd l0 x426)) rfl rfl (xr_load (.pointer (some (ad463.add ((x426 : Int).toNat * 1)))) (.int .u8 (rd l0 x426)) rfl rfl (load_int Try.underlying5 rfl hA464 (Ft.now HJ425) (by first | assumption | decide | omega) (by first | assumption | decide | omega))) ?_
          simp only [ls0, ls1]
          refine on_guard (guard_on 4 true 10 rfl rfl rfl) ?_
          obtain ⟨t465, A466, H⟩ := Option.bind_eq_some_iff.mp H
          (try dsimp only at H)
          refine st_callV #[.int .u8 (rd l0 x426)] #[] #[.int .u8 (rd l0 x426)] rfl rfl Try.func81 (by kernel_rfl) rfl rfl rfl (by simp only [List.map_toArray, List.map_cons, List.map_nil]; first | done | rfl) (by rfl) ?_
          refine (lex_Ident_1.calls (rd l0 x426) t465  (fun z_ => pal [(0, 0)] (C428 z_)) w429 (fun _ => pal_lt rfl _) A466).mono ?_
          rintro _ w468 ⟨C469, rfl, hs470⟩
          refine ⟨_, rfl, ?_⟩
          replace hs470 := Step.lift (U := [(0, 0)]) hs470 [] rfl rfl
          generalize up C428 C469 w429.heap.size [(0, 0)] = C469_ at hs470
          replace HJ425 := HJ425.thru hs470 rfl
          replace HS431 := HS431.trans hs470 hc rfl
          (try simp only [Act.put, List.setIfInBounds_toArray, ls0, ls1])
          refine st (.bool t465) rfl rfl (xr_pick true (.bool t465) rfl rfl rfl) ?_
          simp only [ls0, ls1]
          refine wl_end ?_
          (try simp only [Act.put, List.setIfInBounds_toArray, ls0, ls1])
          exact hj449 _ _ _ (t465) (fun q_ => List.getD [undef, undef, (g427 2), (g427 3), (g427 4), undef, .int .i64 x426, .slice A0 l0.length c0, .int .i64 (l0.length : Int), .bool true, .bool true, .func (.func 81) #[] #[], .slice A0 l0.length c0, .int .i64 x426, .pointer (some (ad463.add ((x426 : Int).toNat * 1))), .int .u8 (rd l0 x426), .bool t465, undef, (g427 18), (g427 19), (g427 20)] q_ undef)  HS431 (by omega) HJ425 H
        · rw [if_neg c462] at H
          exact absurd H (by simp)
      · rw [if_neg c461] at H
        (try rw [(decide_eq_false c461)])
        (try simp only [Bool.not_true, Bool.not_false])
        refine sk_guard (guard_off 4 true 10 rfl rfl false (by decide) rfl) rfl ?_
        simp only [ls0, ls1]
        refine sk_guard (guard_off 4 true 10 rfl rfl false (by decide) rfl) rfl ?_
        simp only [ls0, ls1]
        refine sk_guard (guard_off 4 true 10 rfl rfl false (by decide) rfl) rfl ?_
        simp only [ls0, ls1]
        refine sk_guard (guard_off 4 true 10 rfl rfl false (by decide) rfl) rfl ?_
        simp only [ls0, ls1]
        refine sk_guard (guard_off 4 true 10 rfl rfl false (by decide) rfl) rfl ?_
        simp only [ls0, ls1]
        refine sk_guard (guard_off 4 true 10 rfl rfl false (by decide) rfl) rfl ?_
        simp only [ls0, ls1]
        refine st (.bool false) rfl rfl (xr_pick false (.bool false) rfl rfl rfl) ?_
        simp only [ls0, ls1]
        refine wl_end ?_
        (try simp only [Act.put, List.setIfInBounds_toArray, ls0, ls1])
        exact hj449 _ _ _ (false) (fun q_ => List.getD [undef, undef, (g427 2), (g427 3), (g427 4), undef, .int .i64 x426, .slice A0 l0.length c0, .int .i64 (l0.length : Int), .bool false, .bool false, undef, undef, undef, undef, undef, undef, undef, (g427 18), (g427 19), (g427 20)] q_ undef)  HS431 (by omega) HJ425 H

/-! ### lex_Ident: function 47 -/
def lex_Ident.j0 : Nat → ByteArray → Bool → Option (Bool)
  | 0, _, _ => none
  | k + 1, a0, x557 => if x557 = true then (some false) else (if a0.size ≤ 9223372036854775807 then ((some (bytesOf a0 : List Int)).bind fun y566 => ((lex_run_lex_Ident_1.f k y566).bind fun t575 => (some (decide (t575 = (a0.size : Int)))))) else (none))
def lex_Ident.f (k : Nat) (a0 : ByteArray) : Option (Bool) := if a0 = (⟨#[]⟩ : ByteArray) then (lex_Ident.j0 k a0 true) else (if (a0.size : Int) > 24 then (lex_Ident.j0 k a0 true) else ((lex_Keyword.f a0).bind fun t583 => (if t583 = true then (lex_Ident.j0 k a0 true) else (if 0 < (a0.size : Int) then ((lex_letter.f (bt a0 0)).bind fun t591 => (lex_Ident.j0 k a0 (!t591))) else (none)))))

set_option maxHeartbeats 2000000 in
set_option maxRecDepth 100000 in
theorem lex_Ident.calls (k : Nat) (a0 : ByteArray) (r : Bool) (c : Nat → Nat) (w : World) (hc : ∀ k, c k < 10)  (H : lex_Ident.f k a0 = some r) :
    Calls Try.prog 47 #[.string a0] w fun e w' => ∃ (c' : Nat → Nat) , e = .returned (.bool r) ∧ Step c w c' w' [] := by
  unfold lex_Ident.f at H
  have HS := Step.refl c w []
  go_enter Try.func47, Try.ntmps47
  refine wp_seq_k fun K534 hK534 => ?_
  refine wl_region ?_
  refine st (.bool false) rfl rfl (xr_assign (.bool false) rfl rfl) ?_
  simp only [ls0, ls1]
  refine wl_end ?_
  (try simp only [Act.put, List.setIfInBounds_toArray, ls0, ls1])
  refine hK534 _ _ ?_
  (try clear hK534 K534)
  refine wp_seq_k fun K535 hK535 => ?_
  refine wp_seq_k fun K536 hK536 => ?_
  have hj553 : ∀ (kq559 : Nat) (C554 : Nat → Nat) (w555 : World) (x557 : Bool) (g558 : Nat → Value), Step c w C554 w555 [] → kq559 ≤ k → lex_Ident.j0 kq559 a0 x557 = some r → K536 ⟨#[.string a0, (g558 1), (g558 2), (g558 3), (g558 4), (g558 5), (g558 6), (g558 7), (g558 8), (g558 9), (g558 10), (g558 11), (g558 12), (g558 13), (g558 14), (g558 15), (g558 16), (g558 17), (g558 18), .bool x557, (g558 20), (g558 21), (g558 22), (g558 23), (g558 24), (g558 25)], []⟩ w555 := by
    intro kq559 C554 w555 x557 g558 HS556 hk560  H
    cases kq559 with
    | zero => exact absurd H (by simp [lex_Ident.j0])
    | succ k561 =>
      simp only [lex_Ident.j0] at H
      refine hK536 _ _ ?_
      (try clear hK536)
      by_cases c562 : x557 = true
      · rw [if_pos c562] at H
        (try rw [c562])
        (try simp only [Bool.not_true, Bool.not_false])
        refine wp_cond_true rfl ?_
        refine wp_seq_k fun K563 hK563 => ?_
        refine wl_region ?_
        refine st (.bool false) rfl rfl (xr_assign (.bool false) rfl rfl) ?_
        simp only [ls0, ls1]
        refine wl_end ?_
        (try simp only [Act.put, List.setIfInBounds_toArray, ls0, ls1])
        refine hK563 _ _ ?_
        (try clear hK563 K563)
        refine wp_ret ?_
        (try simp only [Exit.inBlock, Exit.then, Exit.noGoto])
        (try simp only [Act.put, List.setIfInBounds_toArray, ls0, ls1])
        obtain rfl := Option.some.inj H
        refine bodyPost_ret (results_tmp rfl _ _ _) rfl ?_
        exact ⟨_, rfl, HS556⟩
      · rw [if_neg c562] at H
        (try rw [(Bool.eq_false_iff.mpr c562)])
        (try simp only [Bool.not_true, Bool.not_false])
        refine wp_cond_false rfl ?_
        refine wp_skip ?_
        (try simp only [Act.put, List.setIfInBounds_toArray, ls0, ls1])
        refine hK535 _ _ ?_
        (try clear hK535 K535)
        refine wp_seq_k fun K564 hK564 => ?_
        refine wl_region ?_
        refine st (.string a0) rfl rfl (xr_move (.string a0) rfl rfl) ?_
        simp only [ls0, ls1]
        by_cases c565 : a0.size ≤ 9223372036854775807
        · rw [if_pos c565] at H
          obtain ⟨y566, A567, H⟩ := Option.bind_eq_some_iff.mp H
          (try dsimp only at H)
          refine own_conv (C := C554) (i := 0) 5 rfl rfl 9 23 _ rfl a0 rfl Try.underlying9 Try.underlying23 Try.underlying5 (by assumption) 11 (Option.some.inj A567) ?_
          intro A568 cp569 w570 C571 HR572 HC573 hs574
          replace HS556 := HS556.trans hs574 hc rfl
          (try simp only [Act.put, List.setIfInBounds_toArray, ls0, ls1])
          obtain ⟨t575, A576, H⟩ := Option.bind_eq_some_iff.mp H
          (try dsimp only at H)
          refine st_call #[.slice A568 y566.length cp569, .func (.func 81) #[] #[]] rfl rfl Try.func80 (by kernel_rfl) rfl rfl (by simp only [List.map_toArray, List.map_cons, List.map_nil]; first | done | rfl) ?_
          refine (lex_run_lex_Ident_1.calls k561 A568 cp569 y566 t575  (fun z_ => pal [(0, 0), (11, 0)] (C571 z_)) w570 (fun _ => pal_lt rfl _) (Ft.arg HR572 rfl) HC573 A576).mono ?_
          rintro _ w578 ⟨C579, rfl, hs580⟩
          refine ⟨_, rfl, ?_⟩
          replace hs580 := Step.lift (U := [(0, 0)]) hs580 [] rfl rfl
          generalize up C571 C579 w570.heap.size [(0, 0)] = C579_ at hs580
          replace HS556 := HS556.trans hs580 hc rfl
          (try simp only [Act.put, List.setIfInBounds_toArray, ls0, ls1])
          refine st (.string a0) rfl rfl (xr_move (.string a0) rfl rfl) ?_
          simp only [ls0, ls1]
          refine st (.int .i64 (a0.size : Int)) rfl rfl (xr_builtin #[.string a0] (.int .i64 (a0.size : Int)) rfl (by simp only [List.map_toArray, List.map_cons, List.map_nil]; first | done | rfl) (by first | rfl | (go_simp; done) | (go_simp; rfl) | (go_simp; exact i64_w _) | (go_simp; exact i32_w _))) ?_
          simp only [ls0, ls1]
          refine st (.bool (decide (t575 = (a0.size : Int)))) rfl rfl (xr_bin (.int .i64 t575) (.int .i64 (a0.size : Int)) (.bool (decide (t575 = (a0.size : Int)))) rfl rfl rfl (B.eql_i64 t575 (a0.size : Int))) ?_
          simp only [ls0, ls1]
          refine st (.bool (decide (t575 = (a0.size : Int)))) rfl rfl (xr_assign (.bool (decide (t575 = (a0.size : Int)))) rfl rfl) ?_
          simp only [ls0, ls1]
          refine wl_end ?_
          (try simp only [Act.put, List.setIfInBounds_toArray, ls0, ls1])
          refine hK564 _ _ ?_
          (try clear hK564 K564)
          refine wp_ret ?_
          (try simp only [Exit.inBlock, Exit.then, Exit.noGoto])
          (try simp only [Act.put, List.setIfInBounds_toArray, ls0, ls1])
          obtain rfl := Option.some.inj H
          refine bodyPost_ret (results_tmp rfl _ _ _) rfl ?_
          exact ⟨_, rfl, HS556⟩
        · rw [if_neg c565] at H
          exact absurd H (by simp)
  refine wl_region ?_
  refine st (.string a0) rfl rfl (xr_move (.string a0) rfl rfl) ?_
  simp only [ls0, ls1]
  refine st (.bool (decide (a0 = (⟨#[]⟩ : ByteArray)))) rfl rfl (xr_bin (.string a0) (.string (⟨#[]⟩ : ByteArray)) (.bool (decide (a0 = (⟨#[]⟩ : ByteArray)))) rfl rfl rfl (B.eql_str a0 (⟨#[]⟩ : ByteArray))) ?_
  simp only [ls0, ls1]
  refine st (.bool (decide (a0 = (⟨#[]⟩ : ByteArray)))) rfl rfl (xr_move (.bool (decide (a0 = (⟨#[]⟩ : ByteArray)))) rfl rfl) ?_
  simp only [ls0, ls1]
  by_cases c581 : a0 = (⟨#[]⟩ : ByteArray)
  · rw [if_pos c581] at H
    (try rw [(decide_eq_true c581)])
    (try simp only [Bool.not_true, Bool.not_false])
    refine sk_guard (guard_off 2 false 5 rfl rfl true (by decide) rfl) rfl ?_
    simp only [ls0, ls1]
    refine sk_guard (guard_off 2 false 5 rfl rfl true (by decide) rfl) rfl ?_
    simp only [ls0, ls1]
    refine sk_guard (guard_off 2 false 5 rfl rfl true (by decide) rfl) rfl ?_
    simp only [ls0, ls1]
    refine st (.bool true) rfl rfl (xr_pick true (.bool true) rfl rfl rfl) ?_
    simp only [ls0, ls1]
    refine st (.bool true) rfl rfl (xr_move (.bool true) rfl rfl) ?_
    simp only [ls0, ls1]
    refine sk_guard (guard_off 7 false 10 rfl rfl true (by decide) rfl) rfl ?_
    simp only [ls0, ls1]
    refine sk_guard (guard_off 7 false 10 rfl rfl true (by decide) rfl) rfl ?_
    simp only [ls0, ls1]
    refine st (.bool true) rfl rfl (xr_pick true (.bool true) rfl rfl rfl) ?_
    simp only [ls0, ls1]
    refine st (.bool true) rfl rfl (xr_move (.bool true) rfl rfl) ?_
    simp only [ls0, ls1]
    refine sk_guard (guard_off 11 false 14 rfl rfl true (by decide) rfl) rfl ?_
    simp only [ls0, ls1]
    refine sk_guard (guard_off 11 false 14 rfl rfl true (by decide) rfl) rfl ?_
    simp only [ls0, ls1]
    refine sk_guard (guard_off 11 false 14 rfl rfl true (by decide) rfl) rfl ?_
    simp only [ls0, ls1]
    refine sk_guard (guard_off 11 false 14 rfl rfl true (by decide) rfl) rfl ?_
    simp only [ls0, ls1]
    refine st (.bool true) rfl rfl (xr_pick true (.bool true) rfl rfl rfl) ?_
    simp only [ls0, ls1]
    refine wl_end ?_
    (try simp only [Act.put, List.setIfInBounds_toArray, ls0, ls1])
    exact hj553 _ _ _ (true) (fun q_ => List.getD [undef, undef, .bool false, .string a0, .bool true, .bool true, undef, undef, undef, .bool true, .bool true, undef, undef, .bool true, .bool true, undef, undef, undef, undef, undef, undef, undef, undef, undef, undef, undef] q_ undef)  HS (by omega) H
  · rw [if_neg c581] at H
    (try rw [(decide_eq_false c581)])
    (try simp only [Bool.not_true, Bool.not_false])
    refine on_guard (guard_on 2 false 5 rfl rfl rfl) ?_
    refine st (.string a0) rfl rfl (xr_move (.string a0) rfl rfl) ?_
    simp only [ls0, ls1]
    refine on_guard (guard_on 2 false 5 rfl rfl rfl) ?_
    refine st (.int .i64 (a0.size : Int)) rfl rfl (xr_builtin #[.string a0] (.int .i64 (a0.size : Int)) rfl (by simp only [List.map_toArray, List.map_cons, List.map_nil]; first | done | rfl) (by first | rfl | (go_simp; done) | (go_simp; rfl) | (go_simp; exact i64_w _) | (go_simp; exact i32_w _))) ?_
    simp only [ls0, ls1]
    refine on_guard (guard_on 2 false 5 rfl rfl rfl) ?_
    refine st (.bool (decide ((a0.size : Int) > 24))) rfl rfl (xr_bin (.int .i64 (a0.size : Int)) (.int .i64 24) (.bool (decide ((a0.size : Int) > 24))) rfl rfl rfl (B.gtr_i64 (a0.size : Int) 24)) ?_
    simp only [ls0, ls1]
    refine st (.bool (decide ((a0.size : Int) > 24))) rfl rfl (xr_pick false (.bool (decide ((a0.size : Int) > 24))) rfl rfl rfl) ?_
    simp only [ls0, ls1]
    refine st (.bool (decide ((a0.size : Int) > 24))) rfl rfl (xr_move (.bool (decide ((a0.size : Int) > 24))) rfl rfl) ?_
    simp only [ls0, ls1]
    by_cases c582 : (a0.size : Int) > 24
    · rw [if_pos c582] at H
      (try rw [(decide_eq_true c582)])
      (try simp only [Bool.not_true, Bool.not_false])
      refine sk_guard (guard_off 7 false 10 rfl rfl true (by decide) rfl) rfl ?_
      simp only [ls0, ls1]
      refine sk_guard (guard_off 7 false 10 rfl rfl true (by decide) rfl) rfl ?_
      simp only [ls0, ls1]
      refine st (.bool true) rfl rfl (xr_pick true (.bool true) rfl rfl rfl) ?_
      simp only [ls0, ls1]
      refine st (.bool true) rfl rfl (xr_move (.bool true) rfl rfl) ?_
      simp only [ls0, ls1]
      refine sk_guard (guard_off 11 false 14 rfl rfl true (by decide) rfl) rfl ?_
      simp only [ls0, ls1]
      refine sk_guard (guard_off 11 false 14 rfl rfl true (by decide) rfl) rfl ?_
      simp only [ls0, ls1]
      refine sk_guard (guard_off 11 false 14 rfl rfl true (by decide) rfl) rfl ?_
      simp only [ls0, ls1]
      refine sk_guard (guard_off 11 false 14 rfl rfl true (by decide) rfl) rfl ?_
      simp only [ls0, ls1]
      refine st (.bool true) rfl rfl (xr_pick true (.bool true) rfl rfl rfl) ?_
      simp only [ls0, ls1]
      refine wl_end ?_
      (try simp only [Act.put, List.setIfInBounds_toArray, ls0, ls1])
      exact hj553 _ _ _ (true) (fun q_ => List.getD [undef, undef, .bool false, .string a0, .bool false, .bool false, .string a0, .int .i64 (a0.size : Int), .bool true, .bool true, .bool true, undef, undef, .bool true, .bool true, undef, undef, undef, undef, undef, undef, undef, undef, undef, undef, undef] q_ undef)  HS (by omega) H
    · rw [if_neg c582] at H
      (try rw [(decide_eq_false c582)])
      (try simp only [Bool.not_true, Bool.not_false])
      refine on_guard (guard_on 7 false 10 rfl rfl rfl) ?_
      refine st (.string a0) rfl rfl (xr_move (.string a0) rfl rfl) ?_
      simp only [ls0, ls1]
      refine on_guard (guard_on 7 false 10 rfl rfl rfl) ?_
      obtain ⟨t583, A584, H⟩ := Option.bind_eq_some_iff.mp H
      (try dsimp only at H)
      refine st_call #[.string a0] rfl rfl Try.func78 (by kernel_rfl) rfl rfl (by simp only [List.map_toArray, List.map_cons, List.map_nil]; first | done | rfl) ?_
      refine (lex_Keyword.calls a0 t583  (fun z_ => pal [(0, 0)] (c z_)) w (fun _ => pal_lt rfl _) A584).mono ?_
      rintro _ w586 ⟨C587, rfl, hs588⟩
      refine ⟨_, rfl, ?_⟩
      replace hs588 := Step.lift (U := [(0, 0)]) hs588 [] rfl rfl
      generalize up c C587 w.heap.size [(0, 0)] = C587_ at hs588
      replace HS := HS.trans hs588 hc rfl
      (try simp only [Act.put, List.setIfInBounds_toArray, ls0, ls1])
      refine st (.bool t583) rfl rfl (xr_pick false (.bool t583) rfl rfl rfl) ?_
      simp only [ls0, ls1]
      refine st (.bool t583) rfl rfl (xr_move (.bool t583) rfl rfl) ?_
      simp only [ls0, ls1]
      by_cases c589 : t583 = true
      · rw [if_pos c589] at H
        (try rw [c589])
        (try simp only [Bool.not_true, Bool.not_false])
        refine sk_guard (guard_off 11 false 14 rfl rfl true (by decide) rfl) rfl ?_
        simp only [ls0, ls1]
        refine sk_guard (guard_off 11 false 14 rfl rfl true (by decide) rfl) rfl ?_
        simp only [ls0, ls1]
        refine sk_guard (guard_off 11 false 14 rfl rfl true (by decide) rfl) rfl ?_
        simp only [ls0, ls1]
        refine sk_guard (guard_off 11 false 14 rfl rfl true (by decide) rfl) rfl ?_
        simp only [ls0, ls1]
        refine st (.bool true) rfl rfl (xr_pick true (.bool true) rfl rfl rfl) ?_
        simp only [ls0, ls1]
        refine wl_end ?_
        (try simp only [Act.put, List.setIfInBounds_toArray, ls0, ls1])
        exact hj553 _ _ _ (true) (fun q_ => List.getD [undef, undef, .bool false, .string a0, .bool false, .bool false, .string a0, .int .i64 (a0.size : Int), .bool false, .bool false, .bool false, .string a0, .bool true, .bool true, .bool true, undef, undef, undef, undef, undef, undef, undef, undef, undef, undef, undef] q_ undef)  HS (by omega) H
      · rw [if_neg c589] at H
        (try rw [(Bool.eq_false_iff.mpr c589)])
        (try simp only [Bool.not_true, Bool.not_false])
        refine on_guard (guard_on 11 false 14 rfl rfl rfl) ?_
        refine st (.string a0) rfl rfl (xr_move (.string a0) rfl rfl) ?_
        simp only [ls0, ls1]
        refine on_guard (guard_on 11 false 14 rfl rfl rfl) ?_
        by_cases c590 : 0 < (a0.size : Int)
        · rw [if_pos c590] at H
          refine st (.int .u8 (bt a0 0)) rfl rfl (xr_index (.string a0) (.int .i64 0) (.int .u8 (bt a0 0)) rfl rfl rfl (index_str Try.underlying9 (by first | assumption | decide | omega) (by first | assumption | decide | omega))) ?_
          simp only [ls0, ls1]
          refine on_guard (guard_on 11 false 14 rfl rfl rfl) ?_
          obtain ⟨t591, A592, H⟩ := Option.bind_eq_some_iff.mp H
          (try dsimp only at H)
          refine st_call #[.int .u8 (bt a0 0)] rfl rfl Try.func79 (by kernel_rfl) rfl rfl (by simp only [List.map_toArray, List.map_cons, List.map_nil]; first | done | rfl) ?_
          refine (lex_letter.calls (bt a0 0) t591  (fun z_ => pal [(0, 0)] (C587_ z_)) w586 (fun _ => pal_lt rfl _) A592).mono ?_
          rintro _ w594 ⟨C595, rfl, hs596⟩
          refine ⟨_, rfl, ?_⟩
          replace hs596 := Step.lift (U := [(0, 0)]) hs596 [] rfl rfl
          generalize up C587_ C595 w586.heap.size [(0, 0)] = C595_ at hs596
          replace HS := HS.trans hs596 hc rfl
          (try simp only [Act.put, List.setIfInBounds_toArray, ls0, ls1])
          refine on_guard (guard_on 11 false 14 rfl rfl rfl) ?_
          refine st (.bool (!t591)) rfl rfl (xr_un (.bool t591) (.bool (!t591)) rfl rfl (by first | rfl | (go_simp; done) | (go_simp; rfl) | (go_simp; exact i64_w _) | (go_simp; exact i32_w _))) ?_
          simp only [ls0, ls1]
          refine st (.bool (!t591)) rfl rfl (xr_pick false (.bool (!t591)) rfl rfl rfl) ?_
          simp only [ls0, ls1]
          refine wl_end ?_
          (try simp only [Act.put, List.setIfInBounds_toArray, ls0, ls1])
          exact hj553 _ _ _ (!t591) (fun q_ => List.getD [undef, undef, .bool false, .string a0, .bool false, .bool false, .string a0, .int .i64 (a0.size : Int), .bool false, .bool false, .bool false, .string a0, .bool false, .bool false, .bool false, .string a0, .int .u8 (bt a0 0), .bool t591, .bool (!t591), undef, undef, undef, undef, undef, undef, undef] q_ undef)  HS (by omega) H
        · rw [if_neg c590] at H
          exact absurd H (by simp)

end Go.Proofs.Ytnhcpdepjpfcfaa.PRow
