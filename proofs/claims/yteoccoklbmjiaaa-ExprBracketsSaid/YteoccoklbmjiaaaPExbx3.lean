-- By cprint.py, a program of this work. Lean checks it.
import Derived.Test.YteoccoklbmjiaaaPExbx0
import Derived.Test.YteoccoklbmjiaaaPExbx1
import Derived.Test.YteoccoklbmjiaaaPExbx2
namespace Go.Proofs.Yteoccoklbmjiaaa.PExb
open Go.RowKit Go.Proofs.YteoccoklbmjiaaaW.PrintWords Go.Proofs.YteoccoklbmjiaaaW.PrintLast Go.Proofs.YteoccoklbmjiaaaW.PrintMore
set_option linter.unusedVariables false
set_option linter.unusedSimpArgs false

/-! ### expr_level: function 103 -/
def expr_level.j0 (a0 : ByteArray) (x70 : Bool) : Option (Int) := if x70 = true then (some 4) else (if a0 = (⟨#[42]⟩ : ByteArray) then (some 5) else (some 0))
def expr_level.j1 (a0 : ByteArray) (x58 : Bool) : Option (Int) := if x58 = true then (some 3) else (if a0 = (⟨#[43]⟩ : ByteArray) then (expr_level.j0 a0 true) else (expr_level.j0 a0 (decide (a0 = (⟨#[45]⟩ : ByteArray)))))
def expr_level.f (a0 : ByteArray) : Option (Int) := if a0 = (⟨#[124, 124]⟩ : ByteArray) then (some 1) else (if a0 = (⟨#[38, 38]⟩ : ByteArray) then (some 2) else (if a0 = (⟨#[61, 61]⟩ : ByteArray) then (expr_level.j1 a0 true) else (expr_level.j1 a0 (decide (a0 = (⟨#[60]⟩ : ByteArray))))))
set_option maxHeartbeats 8000000 in
set_option maxRecDepth 100000 in
theorem expr_level.calls (a0 : ByteArray) (r : Int) (c : Nat → Nat) (w : World) (hc : ∀ k, c k < 10)  (H : expr_level.f a0 = some r) :
    Calls Try.prog 103 #[.string a0] w fun e w' => ∃ (c' : Nat → Nat) , e = .returned (.int .i64 r) ∧ Step c w c' w' [] := by
 unfold expr_level.f at H
 have HS := Step.refl c w []
 go_enter Try.func103, Try.ntmps103
 refine wp_seq_k fun K42 hK42 => ?_
 refine wl_region ?_
 refine st (.int .i64 0) rfl rfl (xr_assign _ rfl rfl) ?_
 refine wl_end ?_
 (try simp only [ls0, ls1])
 refine hK42 _ _ ?_
 (try clear hK42 K42)
 refine wp_seq_k fun K43 hK43 => ?_
 refine wp_seq_k fun K44 hK44 => ?_
 refine wl_region ?_
 refine mv_ rfl ?_
 refine wl_end ?_
 (try simp only [ls0, ls1])
 refine hK44 _ _ ?_
 (try clear hK44 K44)
 refine wp_block ?_
 refine wp_seq_k fun K45 hK45 => ?_
 refine wl_region ?_
 refine st (.bool (decide (a0 = (⟨#[124, 124]⟩ : ByteArray)))) rfl rfl (xr_bin _ _ _ rfl rfl rfl (B.eql_str _ _)) ?_
 refine as_ rfl ?_
 refine wl_end ?_
 (try simp only [ls0, ls1])
 refine hK45 _ _ ?_
 (try clear hK45 K45)
 by_cases c46 : a0 = (⟨#[124, 124]⟩ : ByteArray)
 ·rw [if_pos c46] at H
  (try rw [(decide_eq_true c46)])
  refine wp_cond_true rfl ?_
  refine wp_seq_k fun K47 hK47 => ?_
  refine wl_region ?_
  refine st (.int .i64 1) rfl rfl (xr_assign _ rfl rfl) ?_
  refine wl_end ?_
  (try simp only [ls0, ls1])
  refine hK47 _ _ ?_
  (try clear hK47 K47)
  refine wp_ret ?_
  (try simp only [Exit.inBlock, Exit.then, Exit.noGoto])
  (try simp only [ls0, ls1])
  obtain rfl := Option.some.inj H
  refine bodyPost_ret (results_tmp rfl _ _ _) rfl ?_
  exact ⟨_, rfl, HS⟩
 rw [if_neg c46] at H
 (try rw [(decide_eq_false c46)])
 refine wp_cond_false rfl ?_
 refine wp_seq_k fun K48 hK48 => ?_
 refine wl_region ?_
 refine st (.bool (decide (a0 = (⟨#[38, 38]⟩ : ByteArray)))) rfl rfl (xr_bin _ _ _ rfl rfl rfl (B.eql_str _ _)) ?_
 refine as_ rfl ?_
 refine wl_end ?_
 (try simp only [ls0, ls1])
 refine hK48 _ _ ?_
 (try clear hK48 K48)
 by_cases c49 : a0 = (⟨#[38, 38]⟩ : ByteArray)
 ·rw [if_pos c49] at H
  (try rw [(decide_eq_true c49)])
  refine wp_cond_true rfl ?_
  refine wp_seq_k fun K50 hK50 => ?_
  refine wl_region ?_
  refine st (.int .i64 2) rfl rfl (xr_assign _ rfl rfl) ?_
  refine wl_end ?_
  (try simp only [ls0, ls1])
  refine hK50 _ _ ?_
  (try clear hK50 K50)
  refine wp_ret ?_
  (try simp only [Exit.inBlock, Exit.then, Exit.noGoto])
  (try simp only [ls0, ls1])
  obtain rfl := Option.some.inj H
  refine bodyPost_ret (results_tmp rfl _ _ _) rfl ?_
  exact ⟨_, rfl, HS⟩
 rw [if_neg c49] at H
 (try rw [(decide_eq_false c49)])
 refine wp_cond_false rfl ?_
 refine wp_seq_k fun K51 hK51 => ?_
 have hj54 : ∀ (C55 : Nat → Nat) (w56 : World) (x58 : Bool) (g_ : Nat → Value), Step c w C55 w56 [] → expr_level.j1 a0 x58 = some r → K51 ⟨#[(g_ 0), (g_ 1), (g_ 2), .string a0, (g_ 4), (g_ 5), (g_ 6), (g_ 7), .bool x58, (g_ 9), (g_ 10), (g_ 11), (g_ 12), (g_ 13), (g_ 14), (g_ 15)], []⟩ w56 := by
  intro C55 w56 x58 g_ HS57  H
  unfold expr_level.j1 at H
  refine hK51 _ _ ?_
  (try clear hK51)
  by_cases c61 : x58 = true
  ·rw [if_pos c61] at H
   (try rw [c61])
   refine wp_cond_true rfl ?_
   refine wp_seq_k fun K62 hK62 => ?_
   refine wl_region ?_
   refine st (.int .i64 3) rfl rfl (xr_assign _ rfl rfl) ?_
   refine wl_end ?_
   (try simp only [ls0, ls1])
   refine hK62 _ _ ?_
   (try clear hK62 K62)
   refine wp_ret ?_
   (try simp only [Exit.inBlock, Exit.then, Exit.noGoto])
   (try simp only [ls0, ls1])
   obtain rfl := Option.some.inj H
   refine bodyPost_ret (results_tmp rfl _ _ _) rfl ?_
   exact ⟨_, rfl, HS57⟩
  rw [if_neg c61] at H
  (try rw [(Bool.eq_false_iff.mpr c61)])
  refine wp_cond_false rfl ?_
  refine wp_seq_k fun K63 hK63 => ?_
  have hj66 : ∀ (C67 : Nat → Nat) (w68 : World) (x70 : Bool) (g_ : Nat → Value), Step c w C67 w68 [] → expr_level.j0 a0 x70 = some r → K63 ⟨#[(g_ 0), (g_ 1), (g_ 2), .string a0, (g_ 4), (g_ 5), (g_ 6), (g_ 7), (g_ 8), (g_ 9), (g_ 10), .bool x70, (g_ 12), (g_ 13), (g_ 14), (g_ 15)], []⟩ w68 := by
   intro C67 w68 x70 g_ HS69  H
   unfold expr_level.j0 at H
   refine hK63 _ _ ?_
   (try clear hK63)
   by_cases c73 : x70 = true
   ·rw [if_pos c73] at H
    (try rw [c73])
    refine wp_cond_true rfl ?_
    refine wp_seq_k fun K74 hK74 => ?_
    refine wl_region ?_
    refine st (.int .i64 4) rfl rfl (xr_assign _ rfl rfl) ?_
    refine wl_end ?_
    (try simp only [ls0, ls1])
    refine hK74 _ _ ?_
    (try clear hK74 K74)
    refine wp_ret ?_
    (try simp only [Exit.inBlock, Exit.then, Exit.noGoto])
    (try simp only [ls0, ls1])
    obtain rfl := Option.some.inj H
    refine bodyPost_ret (results_tmp rfl _ _ _) rfl ?_
    exact ⟨_, rfl, HS69⟩
   rw [if_neg c73] at H
   (try rw [(Bool.eq_false_iff.mpr c73)])
   refine wp_cond_false rfl ?_
   refine wp_seq_k fun K75 hK75 => ?_
   refine wl_region ?_
   refine st (.bool (decide (a0 = (⟨#[42]⟩ : ByteArray)))) rfl rfl (xr_bin _ _ _ rfl rfl rfl (B.eql_str _ _)) ?_
   refine as_ rfl ?_
   refine wl_end ?_
   (try simp only [ls0, ls1])
   refine hK75 _ _ ?_
   (try clear hK75 K75)
   by_cases c76 : a0 = (⟨#[42]⟩ : ByteArray)
   ·rw [if_pos c76] at H
    (try rw [(decide_eq_true c76)])
    refine wp_cond_true rfl ?_
    refine wp_seq_k fun K77 hK77 => ?_
    refine wl_region ?_
    refine st (.int .i64 5) rfl rfl (xr_assign _ rfl rfl) ?_
    refine wl_end ?_
    (try simp only [ls0, ls1])
    refine hK77 _ _ ?_
    (try clear hK77 K77)
    refine wp_ret ?_
    (try simp only [Exit.inBlock, Exit.then, Exit.noGoto])
    (try simp only [ls0, ls1])
    obtain rfl := Option.some.inj H
    refine bodyPost_ret (results_tmp rfl _ _ _) rfl ?_
    exact ⟨_, rfl, HS69⟩
   rw [if_neg c76] at H
   (try rw [(decide_eq_false c76)])
   refine wp_cond_false rfl ?_
   refine wp_skip ?_
   (try simp only [ls0, ls1])
   refine hK43 _ _ ?_
   (try clear hK43 K43)
   refine wp_seq_k fun K78 hK78 => ?_
   refine wl_region ?_
   refine st (.int .i64 0) rfl rfl (xr_assign _ rfl rfl) ?_
   refine wl_end ?_
   (try simp only [ls0, ls1])
   refine hK78 _ _ ?_
   (try clear hK78 K78)
   refine wp_ret ?_
   (try simp only [Exit.inBlock, Exit.then, Exit.noGoto])
   (try simp only [ls0, ls1])
   obtain rfl := Option.some.inj H
   refine bodyPost_ret (results_tmp rfl _ _ _) rfl ?_
   exact ⟨_, rfl, HS69⟩
  refine wp_seq_k fun K79 hK79 => ?_
  refine wl_region ?_
  refine st (.bool (decide (a0 = (⟨#[43]⟩ : ByteArray)))) rfl rfl (xr_bin _ _ _ rfl rfl rfl (B.eql_str _ _)) ?_
  refine as_ rfl ?_
  refine wl_end ?_
  (try simp only [ls0, ls1])
  refine hK79 _ _ ?_
  (try clear hK79 K79)
  by_cases c80 : a0 = (⟨#[43]⟩ : ByteArray)
  ·rw [if_pos c80] at H
   (try rw [(decide_eq_true c80)])
   refine wp_cond_true rfl ?_
   refine wp_skip ?_
   (try simp only [ls0, ls1])
   exact jmp (fun g_ => hj66 _ _ (true) g_ HS57 H) rfl
  rw [if_neg c80] at H
  (try rw [(decide_eq_false c80)])
  refine wp_cond_false rfl ?_
  refine wl_region ?_
  refine st (.bool (decide (a0 = (⟨#[45]⟩ : ByteArray)))) rfl rfl (xr_bin _ _ _ rfl rfl rfl (B.eql_str _ _)) ?_
  refine as_ rfl ?_
  refine wl_end ?_
  (try simp only [ls0, ls1])
  exact jmp (fun g_ => hj66 _ _ (decide (a0 = (⟨#[45]⟩ : ByteArray))) g_ HS57 H) rfl
 refine wp_seq_k fun K81 hK81 => ?_
 refine wl_region ?_
 refine st (.bool (decide (a0 = (⟨#[61, 61]⟩ : ByteArray)))) rfl rfl (xr_bin _ _ _ rfl rfl rfl (B.eql_str _ _)) ?_
 refine as_ rfl ?_
 refine wl_end ?_
 (try simp only [ls0, ls1])
 refine hK81 _ _ ?_
 (try clear hK81 K81)
 by_cases c82 : a0 = (⟨#[61, 61]⟩ : ByteArray)
 ·rw [if_pos c82] at H
  (try rw [(decide_eq_true c82)])
  refine wp_cond_true rfl ?_
  refine wp_skip ?_
  (try simp only [ls0, ls1])
  exact jmp (fun g_ => hj54 _ _ (true) g_ HS H) rfl
 rw [if_neg c82] at H
 (try rw [(decide_eq_false c82)])
 refine wp_cond_false rfl ?_
 refine wl_region ?_
 refine st (.bool (decide (a0 = (⟨#[60]⟩ : ByteArray)))) rfl rfl (xr_bin _ _ _ rfl rfl rfl (B.eql_str _ _)) ?_
 refine as_ rfl ?_
 refine wl_end ?_
 (try simp only [ls0, ls1])
 exact jmp (fun g_ => hj54 _ _ (decide (a0 = (⟨#[60]⟩ : ByteArray))) g_ HS H) rfl

/-! ### lex_Keyword: function 27 -/
def lex_Keyword.j0 (x113 : Bool) : Option (Bool) := if x113 = true then (some true) else (some false)
def lex_Keyword.f (a0 : ByteArray) : Option (Bool) := if a0 = (⟨#[105, 109, 112, 111, 114, 116]⟩ : ByteArray) then (lex_Keyword.j0 true) else (if a0 = (⟨#[108, 97, 116, 116, 105, 99, 101]⟩ : ByteArray) then (lex_Keyword.j0 true) else (if a0 = (⟨#[101, 102, 102, 101, 99, 116, 115]⟩ : ByteArray) then (lex_Keyword.j0 true) else (if a0 = (⟨#[118, 97, 114]⟩ : ByteArray) then (lex_Keyword.j0 true) else (if a0 = (⟨#[102, 110]⟩ : ByteArray) then (lex_Keyword.j0 true) else (if a0 = (⟨#[108, 101, 116]⟩ : ByteArray) then (lex_Keyword.j0 true) else (if a0 = (⟨#[105, 102]⟩ : ByteArray) then (lex_Keyword.j0 true) else (if a0 = (⟨#[101, 108, 115, 101]⟩ : ByteArray) then (lex_Keyword.j0 true) else (if a0 = (⟨#[119, 104, 105, 108, 101]⟩ : ByteArray) then (lex_Keyword.j0 true) else (if a0 = (⟨#[114, 101, 116, 117, 114, 110]⟩ : ByteArray) then (lex_Keyword.j0 true) else (if a0 = (⟨#[100, 111]⟩ : ByteArray) then (lex_Keyword.j0 true) else (if a0 = (⟨#[116, 114, 117, 101]⟩ : ByteArray) then (lex_Keyword.j0 true) else (if a0 = (⟨#[102, 97, 108, 115, 101]⟩ : ByteArray) then (lex_Keyword.j0 true) else (if a0 = (⟨#[105, 110, 116]⟩ : ByteArray) then (lex_Keyword.j0 true) else (if a0 = (⟨#[98, 111, 111, 108]⟩ : ByteArray) then (lex_Keyword.j0 true) else (lex_Keyword.j0 (decide (a0 = (⟨#[100, 101, 99, 108, 97, 115, 115, 105, 102, 121]⟩ : ByteArray))))))))))))))))))
set_option maxHeartbeats 8000000 in
set_option maxRecDepth 100000 in
theorem lex_Keyword.calls (a0 : ByteArray) (r : Bool) (c : Nat → Nat) (w : World) (hc : ∀ k, c k < 10)  (H : lex_Keyword.f a0 = some r) :
    Calls Try.prog 27 #[.string a0] w fun e w' => ∃ (c' : Nat → Nat) , e = .returned (.bool r) ∧ Step c w c' w' [] := by
 unfold lex_Keyword.f at H
 have HS := Step.refl c w []
 go_enter Try.func27, Try.ntmps27
 refine wp_seq_k fun K75 hK75 => ?_
 refine wl_region ?_
 refine st (.bool false) rfl rfl (xr_assign _ rfl rfl) ?_
 refine wl_end ?_
 (try simp only [ls0, ls1])
 refine hK75 _ _ ?_
 (try clear hK75 K75)
 refine wp_seq_k fun K76 hK76 => ?_
 refine wp_seq_k fun K77 hK77 => ?_
 refine wl_region ?_
 refine mv_ rfl ?_
 refine wl_end ?_
 (try simp only [ls0, ls1])
 refine hK77 _ _ ?_
 (try clear hK77 K77)
 refine wp_block ?_
 refine wp_seq_k fun K78 hK78 => ?_
 have hj109 : ∀ (C110 : Nat → Nat) (w111 : World) (x113 : Bool) (g_ : Nat → Value), Step c w C110 w111 [] → lex_Keyword.j0 x113 = some r → K78 ⟨#[(g_ 0), (g_ 1), (g_ 2), (g_ 3), .bool x113, (g_ 5), (g_ 6), (g_ 7), (g_ 8), (g_ 9), (g_ 10), (g_ 11), (g_ 12), (g_ 13), (g_ 14), (g_ 15), (g_ 16), (g_ 17), (g_ 18), (g_ 19), (g_ 20)], []⟩ w111 := by
  intro C110 w111 x113 g_ HS112  H
  unfold lex_Keyword.j0 at H
  refine hK78 _ _ ?_
  (try clear hK78)
  by_cases c116 : x113 = true
  ·rw [if_pos c116] at H
   (try rw [c116])
   refine wp_cond_true rfl ?_
   refine wp_seq_k fun K117 hK117 => ?_
   refine wl_region ?_
   refine st (.bool true) rfl rfl (xr_assign _ rfl rfl) ?_
   refine wl_end ?_
   (try simp only [ls0, ls1])
   refine hK117 _ _ ?_
   (try clear hK117 K117)
   refine wp_ret ?_
   (try simp only [Exit.inBlock, Exit.then, Exit.noGoto])
   (try simp only [ls0, ls1])
   obtain rfl := Option.some.inj H
   refine bodyPost_ret (results_tmp rfl _ _ _) rfl ?_
   exact ⟨_, rfl, HS112⟩
  rw [if_neg c116] at H
  (try rw [(Bool.eq_false_iff.mpr c116)])
  refine wp_cond_false rfl ?_
  refine wp_skip ?_
  (try simp only [ls0, ls1])
  refine hK76 _ _ ?_
  (try clear hK76 K76)
  refine wp_seq_k fun K118 hK118 => ?_
  refine wl_region ?_
  refine st (.bool false) rfl rfl (xr_assign _ rfl rfl) ?_
  refine wl_end ?_
  (try simp only [ls0, ls1])
  refine hK118 _ _ ?_
  (try clear hK118 K118)
  refine wp_ret ?_
  (try simp only [Exit.inBlock, Exit.then, Exit.noGoto])
  (try simp only [ls0, ls1])
  obtain rfl := Option.some.inj H
  refine bodyPost_ret (results_tmp rfl _ _ _) rfl ?_
  exact ⟨_, rfl, HS112⟩
 refine wp_seq_k fun K119 hK119 => ?_
 refine wl_region ?_
 refine st (.bool (decide (a0 = (⟨#[105, 109, 112, 111, 114, 116]⟩ : ByteArray)))) rfl rfl (xr_bin _ _ _ rfl rfl rfl (B.eql_str _ _)) ?_
 refine as_ rfl ?_
 refine wl_end ?_
 (try simp only [ls0, ls1])
 refine hK119 _ _ ?_
 (try clear hK119 K119)
 by_cases c120 : a0 = (⟨#[105, 109, 112, 111, 114, 116]⟩ : ByteArray)
 ·rw [if_pos c120] at H
  (try rw [(decide_eq_true c120)])
  refine wp_cond_true rfl ?_
  refine wp_skip ?_
  (try simp only [ls0, ls1])
  exact jmp (fun g_ => hj109 _ _ (true) g_ HS H) rfl
 rw [if_neg c120] at H
 (try rw [(decide_eq_false c120)])
 refine wp_cond_false rfl ?_
 refine wp_seq_k fun K121 hK121 => ?_
 refine wl_region ?_
 refine st (.bool (decide (a0 = (⟨#[108, 97, 116, 116, 105, 99, 101]⟩ : ByteArray)))) rfl rfl (xr_bin _ _ _ rfl rfl rfl (B.eql_str _ _)) ?_
 refine as_ rfl ?_
 refine wl_end ?_
 (try simp only [ls0, ls1])
 refine hK121 _ _ ?_
 (try clear hK121 K121)
 by_cases c122 : a0 = (⟨#[108, 97, 116, 116, 105, 99, 101]⟩ : ByteArray)
 ·rw [if_pos c122] at H
  (try rw [(decide_eq_true c122)])
  refine wp_cond_true rfl ?_
  refine wp_skip ?_
  (try simp only [ls0, ls1])
  exact jmp (fun g_ => hj109 _ _ (true) g_ HS H) rfl
 rw [if_neg c122] at H
 (try rw [(decide_eq_false c122)])
 refine wp_cond_false rfl ?_
 refine wp_seq_k fun K123 hK123 => ?_
 refine wl_region ?_
 refine st (.bool (decide (a0 = (⟨#[101, 102, 102, 101, 99, 116, 115]⟩ : ByteArray)))) rfl rfl (xr_bin _ _ _ rfl rfl rfl (B.eql_str _ _)) ?_
 refine as_ rfl ?_
 refine wl_end ?_
 (try simp only [ls0, ls1])
 refine hK123 _ _ ?_
 (try clear hK123 K123)
 by_cases c124 : a0 = (⟨#[101, 102, 102, 101, 99, 116, 115]⟩ : ByteArray)
 ·rw [if_pos c124] at H
  (try rw [(decide_eq_true c124)])
  refine wp_cond_true rfl ?_
  refine wp_skip ?_
  (try simp only [ls0, ls1])
  exact jmp (fun g_ => hj109 _ _ (true) g_ HS H) rfl
 rw [if_neg c124] at H
 (try rw [(decide_eq_false c124)])
 refine wp_cond_false rfl ?_
 refine wp_seq_k fun K125 hK125 => ?_
 refine wl_region ?_
 refine st (.bool (decide (a0 = (⟨#[118, 97, 114]⟩ : ByteArray)))) rfl rfl (xr_bin _ _ _ rfl rfl rfl (B.eql_str _ _)) ?_
 refine as_ rfl ?_
 refine wl_end ?_
 (try simp only [ls0, ls1])
 refine hK125 _ _ ?_
 (try clear hK125 K125)
 by_cases c126 : a0 = (⟨#[118, 97, 114]⟩ : ByteArray)
 ·rw [if_pos c126] at H
  (try rw [(decide_eq_true c126)])
  refine wp_cond_true rfl ?_
  refine wp_skip ?_
  (try simp only [ls0, ls1])
  exact jmp (fun g_ => hj109 _ _ (true) g_ HS H) rfl
 rw [if_neg c126] at H
 (try rw [(decide_eq_false c126)])
 refine wp_cond_false rfl ?_
 refine wp_seq_k fun K127 hK127 => ?_
 refine wl_region ?_
 refine st (.bool (decide (a0 = (⟨#[102, 110]⟩ : ByteArray)))) rfl rfl (xr_bin _ _ _ rfl rfl rfl (B.eql_str _ _)) ?_
 refine as_ rfl ?_
 refine wl_end ?_
 (try simp only [ls0, ls1])
 refine hK127 _ _ ?_
 (try clear hK127 K127)
 by_cases c128 : a0 = (⟨#[102, 110]⟩ : ByteArray)
 ·rw [if_pos c128] at H
  (try rw [(decide_eq_true c128)])
  refine wp_cond_true rfl ?_
  refine wp_skip ?_
  (try simp only [ls0, ls1])
  exact jmp (fun g_ => hj109 _ _ (true) g_ HS H) rfl
 rw [if_neg c128] at H
 (try rw [(decide_eq_false c128)])
 refine wp_cond_false rfl ?_
 refine wp_seq_k fun K129 hK129 => ?_
 refine wl_region ?_
 refine st (.bool (decide (a0 = (⟨#[108, 101, 116]⟩ : ByteArray)))) rfl rfl (xr_bin _ _ _ rfl rfl rfl (B.eql_str _ _)) ?_
 refine as_ rfl ?_
 refine wl_end ?_
 (try simp only [ls0, ls1])
 refine hK129 _ _ ?_
 (try clear hK129 K129)
 by_cases c130 : a0 = (⟨#[108, 101, 116]⟩ : ByteArray)
 ·rw [if_pos c130] at H
  (try rw [(decide_eq_true c130)])
  refine wp_cond_true rfl ?_
  refine wp_skip ?_
  (try simp only [ls0, ls1])
  exact jmp (fun g_ => hj109 _ _ (true) g_ HS H) rfl
 rw [if_neg c130] at H
 (try rw [(decide_eq_false c130)])
 refine wp_cond_false rfl ?_
 refine wp_seq_k fun K131 hK131 => ?_
 refine wl_region ?_
 refine st (.bool (decide (a0 = (⟨#[105, 102]⟩ : ByteArray)))) rfl rfl (xr_bin _ _ _ rfl rfl rfl (B.eql_str _ _)) ?_
 refine as_ rfl ?_
 refine wl_end ?_
 (try simp only [ls0, ls1])
 refine hK131 _ _ ?_
 (try clear hK131 K131)
 by_cases c132 : a0 = (⟨#[105, 102]⟩ : ByteArray)
 ·rw [if_pos c132] at H
  (try rw [(decide_eq_true c132)])
  refine wp_cond_true rfl ?_
  refine wp_skip ?_
  (try simp only [ls0, ls1])
  exact jmp (fun g_ => hj109 _ _ (true) g_ HS H) rfl
 rw [if_neg c132] at H
 (try rw [(decide_eq_false c132)])
 refine wp_cond_false rfl ?_
 refine wp_seq_k fun K133 hK133 => ?_
 refine wl_region ?_
 refine st (.bool (decide (a0 = (⟨#[101, 108, 115, 101]⟩ : ByteArray)))) rfl rfl (xr_bin _ _ _ rfl rfl rfl (B.eql_str _ _)) ?_
 refine as_ rfl ?_
 refine wl_end ?_
 (try simp only [ls0, ls1])
 refine hK133 _ _ ?_
 (try clear hK133 K133)
 by_cases c134 : a0 = (⟨#[101, 108, 115, 101]⟩ : ByteArray)
 ·rw [if_pos c134] at H
  (try rw [(decide_eq_true c134)])
  refine wp_cond_true rfl ?_
  refine wp_skip ?_
  (try simp only [ls0, ls1])
  exact jmp (fun g_ => hj109 _ _ (true) g_ HS H) rfl
 rw [if_neg c134] at H
 (try rw [(decide_eq_false c134)])
 refine wp_cond_false rfl ?_
 refine wp_seq_k fun K135 hK135 => ?_
 refine wl_region ?_
 refine st (.bool (decide (a0 = (⟨#[119, 104, 105, 108, 101]⟩ : ByteArray)))) rfl rfl (xr_bin _ _ _ rfl rfl rfl (B.eql_str _ _)) ?_
 refine as_ rfl ?_
 refine wl_end ?_
 (try simp only [ls0, ls1])
 refine hK135 _ _ ?_
 (try clear hK135 K135)
 by_cases c136 : a0 = (⟨#[119, 104, 105, 108, 101]⟩ : ByteArray)
 ·rw [if_pos c136] at H
  (try rw [(decide_eq_true c136)])
  refine wp_cond_true rfl ?_
  refine wp_skip ?_
  (try simp only [ls0, ls1])
  exact jmp (fun g_ => hj109 _ _ (true) g_ HS H) rfl
 rw [if_neg c136] at H
 (try rw [(decide_eq_false c136)])
 refine wp_cond_false rfl ?_
 refine wp_seq_k fun K137 hK137 => ?_
 refine wl_region ?_
 refine st (.bool (decide (a0 = (⟨#[114, 101, 116, 117, 114, 110]⟩ : ByteArray)))) rfl rfl (xr_bin _ _ _ rfl rfl rfl (B.eql_str _ _)) ?_
 refine as_ rfl ?_
 refine wl_end ?_
 (try simp only [ls0, ls1])
 refine hK137 _ _ ?_
 (try clear hK137 K137)
 by_cases c138 : a0 = (⟨#[114, 101, 116, 117, 114, 110]⟩ : ByteArray)
 ·rw [if_pos c138] at H
  (try rw [(decide_eq_true c138)])
  refine wp_cond_true rfl ?_
  refine wp_skip ?_
  (try simp only [ls0, ls1])
  exact jmp (fun g_ => hj109 _ _ (true) g_ HS H) rfl
 rw [if_neg c138] at H
 (try rw [(decide_eq_false c138)])
 refine wp_cond_false rfl ?_
 refine wp_seq_k fun K139 hK139 => ?_
 refine wl_region ?_
 refine st (.bool (decide (a0 = (⟨#[100, 111]⟩ : ByteArray)))) rfl rfl (xr_bin _ _ _ rfl rfl rfl (B.eql_str _ _)) ?_
 refine as_ rfl ?_
 refine wl_end ?_
 (try simp only [ls0, ls1])
 refine hK139 _ _ ?_
 (try clear hK139 K139)
 by_cases c140 : a0 = (⟨#[100, 111]⟩ : ByteArray)
 ·rw [if_pos c140] at H
  (try rw [(decide_eq_true c140)])
  refine wp_cond_true rfl ?_
  refine wp_skip ?_
  (try simp only [ls0, ls1])
  exact jmp (fun g_ => hj109 _ _ (true) g_ HS H) rfl
 rw [if_neg c140] at H
 (try rw [(decide_eq_false c140)])
 refine wp_cond_false rfl ?_
 refine wp_seq_k fun K141 hK141 => ?_
 refine wl_region ?_
 refine st (.bool (decide (a0 = (⟨#[116, 114, 117, 101]⟩ : ByteArray)))) rfl rfl (xr_bin _ _ _ rfl rfl rfl (B.eql_str _ _)) ?_
 refine as_ rfl ?_
 refine wl_end ?_
 (try simp only [ls0, ls1])
 refine hK141 _ _ ?_
 (try clear hK141 K141)
 by_cases c142 : a0 = (⟨#[116, 114, 117, 101]⟩ : ByteArray)
 ·rw [if_pos c142] at H
  (try rw [(decide_eq_true c142)])
  refine wp_cond_true rfl ?_
  refine wp_skip ?_
  (try simp only [ls0, ls1])
  exact jmp (fun g_ => hj109 _ _ (true) g_ HS H) rfl
 rw [if_neg c142] at H
 (try rw [(decide_eq_false c142)])
 refine wp_cond_false rfl ?_
 refine wp_seq_k fun K143 hK143 => ?_
 refine wl_region ?_
 refine st (.bool (decide (a0 = (⟨#[102, 97, 108, 115, 101]⟩ : ByteArray)))) rfl rfl (xr_bin _ _ _ rfl rfl rfl (B.eql_str _ _)) ?_
 refine as_ rfl ?_
 refine wl_end ?_
 (try simp only [ls0, ls1])
 refine hK143 _ _ ?_
 (try clear hK143 K143)
 by_cases c144 : a0 = (⟨#[102, 97, 108, 115, 101]⟩ : ByteArray)
 ·rw [if_pos c144] at H
  (try rw [(decide_eq_true c144)])
  refine wp_cond_true rfl ?_
  refine wp_skip ?_
  (try simp only [ls0, ls1])
  exact jmp (fun g_ => hj109 _ _ (true) g_ HS H) rfl
 rw [if_neg c144] at H
 (try rw [(decide_eq_false c144)])
 refine wp_cond_false rfl ?_
 refine wp_seq_k fun K145 hK145 => ?_
 refine wl_region ?_
 refine st (.bool (decide (a0 = (⟨#[105, 110, 116]⟩ : ByteArray)))) rfl rfl (xr_bin _ _ _ rfl rfl rfl (B.eql_str _ _)) ?_
 refine as_ rfl ?_
 refine wl_end ?_
 (try simp only [ls0, ls1])
 refine hK145 _ _ ?_
 (try clear hK145 K145)
 by_cases c146 : a0 = (⟨#[105, 110, 116]⟩ : ByteArray)
 ·rw [if_pos c146] at H
  (try rw [(decide_eq_true c146)])
  refine wp_cond_true rfl ?_
  refine wp_skip ?_
  (try simp only [ls0, ls1])
  exact jmp (fun g_ => hj109 _ _ (true) g_ HS H) rfl
 rw [if_neg c146] at H
 (try rw [(decide_eq_false c146)])
 refine wp_cond_false rfl ?_
 refine wp_seq_k fun K147 hK147 => ?_
 refine wl_region ?_
 refine st (.bool (decide (a0 = (⟨#[98, 111, 111, 108]⟩ : ByteArray)))) rfl rfl (xr_bin _ _ _ rfl rfl rfl (B.eql_str _ _)) ?_
 refine as_ rfl ?_
 refine wl_end ?_
 (try simp only [ls0, ls1])
 refine hK147 _ _ ?_
 (try clear hK147 K147)
 by_cases c148 : a0 = (⟨#[98, 111, 111, 108]⟩ : ByteArray)
 ·rw [if_pos c148] at H
  (try rw [(decide_eq_true c148)])
  refine wp_cond_true rfl ?_
  refine wp_skip ?_
  (try simp only [ls0, ls1])
  exact jmp (fun g_ => hj109 _ _ (true) g_ HS H) rfl
 rw [if_neg c148] at H
 (try rw [(decide_eq_false c148)])
 refine wp_cond_false rfl ?_
 refine wl_region ?_
 refine st (.bool (decide (a0 = (⟨#[100, 101, 99, 108, 97, 115, 115, 105, 102, 121]⟩ : ByteArray)))) rfl rfl (xr_bin _ _ _ rfl rfl rfl (B.eql_str _ _)) ?_
 refine as_ rfl ?_
 refine wl_end ?_
 (try simp only [ls0, ls1])
 exact jmp (fun g_ => hj109 _ _ (decide (a0 = (⟨#[100, 101, 99, 108, 97, 115, 115, 105, 102, 121]⟩ : ByteArray))) g_ HS H) rfl

/-! ### lex_Ident_1: function 75 -/
def lex_Ident_1.f (a0 : Int) : Option (Bool) := (lex_letter.f a0).bind fun t18 => (if t18 = true then (some true) else ((lex_digit.f a0).bind fun t25 => (some t25)))
set_option maxHeartbeats 8000000 in
set_option maxRecDepth 100000 in
theorem lex_Ident_1.calls (a0 : Int) (r : Bool) (c : Nat → Nat) (w : World) (hc : ∀ k, c k < 10)  (H : lex_Ident_1.f a0 = some r) :
    Calls Try.prog 75 #[.int .u8 a0] w fun e w' => ∃ (c' : Nat → Nat) , e = .returned (.bool r) ∧ Step c w c' w' [] := by
 unfold lex_Ident_1.f at H
 have HS := Step.refl c w []
 go_enter Try.func75, Try.ntmps75
 refine wp_seq_k fun K16 hK16 => ?_
 refine wl_region ?_
 refine st (.bool false) rfl rfl (xr_assign _ rfl rfl) ?_
 refine wl_end ?_
 (try simp only [ls0, ls1])
 refine hK16 _ _ ?_
 (try clear hK16 K16)
 refine wp_seq_k fun K17 hK17 => ?_
 refine wl_region ?_
 refine mv_ rfl ?_
 obtain ⟨t18, A19, H⟩ := bnd H
 refine st_call #[.int .u8 a0] rfl rfl Try.func73 (by kernel_rfl) rfl rfl (mp_ rfl) ?_
 refine (lex_letter.calls a0 t18  (fun z_ => pal [(0, 0)] (c z_)) w (fun _ => pal_lt rfl _) A19).mono ?_
 rintro _ w21 ⟨C22, rfl, hs23⟩
 refine ⟨_, rfl, ?_⟩
 replace hs23 := Step.lift (U := [(0, 0)]) hs23 [] rfl rfl
 generalize up c C22 w.heap.size [(0, 0)] = C22_ at hs23
 replace HS := HS.trans hs23 hc rfl
 (try simp only [ls0, ls1])
 refine mv_ rfl ?_
 by_cases c24 : t18 = true
 ·rw [if_pos c24] at H
  (try rw [c24])
  refine sk_guard (guard_off 2 false 5 rfl rfl true (by decide) rfl) rfl ?_
  refine sk_guard (guard_off 2 false 5 rfl rfl true (by decide) rfl) rfl ?_
  refine st (.bool true) rfl rfl (xr_pick true _ rfl rfl rfl) ?_
  simp only [ls0, ls1]
  refine as_ rfl ?_
  refine wl_end ?_
  (try simp only [ls0, ls1])
  refine hK17 _ _ ?_
  (try clear hK17 K17)
  refine wp_ret ?_
  (try simp only [Exit.inBlock, Exit.then, Exit.noGoto])
  (try simp only [ls0, ls1])
  obtain rfl := Option.some.inj H
  refine bodyPost_ret (results_tmp rfl _ _ _) rfl ?_
  exact ⟨_, rfl, HS⟩
 rw [if_neg c24] at H
 (try rw [(Bool.eq_false_iff.mpr c24)])
 refine on_guard (guard_on 2 false 5 rfl rfl rfl) ?_
 refine mv_ rfl ?_
 refine on_guard (guard_on 2 false 5 rfl rfl rfl) ?_
 obtain ⟨t25, A26, H⟩ := bnd H
 refine st_call #[.int .u8 a0] rfl rfl Try.func76 (by kernel_rfl) rfl rfl (mp_ rfl) ?_
 refine (lex_digit.calls a0 t25  (fun z_ => pal [(0, 0)] (C22_ z_)) w21 (fun _ => pal_lt rfl _) A26).mono ?_
 rintro _ w28 ⟨C29, rfl, hs30⟩
 refine ⟨_, rfl, ?_⟩
 replace hs30 := Step.lift (U := [(0, 0)]) hs30 [] rfl rfl
 generalize up C22_ C29 w21.heap.size [(0, 0)] = C29_ at hs30
 replace HS := HS.trans hs30 hc rfl
 (try simp only [ls0, ls1])
 refine st (.bool t25) rfl rfl (xr_pick false _ rfl rfl rfl) ?_
 refine as_ rfl ?_
 refine wl_end ?_
 (try simp only [ls0, ls1])
 refine hK17 _ _ ?_
 (try clear hK17 K17)
 refine wp_ret ?_
 (try simp only [Exit.inBlock, Exit.then, Exit.noGoto])
 (try simp only [ls0, ls1])
 obtain rfl := Option.some.inj H
 refine bodyPost_ret (results_tmp rfl _ _ _) rfl ?_
 exact ⟨_, rfl, HS⟩

/-! ### lex_run_lex_Ident_1: function 74 -/
mutual
def lex_run_lex_Ident_1.j0 : Nat → (List Int) → Int → Bool → Option (Int)
  | 0, _, _, _ => none
  | k + 1, l0, x186, x213 => if x213 = true then (lex_run_lex_Ident_1.l0 k l0 (wrap64 (x186 + 1))) else (some x186)
def lex_run_lex_Ident_1.l0 : Nat → (List Int) → Int → Option (Int)
  | 0, _, _ => none
  | k + 1, l0, x186 => if x186 < (l0.length : Int) then (if 0 ≤ x186 then ((lex_Ident_1.f (rd l0 x186)).bind fun t223 => (lex_run_lex_Ident_1.j0 k l0 x186 t223)) else (none)) else (lex_run_lex_Ident_1.j0 k l0 x186 false)
end
def lex_run_lex_Ident_1.f (k : Nat) (l0 : List Int) : Option (Int) := lex_run_lex_Ident_1.l0 k l0 0

set_option maxHeartbeats 8000000 in
set_option maxRecDepth 100000 in
theorem lex_run_lex_Ident_1.calls (k : Nat) (A0 : Option Addr) (c0 : Nat) (l0 : List Int) (r : Int) (c : Nat → Nat) (w : World) (hc : ∀ k, c k < 10) (HP0 : Ft c [0] w (fun w_ => (Kd.int .u8).C w_ A0 l0.length l0)) (HCP0 : l0.length ≤ c0) (H : lex_run_lex_Ident_1.f k l0 = some r) :
    Calls Try.prog 74 #[.slice A0 l0.length c0, .func (.func 75) #[] #[]] w fun e w' => ∃ (c' : Nat → Nat) , e = .returned (.int .i64 r) ∧ Step c w c' w' [] := by
 unfold lex_run_lex_Ident_1.f at H
 have HS := Step.refl c w []
 go_enter Try.func74, Try.ntmps74
 refine wp_seq_k fun K115 hK115 => ?_
 refine wl_region ?_
 refine st (.int .i64 0) rfl rfl (xr_assign _ rfl rfl) ?_
 refine wl_end ?_
 (try simp only [ls0, ls1])
 refine hK115 _ _ ?_
 (try clear hK115 K115)
 refine wp_seq_k fun K116 hK116 => ?_
 refine wl_region ?_
 refine st (.int .i64 0) rfl rfl (xr_assign _ rfl rfl) ?_
 refine wl_end ?_
 (try simp only [ls0, ls1])
 refine hK116 _ _ ?_
 (try clear hK116 K116)
 refine wp_seq_k fun K117 hK117 => ?_
 refine wp_block ?_
 (try simp only [ls0, ls1])
 refine wp_looped (looped_fin (fun kq189 a_ w188 => ∃ (C187 : Nat → Nat) (x186 : Int) (g_ : Nat → Value), a_ = ⟨#[.slice A0 l0.length c0, .func (.func 75) #[] #[], (g_ 2), (g_ 3), (g_ 4), .int .i64 x186, (g_ 6), (g_ 7), (g_ 8), (g_ 9), (g_ 10), (g_ 11), (g_ 12), (g_ 13), (g_ 14), (g_ 15), (g_ 16), (g_ 17), (g_ 18), (g_ 19), (g_ 20)], []⟩ ∧ Step c w C187 w188 [] ∧ kq189 ≤ k ∧ (Ft C187 [0] w188 (fun w_ => (Kd.int .u8).C w_ A0 l0.length l0)) ∧ lex_run_lex_Ident_1.l0 kq189 l0 x186 = some r) ?step fun hL_ => ?init)
 case init =>
  exact jmpL (fun a_ h_ => hL_ k a_ _ h_) (fun g_ => ⟨_, 0, g_, rfl, HS, Nat.le_refl _, HP0, H⟩) rfl
 case step =>
  intro kq189 ih192 a193 w188 hr194
  obtain ⟨C187, x186, g_, rfl, HS190, hk191, HJ185, H⟩ := hr194
  refine looped_round ?_
  cases kq189 with
  | zero => exact absurd H (by simp [lex_run_lex_Ident_1.l0])
  | succ k195 =>
   simp only [lex_run_lex_Ident_1.l0] at H
   refine wp_seq_k fun K196 hK196 => ?_
   refine wp_seq_k fun K197 hK197 => ?_
   have hj208 : ∀ (kq214 : Nat) (C209 : Nat → Nat) (w210 : World) (x213 : Bool) (g_ : Nat → Value), Step c w C209 w210 [] → kq214 ≤ k195 → (Ft C209 [0] w210 (fun w_ => (Kd.int .u8).C w_ A0 l0.length l0)) → lex_run_lex_Ident_1.j0 kq214 l0 x186 x213 = some r → K197 ⟨#[.slice A0 l0.length c0, .func (.func 75) #[] #[], (g_ 2), (g_ 3), (g_ 4), .int .i64 x186, (g_ 6), (g_ 7), (g_ 8), (g_ 9), (g_ 10), (g_ 11), (g_ 12), (g_ 13), (g_ 14), (g_ 15), (g_ 16), .bool x213, (g_ 18), (g_ 19), (g_ 20)], []⟩ w210 := by
    intro kq214 C209 w210 x213 g_ HS211 hk215 HJ212 H
    cases kq214 with
    | zero => exact absurd H (by simp [lex_run_lex_Ident_1.j0])
    | succ k216 =>
     simp only [lex_run_lex_Ident_1.j0] at H
     refine hK197 _ _ ?_
     (try clear hK197)
     by_cases c217 : x213 = true
     ·rw [if_pos c217] at H
      (try rw [c217])
      refine wp_cond_true rfl ?_
      refine wp_skip ?_
      (try simp only [ls0, ls1])
      refine hK196 _ _ ?_
      (try clear hK196 K196)
      refine wp_block ?_
      refine wl_region ?_
      refine mv_ rfl ?_
      refine st (.int .i64 (wrap64 (x186 + 1))) rfl rfl (xr_bin _ _ _ rfl rfl rfl (B.add_i64 _ _)) ?_
      refine as_ rfl ?_
      refine wl_end ?_
      (try simp only [ls0, ls1])
      exact jmpL (fun a_ h_ => ih192 k216 (by omega) a_ _ h_) (fun g_ => ⟨_, wrap64 (x186 + 1), g_, rfl, HS211, (by omega), HJ212, H⟩) rfl
     rw [if_neg c217] at H
     (try rw [(Bool.eq_false_iff.mpr c217)])
     refine wp_cond_false rfl ?_
     refine wp_exit ?_
     (try simp only [ls0, ls1])
     refine hK117 _ _ ?_
     (try clear hK117 K117)
     refine wp_seq_k fun K218 hK218 => ?_
     refine wl_region ?_
     refine mv_ rfl ?_
     refine as_ rfl ?_
     refine wl_end ?_
     (try simp only [ls0, ls1])
     refine hK218 _ _ ?_
     (try clear hK218 K218)
     refine wp_ret ?_
     (try simp only [Exit.inBlock, Exit.then, Exit.noGoto])
     (try simp only [ls0, ls1])
     obtain rfl := Option.some.inj H
     refine bodyPost_ret (results_tmp rfl _ _ _) rfl ?_
     exact ⟨_, rfl, HS211⟩
   refine wl_region ?_
   refine mv_ rfl ?_
   refine mv_ rfl ?_
   refine st (.int .i64 (l0.length : Int)) rfl rfl (xr_builtin #[.slice A0 l0.length c0] (.int .i64 (l0.length : Int)) rfl (mp_ rfl) (by first | rfl | (go_simp; done) | (go_simp; rfl) | (go_simp; exact i64_w _) | (go_simp; exact i32_w _))) ?_
   refine st (.bool (decide (x186 < (l0.length : Int)))) rfl rfl (xr_bin _ _ _ rfl rfl rfl (B.lss_i64 _ _)) ?_
   simp only [ls0, ls1]
   refine mv_ rfl ?_
   by_cases c219 : x186 < (l0.length : Int)
   ·rw [if_pos c219] at H
    (try rw [(decide_eq_true c219)])
    refine on_guard (guard_on 4 true 10 rfl rfl rfl) ?_
    refine mv_ rfl ?_
    refine on_guard (guard_on 4 true 10 rfl rfl rfl) ?_
    refine mv_ rfl ?_
    refine on_guard (guard_on 4 true 10 rfl rfl rfl) ?_
    refine mv_ rfl ?_
    simp only [ls0, ls1]
    refine on_guard (guard_on 4 true 10 rfl rfl rfl) ?_
    obtain ⟨c220, H⟩ := if_some H
    obtain ⟨ad221, hA222⟩ := c_addr (Ft.now HJ185) (pos_of (j := x186) (by first | assumption | decide) (by first | assumption | omega))
    refine st (.pointer (some (ad221.add ((x186 : Int).toNat * 1)))) rfl rfl (xr_indexAddr _ _ _ rfl rfl rfl (index_at Try.underlying22 info5 hA222 (by first | assumption | decide | omega) (by first | assumption | decide | omega))) ?_
    refine on_guard (guard_on 4 true 10 rfl rfl rfl) ?_
    refine st (.int .u8 (rd l0 x186)) rfl rfl (xr_load _ _ rfl rfl (load_int Try.underlying5 rfl hA222 (Ft.now HJ185) (by first | assumption | decide | omega) (by first | assumption | decide | omega))) ?_
    refine on_guard (guard_on 4 true 10 rfl rfl rfl) ?_
    obtain ⟨t223, A224, H⟩ := bnd H
    refine st_callV #[.int .u8 (rd l0 x186)] #[] #[.int .u8 (rd l0 x186)] rfl rfl Try.func75 (by kernel_rfl) rfl rfl rfl (mp_ rfl) (by rfl) ?_
    refine (lex_Ident_1.calls (rd l0 x186) t223  (fun z_ => pal [(0, 0)] (C187 z_)) w188 (fun _ => pal_lt rfl _) A224).mono ?_
    rintro _ w226 ⟨C227, rfl, hs228⟩
    refine ⟨_, rfl, ?_⟩
    replace hs228 := Step.lift (U := [(0, 0)]) hs228 [] rfl rfl
    generalize up C187 C227 w188.heap.size [(0, 0)] = C227_ at hs228
    replace HJ185 := HJ185.thru hs228 rfl
    replace HS190 := HS190.trans hs228 hc rfl
    (try simp only [ls0, ls1])
    refine st (.bool t223) rfl rfl (xr_pick true _ rfl rfl rfl) ?_
    refine wl_end ?_
    (try simp only [ls0, ls1])
    exact jmp (fun g_ => hj208 _ _ _ (t223) g_ HS190 (by omega) HJ185 H) rfl
   rw [if_neg c219] at H
   (try rw [(decide_eq_false c219)])
   refine sk_guard (guard_off 4 true 10 rfl rfl false (by decide) rfl) rfl ?_
   refine sk_guard (guard_off 4 true 10 rfl rfl false (by decide) rfl) rfl ?_
   refine sk_guard (guard_off 4 true 10 rfl rfl false (by decide) rfl) rfl ?_
   refine sk_guard (guard_off 4 true 10 rfl rfl false (by decide) rfl) rfl ?_
   simp only [ls0, ls1]
   refine sk_guard (guard_off 4 true 10 rfl rfl false (by decide) rfl) rfl ?_
   refine sk_guard (guard_off 4 true 10 rfl rfl false (by decide) rfl) rfl ?_
   refine st (.bool false) rfl rfl (xr_pick false _ rfl rfl rfl) ?_
   refine wl_end ?_
   (try simp only [ls0, ls1])
   exact jmp (fun g_ => hj208 _ _ _ (false) g_ HS190 (by omega) HJ185 H) rfl

/-! ### lex_Ident: function 29 -/
def lex_Ident.j0 : Nat → ByteArray → Bool → Option (Bool)
  | 0, _, _ => none
  | k + 1, a0, x86 => if x86 = true then (some false) else (if a0.size ≤ 9223372036854775807 then ((some (bytesOf a0 : List Int)).bind fun y94 => ((lex_run_lex_Ident_1.f k y94).bind fun t103 => (some (decide (t103 = (a0.size : Int)))))) else (none))
def lex_Ident.f (k : Nat) (a0 : ByteArray) : Option (Bool) := if a0 = (⟨#[]⟩ : ByteArray) then (lex_Ident.j0 k a0 true) else (if (a0.size : Int) > 24 then (lex_Ident.j0 k a0 true) else ((lex_Keyword.f a0).bind fun t111 => (if t111 = true then (lex_Ident.j0 k a0 true) else (if 0 < (a0.size : Int) then ((lex_letter.f (bt a0 0)).bind fun t119 => (lex_Ident.j0 k a0 (!t119))) else (none)))))

set_option maxHeartbeats 8000000 in
set_option maxRecDepth 100000 in
theorem lex_Ident.calls (k : Nat) (a0 : ByteArray) (r : Bool) (c : Nat → Nat) (w : World) (hc : ∀ k, c k < 10)  (H : lex_Ident.f k a0 = some r) :
    Calls Try.prog 29 #[.string a0] w fun e w' => ∃ (c' : Nat → Nat) , e = .returned (.bool r) ∧ Step c w c' w' [] := by
 unfold lex_Ident.f at H
 have HS := Step.refl c w []
 go_enter Try.func29, Try.ntmps29
 refine wp_seq_k fun K63 hK63 => ?_
 refine wl_region ?_
 refine st (.bool false) rfl rfl (xr_assign _ rfl rfl) ?_
 refine wl_end ?_
 (try simp only [ls0, ls1])
 refine hK63 _ _ ?_
 (try clear hK63 K63)
 refine wp_seq_k fun K64 hK64 => ?_
 refine wp_seq_k fun K65 hK65 => ?_
 have hj82 : ∀ (kq87 : Nat) (C83 : Nat → Nat) (w84 : World) (x86 : Bool) (g_ : Nat → Value), Step c w C83 w84 [] → kq87 ≤ k → lex_Ident.j0 kq87 a0 x86 = some r → K65 ⟨#[.string a0, (g_ 1), (g_ 2), (g_ 3), (g_ 4), (g_ 5), (g_ 6), (g_ 7), (g_ 8), (g_ 9), (g_ 10), (g_ 11), (g_ 12), (g_ 13), (g_ 14), (g_ 15), (g_ 16), (g_ 17), (g_ 18), .bool x86, (g_ 20), (g_ 21), (g_ 22), (g_ 23), (g_ 24), (g_ 25)], []⟩ w84 := by
  intro kq87 C83 w84 x86 g_ HS85 hk88  H
  cases kq87 with
  | zero => exact absurd H (by simp [lex_Ident.j0])
  | succ k89 =>
   simp only [lex_Ident.j0] at H
   refine hK65 _ _ ?_
   (try clear hK65)
   by_cases c90 : x86 = true
   ·rw [if_pos c90] at H
    (try rw [c90])
    refine wp_cond_true rfl ?_
    refine wp_seq_k fun K91 hK91 => ?_
    refine wl_region ?_
    refine st (.bool false) rfl rfl (xr_assign _ rfl rfl) ?_
    refine wl_end ?_
    (try simp only [ls0, ls1])
    refine hK91 _ _ ?_
    (try clear hK91 K91)
    refine wp_ret ?_
    (try simp only [Exit.inBlock, Exit.then, Exit.noGoto])
    (try simp only [ls0, ls1])
    obtain rfl := Option.some.inj H
    refine bodyPost_ret (results_tmp rfl _ _ _) rfl ?_
    exact ⟨_, rfl, HS85⟩
   rw [if_neg c90] at H
   (try rw [(Bool.eq_false_iff.mpr c90)])
   refine wp_cond_false rfl ?_
   refine wp_skip ?_
   (try simp only [ls0, ls1])
   refine hK64 _ _ ?_
   (try clear hK64 K64)
   refine wp_seq_k fun K92 hK92 => ?_
   refine wl_region ?_
   refine mv_ rfl ?_
   obtain ⟨c93, H⟩ := if_some H
   obtain ⟨y94, A95, H⟩ := bnd H
   refine own_conv (C := C83) (i := 0) 5 rfl rfl 9 22 _ rfl a0 rfl Try.underlying9 Try.underlying22 Try.underlying5 (by assumption) 11 (Option.some.inj A95) ?_
   intro A96 cp97 w98 C99 HR100 HC101 hs102
   replace HS85 := HS85.trans hs102 hc rfl
   (try simp only [ls0, ls1])
   obtain ⟨t103, A104, H⟩ := bnd H
   refine st_call #[.slice A96 y94.length cp97, .func (.func 75) #[] #[]] rfl rfl Try.func74 (by kernel_rfl) rfl rfl (mp_ rfl) ?_
   refine (lex_run_lex_Ident_1.calls k89 A96 cp97 y94 t103  (fun z_ => pal [(0, 0), (11, 0)] (C99 z_)) w98 (fun _ => pal_lt rfl _) (Ft.arg HR100 rfl) HC101 A104).mono ?_
   rintro _ w106 ⟨C107, rfl, hs108⟩
   refine ⟨_, rfl, ?_⟩
   replace hs108 := Step.lift (U := [(0, 0)]) hs108 [] rfl rfl
   generalize up C99 C107 w98.heap.size [(0, 0)] = C107_ at hs108
   replace HS85 := HS85.trans hs108 hc rfl
   (try simp only [ls0, ls1])
   refine mv_ rfl ?_
   refine st (.int .i64 (a0.size : Int)) rfl rfl (xr_builtin #[.string a0] (.int .i64 (a0.size : Int)) rfl (mp_ rfl) (by first | rfl | (go_simp; done) | (go_simp; rfl) | (go_simp; exact i64_w _) | (go_simp; exact i32_w _))) ?_
   refine st (.bool (decide (t103 = (a0.size : Int)))) rfl rfl (xr_bin _ _ _ rfl rfl rfl (B.eql_i64 _ _)) ?_
   refine as_ rfl ?_
   simp only [ls0, ls1]
   refine wl_end ?_
   (try simp only [ls0, ls1])
   refine hK92 _ _ ?_
   (try clear hK92 K92)
   refine wp_ret ?_
   (try simp only [Exit.inBlock, Exit.then, Exit.noGoto])
   (try simp only [ls0, ls1])
   obtain rfl := Option.some.inj H
   refine bodyPost_ret (results_tmp rfl _ _ _) rfl ?_
   exact ⟨_, rfl, HS85⟩
 refine wl_region ?_
 refine mv_ rfl ?_
 refine st (.bool (decide (a0 = (⟨#[]⟩ : ByteArray)))) rfl rfl (xr_bin _ _ _ rfl rfl rfl (B.eql_str _ _)) ?_
 refine mv_ rfl ?_
 by_cases c109 : a0 = (⟨#[]⟩ : ByteArray)
 ·rw [if_pos c109] at H
  (try rw [(decide_eq_true c109)])
  refine sk_guard (guard_off 2 false 5 rfl rfl true (by decide) rfl) rfl ?_
  simp only [ls0, ls1]
  refine sk_guard (guard_off 2 false 5 rfl rfl true (by decide) rfl) rfl ?_
  refine sk_guard (guard_off 2 false 5 rfl rfl true (by decide) rfl) rfl ?_
  refine st (.bool true) rfl rfl (xr_pick true _ rfl rfl rfl) ?_
  refine mv_ rfl ?_
  simp only [ls0, ls1]
  refine sk_guard (guard_off 7 false 10 rfl rfl true (by decide) rfl) rfl ?_
  refine sk_guard (guard_off 7 false 10 rfl rfl true (by decide) rfl) rfl ?_
  refine st (.bool true) rfl rfl (xr_pick true _ rfl rfl rfl) ?_
  refine mv_ rfl ?_
  simp only [ls0, ls1]
  refine sk_guard (guard_off 11 false 14 rfl rfl true (by decide) rfl) rfl ?_
  refine sk_guard (guard_off 11 false 14 rfl rfl true (by decide) rfl) rfl ?_
  refine sk_guard (guard_off 11 false 14 rfl rfl true (by decide) rfl) rfl ?_
  refine sk_guard (guard_off 11 false 14 rfl rfl true (by decide) rfl) rfl ?_
  simp only [ls0, ls1]
  refine st (.bool true) rfl rfl (xr_pick true _ rfl rfl rfl) ?_
  refine wl_end ?_
  (try simp only [ls0, ls1])
  exact jmp (fun g_ => hj82 _ _ _ (true) g_ HS (by omega) H) rfl
 rw [if_neg c109] at H
 (try rw [(decide_eq_false c109)])
 refine on_guard (guard_on 2 false 5 rfl rfl rfl) ?_
 refine mv_ rfl ?_
 refine on_guard (guard_on 2 false 5 rfl rfl rfl) ?_
 refine st (.int .i64 (a0.size : Int)) rfl rfl (xr_builtin #[.string a0] (.int .i64 (a0.size : Int)) rfl (mp_ rfl) (by first | rfl | (go_simp; done) | (go_simp; rfl) | (go_simp; exact i64_w _) | (go_simp; exact i32_w _))) ?_
 refine on_guard (guard_on 2 false 5 rfl rfl rfl) ?_
 refine st (.bool (decide ((a0.size : Int) > 24))) rfl rfl (xr_bin _ _ _ rfl rfl rfl (B.gtr_i64 _ _)) ?_
 refine st (.bool (decide ((a0.size : Int) > 24))) rfl rfl (xr_pick false _ rfl rfl rfl) ?_
 simp only [ls0, ls1]
 refine mv_ rfl ?_
 by_cases c110 : (a0.size : Int) > 24
 ·rw [if_pos c110] at H
  (try rw [(decide_eq_true c110)])
  refine sk_guard (guard_off 7 false 10 rfl rfl true (by decide) rfl) rfl ?_
  refine sk_guard (guard_off 7 false 10 rfl rfl true (by decide) rfl) rfl ?_
  refine st (.bool true) rfl rfl (xr_pick true _ rfl rfl rfl) ?_
  simp only [ls0, ls1]
  refine mv_ rfl ?_
  refine sk_guard (guard_off 11 false 14 rfl rfl true (by decide) rfl) rfl ?_
  refine sk_guard (guard_off 11 false 14 rfl rfl true (by decide) rfl) rfl ?_
  refine sk_guard (guard_off 11 false 14 rfl rfl true (by decide) rfl) rfl ?_
  simp only [ls0, ls1]
  refine sk_guard (guard_off 11 false 14 rfl rfl true (by decide) rfl) rfl ?_
  refine st (.bool true) rfl rfl (xr_pick true _ rfl rfl rfl) ?_
  refine wl_end ?_
  (try simp only [ls0, ls1])
  exact jmp (fun g_ => hj82 _ _ _ (true) g_ HS (by omega) H) rfl
 rw [if_neg c110] at H
 (try rw [(decide_eq_false c110)])
 refine on_guard (guard_on 7 false 10 rfl rfl rfl) ?_
 refine mv_ rfl ?_
 refine on_guard (guard_on 7 false 10 rfl rfl rfl) ?_
 obtain ⟨t111, A112, H⟩ := bnd H
 refine st_call #[.string a0] rfl rfl Try.func27 (by kernel_rfl) rfl rfl (mp_ rfl) ?_
 refine (lex_Keyword.calls a0 t111  (fun z_ => pal [(0, 0)] (c z_)) w (fun _ => pal_lt rfl _) A112).mono ?_
 rintro _ w114 ⟨C115, rfl, hs116⟩
 refine ⟨_, rfl, ?_⟩
 replace hs116 := Step.lift (U := [(0, 0)]) hs116 [] rfl rfl
 generalize up c C115 w.heap.size [(0, 0)] = C115_ at hs116
 replace HS := HS.trans hs116 hc rfl
 (try simp only [ls0, ls1])
 refine st (.bool t111) rfl rfl (xr_pick false _ rfl rfl rfl) ?_
 refine mv_ rfl ?_
 by_cases c117 : t111 = true
 ·rw [if_pos c117] at H
  (try rw [c117])
  refine sk_guard (guard_off 11 false 14 rfl rfl true (by decide) rfl) rfl ?_
  refine sk_guard (guard_off 11 false 14 rfl rfl true (by decide) rfl) rfl ?_
  simp only [ls0, ls1]
  refine sk_guard (guard_off 11 false 14 rfl rfl true (by decide) rfl) rfl ?_
  refine sk_guard (guard_off 11 false 14 rfl rfl true (by decide) rfl) rfl ?_
  refine st (.bool true) rfl rfl (xr_pick true _ rfl rfl rfl) ?_
  refine wl_end ?_
  (try simp only [ls0, ls1])
  exact jmp (fun g_ => hj82 _ _ _ (true) g_ HS (by omega) H) rfl
 rw [if_neg c117] at H
 (try rw [(Bool.eq_false_iff.mpr c117)])
 refine on_guard (guard_on 11 false 14 rfl rfl rfl) ?_
 refine mv_ rfl ?_
 refine on_guard (guard_on 11 false 14 rfl rfl rfl) ?_
 obtain ⟨c118, H⟩ := if_some H
 refine st (.int .u8 (bt a0 0)) rfl rfl (xr_index _ _ _ rfl rfl rfl (index_str Try.underlying9 (by first | assumption | decide | omega) (by first | assumption | decide | omega))) ?_
 refine on_guard (guard_on 11 false 14 rfl rfl rfl) ?_
 obtain ⟨t119, A120, H⟩ := bnd H
 refine st_call #[.int .u8 (bt a0 0)] rfl rfl Try.func73 (by kernel_rfl) rfl rfl (mp_ rfl) ?_
 refine (lex_letter.calls (bt a0 0) t119  (fun z_ => pal [(0, 0)] (C115_ z_)) w114 (fun _ => pal_lt rfl _) A120).mono ?_
 rintro _ w122 ⟨C123, rfl, hs124⟩
 refine ⟨_, rfl, ?_⟩
 replace hs124 := Step.lift (U := [(0, 0)]) hs124 [] rfl rfl
 generalize up C115_ C123 w114.heap.size [(0, 0)] = C123_ at hs124
 replace HS := HS.trans hs124 hc rfl
 (try simp only [ls0, ls1])
 refine on_guard (guard_on 11 false 14 rfl rfl rfl) ?_
 refine st (.bool (!t119)) rfl rfl (xr_un (.bool t119) _ rfl rfl (by first | rfl | (go_simp; done) | (go_simp; rfl) | (go_simp; exact i64_w _) | (go_simp; exact i32_w _))) ?_
 refine st (.bool (!t119)) rfl rfl (xr_pick false _ rfl rfl rfl) ?_
 refine wl_end ?_
 (try simp only [ls0, ls1])
 exact jmp (fun g_ => hj82 _ _ _ (!t119) g_ HS (by omega) H) rfl

/-! ### expr_Cursor_Ident: function 49 -/
def expr_Cursor_Ident.f (k : Nat) (l0_0 : List Int) (l0_1 : List (S28)) (a0_2 : Int) (a0_3 : Int) : Option (ByteArray × Bool × Int) := (expr_Cursor_Peek.f (some (⟨l0_0, l0_1, a0_2, a0_3⟩ : S111) : Option S111)).bind fun t28 => ((lex_Ident.f k t28).bind fun t36 => (if t36 = true then (some (t28, true, wrap64 (a0_2 + 1))) else (some ((⟨#[]⟩ : ByteArray), false, a0_2))))

set_option maxHeartbeats 8000000 in
set_option maxRecDepth 100000 in
theorem expr_Cursor_Ident.calls (k : Nat) (g0 : Nat) (A0_0 : Option Addr) (c0_0 : Nat) (l0_0 : List Int) (A0_1 : Option Addr) (c0_1 : Nat) (l0_1 : List (S28)) (a0_2 : Int) (a0_3 : Int) (r1 : ByteArray) (r2 : Bool) (r3 : Int) (c : Nat → Nat) (w : World) (hc : ∀ k, c k < 10) (HP0 : Bx c 1 w g0 111 ([.slice A0_0 l0_0.length c0_0, .slice A0_1 l0_1.length c0_1, .int .i64 a0_2, .int .i64 a0_3])) (HP0_0 : Ft c [0] w (fun w_ => (Kd.int .u8).C w_ A0_0 l0_0.length l0_0)) (HCP0_0 : l0_0.length ≤ c0_0) (HP0_1 : Ft c [0] w (fun w_ => k28.C w_ A0_1 l0_1.length l0_1)) (HCP0_1 : l0_1.length ≤ c0_1) (H : expr_Cursor_Ident.f k l0_0 l0_1 a0_2 a0_3 = some (r1, r2, r3)) :
    Calls Try.prog 49 #[.pointer (some ⟨g0, 0, none⟩)] w fun e w' => ∃ (c' : Nat → Nat) , e = .returned (.tuple #[.string r1, .bool r2]) ∧ Step c w c' w' [1] ∧ Bx c' 1 w' g0 111 ([.slice A0_0 l0_0.length c0_0, .slice A0_1 l0_1.length c0_1, .int .i64 r3, .int .i64 a0_3]) := by
 unfold expr_Cursor_Ident.f at H
 have HS := Step.refl c w [1]
 go_enter Try.func49, Try.ntmps49
 refine wp_seq_k fun K25 hK25 => ?_
 refine wl_region ?_
 refine st (.string (⟨#[]⟩ : ByteArray)) rfl rfl (xr_assign _ rfl rfl) ?_
 refine st (.bool false) rfl rfl (xr_assign _ rfl rfl) ?_
 refine wl_end ?_
 (try simp only [ls0, ls1])
 refine hK25 _ _ ?_
 (try clear hK25 K25)
 refine wp_seq_k fun K26 hK26 => ?_
 refine wl_region ?_
 refine mv_ rfl ?_
 have HP27 : Ft c [0, 1] w (fun w_ => (Kd.ptr 111 k111).K w_ (some (⟨l0_0, l0_1, a0_2, a0_3⟩ : S111)) [.pointer (some ⟨g0, 0, none⟩)]) := ptr_mk (Ft.more (HP0.ft) rfl) (k111_mkF _ _ (⟨l0_0, l0_1, a0_2, a0_3⟩ : S111) HCP0_0 (Ft.more HP0_0 rfl) HCP0_1 (Ft.more HP0_1 rfl))
 obtain ⟨t28, A29, H⟩ := bnd H
 refine st_call #[.pointer (some ⟨g0, 0, none⟩)] rfl rfl Try.func43 (by kernel_rfl) rfl rfl (mp_ rfl) ?_
 refine (expr_Cursor_Peek.calls (.pointer (some ⟨g0, 0, none⟩)) (some (⟨l0_0, l0_1, a0_2, a0_3⟩ : S111) : Option S111) t28  (fun z_ => pal [(0, 0), (1, 0)] (c z_)) w (fun _ => pal_lt rfl _) (Ft.arg HP27 rfl) A29).mono ?_
 rintro _ w31 ⟨C32, rfl, hs33⟩
 refine ⟨_, rfl, ?_⟩
 replace hs33 := Step.lift (U := [(0, 0)]) hs33 [] rfl rfl
 generalize up c C32 w.heap.size [(0, 0)] = C32_ at hs33
 replace HP0 := HP0.thru hs33 rfl
 replace HP0_0 := HP0_0.thru hs33 rfl
 replace HP0_1 := HP0_1.thru hs33 rfl
 replace HS := HS.trans hs33 hc rfl
 (try simp only [ls0, ls1])
 refine as_ rfl ?_
 refine wl_end ?_
 (try simp only [ls0, ls1])
 refine hK26 _ _ ?_
 (try clear hK26 K26)
 refine wp_seq_k fun K34 hK34 => ?_
 refine wp_seq_k fun K35 hK35 => ?_
 refine wl_region ?_
 refine mv_ rfl ?_
 obtain ⟨t36, A37, H⟩ := bnd H
 refine st_call #[.string t28] rfl rfl Try.func29 (by kernel_rfl) rfl rfl (mp_ rfl) ?_
 refine (lex_Ident.calls k t28 t36  (fun z_ => pal [(0, 0)] (C32_ z_)) w31 (fun _ => pal_lt rfl _) A37).mono ?_
 rintro _ w39 ⟨C40, rfl, hs41⟩
 refine ⟨_, rfl, ?_⟩
 replace hs41 := Step.lift (U := [(0, 0)]) hs41 [] rfl rfl
 generalize up C32_ C40 w31.heap.size [(0, 0)] = C40_ at hs41
 replace HP0 := HP0.thru hs41 rfl
 replace HP0_0 := HP0_0.thru hs41 rfl
 replace HP0_1 := HP0_1.thru hs41 rfl
 replace HS := HS.trans hs41 hc rfl
 (try simp only [ls0, ls1])
 refine st (.bool (!t36)) rfl rfl (xr_un (.bool t36) _ rfl rfl (by first | rfl | (go_simp; done) | (go_simp; rfl) | (go_simp; exact i64_w _) | (go_simp; exact i32_w _))) ?_
 refine wl_end ?_
 (try simp only [ls0, ls1])
 refine hK35 _ _ ?_
 (try clear hK35 K35)
 by_cases c42 : t36 = true
 ·rw [if_pos c42] at H
  (try rw [c42])
  (try simp only [Bool.not_true, Bool.not_false])
  refine wp_cond_false rfl ?_
  refine wp_skip ?_
  (try simp only [ls0, ls1])
  refine hK34 _ _ ?_
  (try clear hK34 K34)
  refine wp_seq_k fun K43 hK43 => ?_
  refine wl_region ?_
  refine mv_ rfl ?_
  refine st (.pointer (some ⟨g0, 0, none⟩)) rfl rfl (xr_nilCheck _ rfl rfl) ?_
  refine st (.pointer (some ⟨g0, 2, none⟩)) rfl rfl (xr_fieldAddr _ _ rfl rfl (bx_field2 Try.underlying111 rfl rfl (by kernel_rfl))) ?_
  refine st (.int .i64 a0_2) rfl rfl (xr_load _ _ rfl rfl (load_cell Try.underlying3 rfl (bx_cell (HP0).2 2 rfl))) ?_
  simp only [ls0, ls1]
  refine st (.int .i64 (wrap64 (a0_2 + 1))) rfl rfl (xr_bin _ _ _ rfl rfl rfl (B.add_i64 _ _)) ?_
  refine st (.pointer (some ⟨g0, 0, none⟩)) rfl rfl (xr_nilCheck _ rfl rfl) ?_
  refine st (.pointer (some ⟨g0, 2, none⟩)) rfl rfl (xr_fieldAddr _ _ rfl rfl (bx_field2 Try.underlying111 rfl rfl (by kernel_rfl))) ?_
  refine bx_store (C := C40_) (z := 1) (g := g0) (j := 2) (tb := 111) (u := .int .i64 (wrap64 (a0_2 + 1))) (seg := [.int .i64 (wrap64 (a0_2 + 1))]) (xs := [.slice A0_0 l0_0.length c0_0, .slice A0_1 l0_1.length c0_1, .int .i64 a0_2, .int .i64 a0_3]) rfl rfl rfl rfl rfl rfl (by first | kernel_rfl | rfl) (by simp [Value.oneCell']) HP0 (by simp only [List.length_cons, List.length_nil]; omega) rfl ?_
  intro w44 HX45 hs46
  replace HP0_0 := HP0_0.thru hs46 rfl
  replace HP0_1 := HP0_1.thru hs46 rfl
  replace HS := HS.trans hs46 hc rfl
  (try simp only [ls0, ls1])
  refine wl_end ?_
  (try simp only [ls0, ls1])
  refine hK43 _ _ ?_
  (try clear hK43 K43)
  refine wp_seq_k fun K47 hK47 => ?_
  refine wl_region ?_
  refine mv_ rfl ?_
  refine as_ rfl ?_
  refine st (.bool true) rfl rfl (xr_assign _ rfl rfl) ?_
  refine wl_end ?_
  (try simp only [ls0, ls1])
  refine hK47 _ _ ?_
  (try clear hK47 K47)
  refine wp_ret ?_
  (try simp only [Exit.inBlock, Exit.then, Exit.noGoto])
  (try simp only [ls0, ls1])
  simp only [Option.some.injEq, Prod.mk.injEq] at H
  obtain ⟨rfl, rfl, rfl⟩ := H
  refine bodyPost_ret (results_tmp2 rfl _ _ _) rfl ?_
  exact ⟨_, rfl, HS, HX45⟩
 rw [if_neg c42] at H
 (try rw [(Bool.eq_false_iff.mpr c42)])
 (try simp only [Bool.not_true, Bool.not_false])
 refine wp_cond_true rfl ?_
 refine wp_seq_k fun K48 hK48 => ?_
 refine wl_region ?_
 refine st (.string (⟨#[]⟩ : ByteArray)) rfl rfl (xr_assign _ rfl rfl) ?_
 refine st (.bool false) rfl rfl (xr_assign _ rfl rfl) ?_
 refine wl_end ?_
 (try simp only [ls0, ls1])
 refine hK48 _ _ ?_
 (try clear hK48 K48)
 refine wp_ret ?_
 (try simp only [Exit.inBlock, Exit.then, Exit.noGoto])
 (try simp only [ls0, ls1])
 simp only [Option.some.injEq, Prod.mk.injEq] at H
 obtain ⟨rfl, rfl, rfl⟩ := H
 refine bodyPost_ret (results_tmp2 rfl _ _ _) rfl ?_
 exact ⟨_, rfl, HS, HP0⟩

structure Rec_expr_Cursor_binary where
  expr_Cursor_binary : (List Int) → (List (S28)) → Int → Int → Int → Option (Int × Int × Int × ByteArray × ByteArray × (List (S44)) × Int × Int × Int)
  expr_Cursor_signed : (List Int) → (List (S28)) → Int → Int → Option (Int × Int × Int × ByteArray × ByteArray × (List (S44)) × Int × Int × Int)
  expr_Cursor_primary : (List Int) → (List (S28)) → Int → Int → Option (Int × Int × Int × ByteArray × ByteArray × (List (S44)) × Int × Int × Int)
  expr_Cursor_group : (List Int) → (List (S28)) → Int → Int → Option (Int × Int × Int × ByteArray × ByteArray × (List (S44)) × Int × Int × Int)
  expr_Cursor_open : (List Int) → (List (S28)) → Int → Int → Option (Int × Int × Int × ByteArray × ByteArray × (List (S44)) × Int × Int × Int)
  expr_Cursor_named : (List Int) → (List (S28)) → Int → Int → Option (Int × Int × Int × ByteArray × ByteArray × (List (S44)) × Int × Int × Int)
structure Rec_expr_Cursor_binary.Good (r_ : Rec_expr_Cursor_binary) : Prop where
  expr_Cursor_binary : ∀ (g0 : Nat) (A0_0 : Option Addr) (c0_0 : Nat) (l0_0 : List Int) (A0_1 : Option Addr) (c0_1 : Nat) (l0_1 : List (S28)) (a0_2 : Int) (a0_3 : Int) (a1 : Int) (r1 : Int) (r2 : Int) (r3 : Int) (r4 : ByteArray) (r5 : ByteArray) (r6 : List (S44)) (r7 : Int) (r8 : Int) (r9 : Int) (c : Nat → Nat) (w : World) (hc : ∀ k, c k < 10) (HP0 : Bx c 1 w g0 111 ([.slice A0_0 l0_0.length c0_0, .slice A0_1 l0_1.length c0_1, .int .i64 a0_2, .int .i64 a0_3])) (HP0_0 : Ft c [0] w (fun w_ => (Kd.int .u8).C w_ A0_0 l0_0.length l0_0)) (HCP0_0 : l0_0.length ≤ c0_0) (HP0_1 : Ft c [0] w (fun w_ => k28.C w_ A0_1 l0_1.length l0_1)) (HCP0_1 : l0_1.length ≤ c0_1) (H : r_.expr_Cursor_binary l0_0 l0_1 a0_2 a0_3 a1 = some (r1, r2, r3, r4, r5, r6, r7, r8, r9)),
    Calls Try.prog 82 #[.pointer (some ⟨g0, 0, none⟩), .int .i64 a1] w fun e w' => ∃ (c' : Nat → Nat) (A_r6 : Option Addr) (c_r6 : Nat), e = .returned (.tuple #[.agg #[.int .i64 r1, .int .i64 r2, .int .i64 r3, .string r4, .string r5, .slice A_r6 r6.length c_r6], .int .i64 r7]) ∧ Step c w c' w' [1] ∧ Ft c' [0] w' (fun w_ => k44.C w_ A_r6 r6.length r6) ∧ r6.length ≤ c_r6 ∧ Bx c' 1 w' g0 111 ([.slice A0_0 l0_0.length c0_0, .slice A0_1 l0_1.length c0_1, .int .i64 r8, .int .i64 r9])
  expr_Cursor_signed : ∀ (g0 : Nat) (A0_0 : Option Addr) (c0_0 : Nat) (l0_0 : List Int) (A0_1 : Option Addr) (c0_1 : Nat) (l0_1 : List (S28)) (a0_2 : Int) (a0_3 : Int) (r1 : Int) (r2 : Int) (r3 : Int) (r4 : ByteArray) (r5 : ByteArray) (r6 : List (S44)) (r7 : Int) (r8 : Int) (r9 : Int) (c : Nat → Nat) (w : World) (hc : ∀ k, c k < 10) (HP0 : Bx c 1 w g0 111 ([.slice A0_0 l0_0.length c0_0, .slice A0_1 l0_1.length c0_1, .int .i64 a0_2, .int .i64 a0_3])) (HP0_0 : Ft c [0] w (fun w_ => (Kd.int .u8).C w_ A0_0 l0_0.length l0_0)) (HCP0_0 : l0_0.length ≤ c0_0) (HP0_1 : Ft c [0] w (fun w_ => k28.C w_ A0_1 l0_1.length l0_1)) (HCP0_1 : l0_1.length ≤ c0_1) (H : r_.expr_Cursor_signed l0_0 l0_1 a0_2 a0_3 = some (r1, r2, r3, r4, r5, r6, r7, r8, r9)),
    Calls Try.prog 102 #[.pointer (some ⟨g0, 0, none⟩)] w fun e w' => ∃ (c' : Nat → Nat) (A_r6 : Option Addr) (c_r6 : Nat), e = .returned (.tuple #[.agg #[.int .i64 r1, .int .i64 r2, .int .i64 r3, .string r4, .string r5, .slice A_r6 r6.length c_r6], .int .i64 r7]) ∧ Step c w c' w' [1] ∧ Ft c' [0] w' (fun w_ => k44.C w_ A_r6 r6.length r6) ∧ r6.length ≤ c_r6 ∧ Bx c' 1 w' g0 111 ([.slice A0_0 l0_0.length c0_0, .slice A0_1 l0_1.length c0_1, .int .i64 r8, .int .i64 r9])
  expr_Cursor_primary : ∀ (g0 : Nat) (A0_0 : Option Addr) (c0_0 : Nat) (l0_0 : List Int) (A0_1 : Option Addr) (c0_1 : Nat) (l0_1 : List (S28)) (a0_2 : Int) (a0_3 : Int) (r1 : Int) (r2 : Int) (r3 : Int) (r4 : ByteArray) (r5 : ByteArray) (r6 : List (S44)) (r7 : Int) (r8 : Int) (r9 : Int) (c : Nat → Nat) (w : World) (hc : ∀ k, c k < 10) (HP0 : Bx c 1 w g0 111 ([.slice A0_0 l0_0.length c0_0, .slice A0_1 l0_1.length c0_1, .int .i64 a0_2, .int .i64 a0_3])) (HP0_0 : Ft c [0] w (fun w_ => (Kd.int .u8).C w_ A0_0 l0_0.length l0_0)) (HCP0_0 : l0_0.length ≤ c0_0) (HP0_1 : Ft c [0] w (fun w_ => k28.C w_ A0_1 l0_1.length l0_1)) (HCP0_1 : l0_1.length ≤ c0_1) (H : r_.expr_Cursor_primary l0_0 l0_1 a0_2 a0_3 = some (r1, r2, r3, r4, r5, r6, r7, r8, r9)),
    Calls Try.prog 120 #[.pointer (some ⟨g0, 0, none⟩)] w fun e w' => ∃ (c' : Nat → Nat) (A_r6 : Option Addr) (c_r6 : Nat), e = .returned (.tuple #[.agg #[.int .i64 r1, .int .i64 r2, .int .i64 r3, .string r4, .string r5, .slice A_r6 r6.length c_r6], .int .i64 r7]) ∧ Step c w c' w' [1] ∧ Ft c' [0] w' (fun w_ => k44.C w_ A_r6 r6.length r6) ∧ r6.length ≤ c_r6 ∧ Bx c' 1 w' g0 111 ([.slice A0_0 l0_0.length c0_0, .slice A0_1 l0_1.length c0_1, .int .i64 r8, .int .i64 r9])
  expr_Cursor_group : ∀ (g0 : Nat) (A0_0 : Option Addr) (c0_0 : Nat) (l0_0 : List Int) (A0_1 : Option Addr) (c0_1 : Nat) (l0_1 : List (S28)) (a0_2 : Int) (a0_3 : Int) (r1 : Int) (r2 : Int) (r3 : Int) (r4 : ByteArray) (r5 : ByteArray) (r6 : List (S44)) (r7 : Int) (r8 : Int) (r9 : Int) (c : Nat → Nat) (w : World) (hc : ∀ k, c k < 10) (HP0 : Bx c 1 w g0 111 ([.slice A0_0 l0_0.length c0_0, .slice A0_1 l0_1.length c0_1, .int .i64 a0_2, .int .i64 a0_3])) (HP0_0 : Ft c [0] w (fun w_ => (Kd.int .u8).C w_ A0_0 l0_0.length l0_0)) (HCP0_0 : l0_0.length ≤ c0_0) (HP0_1 : Ft c [0] w (fun w_ => k28.C w_ A0_1 l0_1.length l0_1)) (HCP0_1 : l0_1.length ≤ c0_1) (H : r_.expr_Cursor_group l0_0 l0_1 a0_2 a0_3 = some (r1, r2, r3, r4, r5, r6, r7, r8, r9)),
    Calls Try.prog 132 #[.pointer (some ⟨g0, 0, none⟩)] w fun e w' => ∃ (c' : Nat → Nat) (A_r6 : Option Addr) (c_r6 : Nat), e = .returned (.tuple #[.agg #[.int .i64 r1, .int .i64 r2, .int .i64 r3, .string r4, .string r5, .slice A_r6 r6.length c_r6], .int .i64 r7]) ∧ Step c w c' w' [1] ∧ Ft c' [0] w' (fun w_ => k44.C w_ A_r6 r6.length r6) ∧ r6.length ≤ c_r6 ∧ Bx c' 1 w' g0 111 ([.slice A0_0 l0_0.length c0_0, .slice A0_1 l0_1.length c0_1, .int .i64 r8, .int .i64 r9])
  expr_Cursor_open : ∀ (g0 : Nat) (A0_0 : Option Addr) (c0_0 : Nat) (l0_0 : List Int) (A0_1 : Option Addr) (c0_1 : Nat) (l0_1 : List (S28)) (a0_2 : Int) (a0_3 : Int) (r1 : Int) (r2 : Int) (r3 : Int) (r4 : ByteArray) (r5 : ByteArray) (r6 : List (S44)) (r7 : Int) (r8 : Int) (r9 : Int) (c : Nat → Nat) (w : World) (hc : ∀ k, c k < 10) (HP0 : Bx c 1 w g0 111 ([.slice A0_0 l0_0.length c0_0, .slice A0_1 l0_1.length c0_1, .int .i64 a0_2, .int .i64 a0_3])) (HP0_0 : Ft c [0] w (fun w_ => (Kd.int .u8).C w_ A0_0 l0_0.length l0_0)) (HCP0_0 : l0_0.length ≤ c0_0) (HP0_1 : Ft c [0] w (fun w_ => k28.C w_ A0_1 l0_1.length l0_1)) (HCP0_1 : l0_1.length ≤ c0_1) (H : r_.expr_Cursor_open l0_0 l0_1 a0_2 a0_3 = some (r1, r2, r3, r4, r5, r6, r7, r8, r9)),
    Calls Try.prog 133 #[.pointer (some ⟨g0, 0, none⟩)] w fun e w' => ∃ (c' : Nat → Nat) (A_r6 : Option Addr) (c_r6 : Nat), e = .returned (.tuple #[.agg #[.int .i64 r1, .int .i64 r2, .int .i64 r3, .string r4, .string r5, .slice A_r6 r6.length c_r6], .int .i64 r7]) ∧ Step c w c' w' [1] ∧ Ft c' [0] w' (fun w_ => k44.C w_ A_r6 r6.length r6) ∧ r6.length ≤ c_r6 ∧ Bx c' 1 w' g0 111 ([.slice A0_0 l0_0.length c0_0, .slice A0_1 l0_1.length c0_1, .int .i64 r8, .int .i64 r9])
  expr_Cursor_named : ∀ (g0 : Nat) (A0_0 : Option Addr) (c0_0 : Nat) (l0_0 : List Int) (A0_1 : Option Addr) (c0_1 : Nat) (l0_1 : List (S28)) (a0_2 : Int) (a0_3 : Int) (r1 : Int) (r2 : Int) (r3 : Int) (r4 : ByteArray) (r5 : ByteArray) (r6 : List (S44)) (r7 : Int) (r8 : Int) (r9 : Int) (c : Nat → Nat) (w : World) (hc : ∀ k, c k < 10) (HP0 : Bx c 1 w g0 111 ([.slice A0_0 l0_0.length c0_0, .slice A0_1 l0_1.length c0_1, .int .i64 a0_2, .int .i64 a0_3])) (HP0_0 : Ft c [0] w (fun w_ => (Kd.int .u8).C w_ A0_0 l0_0.length l0_0)) (HCP0_0 : l0_0.length ≤ c0_0) (HP0_1 : Ft c [0] w (fun w_ => k28.C w_ A0_1 l0_1.length l0_1)) (HCP0_1 : l0_1.length ≤ c0_1) (H : r_.expr_Cursor_named l0_0 l0_1 a0_2 a0_3 = some (r1, r2, r3, r4, r5, r6, r7, r8, r9)),
    Calls Try.prog 134 #[.pointer (some ⟨g0, 0, none⟩)] w fun e w' => ∃ (c' : Nat → Nat) (A_r6 : Option Addr) (c_r6 : Nat), e = .returned (.tuple #[.agg #[.int .i64 r1, .int .i64 r2, .int .i64 r3, .string r4, .string r5, .slice A_r6 r6.length c_r6], .int .i64 r7]) ∧ Step c w c' w' [1] ∧ Ft c' [0] w' (fun w_ => k44.C w_ A_r6 r6.length r6) ∧ r6.length ≤ c_r6 ∧ Bx c' 1 w' g0 111 ([.slice A0_0 l0_0.length c0_0, .slice A0_1 l0_1.length c0_1, .int .i64 r8, .int .i64 r9])

/-! ### expr_Cursor_binary: function 82 -/
mutual
def expr_Cursor_binary.j0 (r_ : Rec_expr_Cursor_binary) : Nat → Int → Int → Int → Int → Int → Int → ByteArray → ByteArray → (List (S44)) → Option (Int × Int × Int × ByteArray × ByteArray × (List (S44)) × Int × Int × Int)
  | 0, _, _, _, _, _, _, _, _, _ => none
  | k + 1, x1550, x1553, x1554, x1557, x1558, x1559, x1560, x1561, x1562 => if x1550 = 0 then (some (x1557, x1558, x1559, x1560, x1561, x1562, 0, x1553, x1554)) else (some (0, 0, 0, (⟨#[]⟩ : ByteArray), (⟨#[]⟩ : ByteArray), ([] : List (S44)), x1550, x1553, x1554))
def expr_Cursor_binary.l0 (r_ : Rec_expr_Cursor_binary) : Nat → Int → (List Int) → (List (S28)) → Int → Int → Int → Int → Int → Int → ByteArray → ByteArray → (List (S44)) → Option (Int × Int × Int × ByteArray × ByteArray × (List (S44)) × Int × Int × Int)
  | 0, _, _, _, _, _, _, _, _, _, _, _, _ => none
  | k + 1, a1, l0_0, l0_1, x1881, x1884, x1885, x1888, x1889, x1890, x1891, x1892, x1893 => if x1881 = 0 then ((expr_Cursor_Peek.f (some (⟨l0_0, l0_1, x1884, x1885⟩ : S111) : Option S111)).bind fun t1957 => ((expr_level.f t1957).bind fun t1963 => (if t1963 = a1 then ((expr_Cursor_Peek.f (some (⟨l0_0, l0_1, x1884, x1885⟩ : S111) : Option S111)).bind fun t1973 => ((r_.expr_Cursor_binary l0_0 l0_1 (wrap64 (x1884 + 1)) x1885 (wrap64 (a1 + 1))).bind fun bt1990 => (if bt1990.2.2.2.2.2.2.1 = 0 then ((some ([(⟨x1888, x1889, x1890, x1891, x1892, x1893⟩ : S44), (⟨bt1990.1, bt1990.2.1, bt1990.2.2.1, bt1990.2.2.2.1, bt1990.2.2.2.2.1, bt1990.2.2.2.2.2.1⟩ : S44)] : List (S44))).bind fun y2014 => ((expr_Cursor_held.f k l0_0 l0_1 bt1990.2.2.2.2.2.2.2.1 bt1990.2.2.2.2.2.2.2.2 5 x1889 0 t1973 (⟨#[]⟩ : ByteArray) y2014 x1884).bind fun bt2024 => (expr_Cursor_binary.l0 r_ k a1 l0_0 l0_1 bt2024.2.2.2.2.2.2.1 bt2024.2.2.2.2.2.2.2 bt1990.2.2.2.2.2.2.2.2 bt2024.1 bt2024.2.1 bt2024.2.2.1 bt2024.2.2.2.1 bt2024.2.2.2.2.1 bt2024.2.2.2.2.2.1))) else (expr_Cursor_binary.l0 r_ k a1 l0_0 l0_1 bt1990.2.2.2.2.2.2.1 bt1990.2.2.2.2.2.2.2.1 bt1990.2.2.2.2.2.2.2.2 x1888 x1889 x1890 x1891 x1892 x1893)))) else (expr_Cursor_binary.j0 r_ k x1881 x1884 x1885 x1888 x1889 x1890 x1891 x1892 x1893)))) else (expr_Cursor_binary.j0 r_ k x1881 x1884 x1885 x1888 x1889 x1890 x1891 x1892 x1893)
end
def expr_Cursor_binary.g (r_ : Rec_expr_Cursor_binary) (k : Nat) (l0_0 : List Int) (l0_1 : List (S28)) (a0_2 : Int) (a0_3 : Int) (a1 : Int) : Option (Int × Int × Int × ByteArray × ByteArray × (List (S44)) × Int × Int × Int) := if a1 = 6 then ((r_.expr_Cursor_signed l0_0 l0_1 a0_2 a0_3).bind fun bt1033 => (some (bt1033.1, bt1033.2.1, bt1033.2.2.1, bt1033.2.2.2.1, bt1033.2.2.2.2.1, bt1033.2.2.2.2.2.1, bt1033.2.2.2.2.2.2.1, bt1033.2.2.2.2.2.2.2.1, bt1033.2.2.2.2.2.2.2.2))) else ((r_.expr_Cursor_binary l0_0 l0_1 a0_2 a0_3 (wrap64 (a1 + 1))).bind fun bt1056 => (expr_Cursor_binary.l0 r_ k a1 l0_0 l0_1 bt1056.2.2.2.2.2.2.1 bt1056.2.2.2.2.2.2.2.1 bt1056.2.2.2.2.2.2.2.2 bt1056.1 bt1056.2.1 bt1056.2.2.1 bt1056.2.2.2.1 bt1056.2.2.2.2.1 bt1056.2.2.2.2.2.1))

set_option maxHeartbeats 8000000 in
set_option maxRecDepth 100000 in
theorem expr_Cursor_binary.step (r_ : Rec_expr_Cursor_binary) (IH : Rec_expr_Cursor_binary.Good r_) (k : Nat) (g0 : Nat) (A0_0 : Option Addr) (c0_0 : Nat) (l0_0 : List Int) (A0_1 : Option Addr) (c0_1 : Nat) (l0_1 : List (S28)) (a0_2 : Int) (a0_3 : Int) (a1 : Int) (r1 : Int) (r2 : Int) (r3 : Int) (r4 : ByteArray) (r5 : ByteArray) (r6 : List (S44)) (r7 : Int) (r8 : Int) (r9 : Int) (c : Nat → Nat) (w : World) (hc : ∀ k, c k < 10) (HP0 : Bx c 1 w g0 111 ([.slice A0_0 l0_0.length c0_0, .slice A0_1 l0_1.length c0_1, .int .i64 a0_2, .int .i64 a0_3])) (HP0_0 : Ft c [0] w (fun w_ => (Kd.int .u8).C w_ A0_0 l0_0.length l0_0)) (HCP0_0 : l0_0.length ≤ c0_0) (HP0_1 : Ft c [0] w (fun w_ => k28.C w_ A0_1 l0_1.length l0_1)) (HCP0_1 : l0_1.length ≤ c0_1) (H : expr_Cursor_binary.g r_ k l0_0 l0_1 a0_2 a0_3 a1 = some (r1, r2, r3, r4, r5, r6, r7, r8, r9)) :
    Calls Try.prog 82 #[.pointer (some ⟨g0, 0, none⟩), .int .i64 a1] w fun e w' => ∃ (c' : Nat → Nat) (A_r6 : Option Addr) (c_r6 : Nat), e = .returned (.tuple #[.agg #[.int .i64 r1, .int .i64 r2, .int .i64 r3, .string r4, .string r5, .slice A_r6 r6.length c_r6], .int .i64 r7]) ∧ Step c w c' w' [1] ∧ Ft c' [0] w' (fun w_ => k44.C w_ A_r6 r6.length r6) ∧ r6.length ≤ c_r6 ∧ Bx c' 1 w' g0 111 ([.slice A0_0 l0_0.length c0_0, .slice A0_1 l0_1.length c0_1, .int .i64 r8, .int .i64 r9]) := by
 unfold expr_Cursor_binary.g at H
 have HS := Step.refl c w [1]
 go_enter Try.func82, Try.ntmps82
 refine wp_seq_k fun K1023 hK1023 => ?_
 refine wl_region ?_
 refine bx_new (C := c) 44 ([.int .i64 0, .int .i64 0, .int .i64 0, .string (⟨#[]⟩ : ByteArray), .string (⟨#[]⟩ : ByteArray), .slice none 0 0]) 11 rfl rfl (by first | (go_simp; done) | (go_simp; rfl)) ?_
 intro g1024 w1025 C1026 HX1027 hs1028
 replace HP0 := HP0.thru hs1028 rfl
 replace HP0_0 := HP0_0.thru hs1028 rfl
 replace HP0_1 := HP0_1.thru hs1028 rfl
 replace HS := HS.trans hs1028 hc rfl
 (try simp only [ls0, ls1])
 refine st (.int .i64 0) rfl rfl (xr_assign _ rfl rfl) ?_
 refine wl_end ?_
 (try simp only [ls0, ls1])
 refine hK1023 _ _ ?_
 (try clear hK1023 K1023)
 refine wp_seq_k fun K1029 hK1029 => ?_
 refine wp_seq_k fun K1030 hK1030 => ?_
 refine wl_region ?_
 refine mv_ rfl ?_
 refine st (.bool (decide (a1 = 6))) rfl rfl (xr_bin _ _ _ rfl rfl rfl (B.eql_i64 _ _)) ?_
 refine wl_end ?_
 (try simp only [ls0, ls1])
 refine hK1030 _ _ ?_
 (try clear hK1030 K1030)
 by_cases c1031 : a1 = 6
 ·rw [if_pos c1031] at H
  (try rw [(decide_eq_true c1031)])
  refine wp_cond_true rfl ?_
  refine wp_seq_k fun K1032 hK1032 => ?_
  refine wl_region ?_
  refine mv_ rfl ?_
  obtain ⟨⟨t1033, t1034, t1035, t1036, t1037, t1038, t1039, t1040, t1041⟩, A1042, H⟩ := bnd H
  (try dsimp only at H)
  refine st_call #[.pointer (some ⟨g0, 0, none⟩)] rfl rfl Try.func102 (by kernel_rfl) rfl rfl (mp_ rfl) ?_
  refine (IH.expr_Cursor_signed g0 A0_0 c0_0 l0_0 A0_1 c0_1 l0_1 a0_2 a0_3 t1033 t1034 t1035 t1036 t1037 t1038 t1039 t1040 t1041  (fun z_ => pal [(0, 0), (1, 1)] (C1026 z_)) w1025 (fun _ => pal_lt rfl _) (Bx.arg HP0 rfl) (Ft.arg HP0_0 rfl) HCP0_0 (Ft.arg HP0_1 rfl) HCP0_1 A1042).mono ?_
  rintro _ w1044 ⟨C1045, A1047, cp1048, rfl, hs1046, HO1049, HC1050, HX1051⟩
  refine ⟨_, rfl, ?_⟩
  replace HO1049 := Ft.res (U := [(0, 0), (1, 1)]) HO1049 hs1046 [0] rfl rfl rfl
  replace HX1051 := Bx.res (U := [(0, 0), (1, 1)]) (j := 1) HX1051 hs1046 (by rfl) (by decide) rfl
  replace hs1046 := Step.lift (U := [(0, 0), (1, 1)]) hs1046 [1] rfl rfl
  generalize up C1026 C1045 w1025.heap.size [(0, 0), (1, 1)] = C1045_ at HO1049 HX1051 hs1046
  replace HP0_0 := HP0_0.thru hs1046 rfl
  replace HP0_1 := HP0_1.thru hs1046 rfl
  replace HX1027 := HX1027.thru hs1046 rfl
  replace HS := HS.trans hs1046 hc rfl
  (try simp only [ls0, ls1])
  refine st (.agg #[.int .i64 t1033, .int .i64 t1034, .int .i64 t1035, .string t1036, .string t1037, .slice A1047 t1038.length cp1048]) rfl rfl (xr_extract (.tuple #[.agg #[.int .i64 t1033, .int .i64 t1034, .int .i64 t1035, .string t1036, .string t1037, .slice A1047 t1038.length cp1048], .int .i64 t1039]) _ rfl rfl rfl) ?_
  refine st (.int .i64 t1039) rfl rfl (xr_extract (.tuple #[.agg #[.int .i64 t1033, .int .i64 t1034, .int .i64 t1035, .string t1036, .string t1037, .slice A1047 t1038.length cp1048], .int .i64 t1039]) _ rfl rfl rfl) ?_
  refine bx_store (C := C1045_) (z := 11) (g := g1024) (j := 0) (tb := 44) (u := .agg #[.int .i64 t1033, .int .i64 t1034, .int .i64 t1035, .string t1036, .string t1037, .slice A1047 t1038.length cp1048]) (seg := [.int .i64 t1033, .int .i64 t1034, .int .i64 t1035, .string t1036, .string t1037, .slice A1047 t1038.length cp1048]) (xs := [.int .i64 0, .int .i64 0, .int .i64 0, .string (⟨#[]⟩ : ByteArray), .string (⟨#[]⟩ : ByteArray), .slice none 0 0]) rfl rfl rfl rfl rfl rfl (by first | kernel_rfl | rfl) (by simp [Value.oneCell']) HX1027 (by simp only [List.length_cons, List.length_nil]; omega) rfl ?_
  intro w1052 HX1053 hs1054
  replace HX1051 := HX1051.thru hs1054 rfl
  replace HP0_0 := HP0_0.thru hs1054 rfl
  replace HP0_1 := HP0_1.thru hs1054 rfl
  replace HO1049 := HO1049.thru hs1054 rfl
  replace HS := HS.trans hs1054 hc rfl
  (try simp only [ls0, ls1])
  refine as_ rfl ?_
  refine wl_end ?_
  (try simp only [ls0, ls1])
  refine hK1032 _ _ ?_
  (try clear hK1032 K1032)
  refine wp_ret ?_
  (try simp only [Exit.inBlock, Exit.then, Exit.noGoto])
  (try simp only [ls0, ls1])
  simp only [Option.some.injEq, Prod.mk.injEq] at H
  obtain ⟨rfl, rfl, rfl, rfl, rfl, rfl, rfl, rfl, rfl⟩ := H
  refine bodyPost_ret (res_ct rfl rfl (load_of (load_agg (cs := [.int .i64 t1033, .int .i64 t1034, .int .i64 t1035, .string t1036, .string t1037, .slice A1047 t1038.length cp1048]) Try.underlying44 rfl (by kernel_rfl) (bx_cells (HX1053).2 0 rfl)))) rfl ?_
  exact ⟨_, A1047, cp1048, rfl, HS, HO1049, HC1050, HX1051⟩
 rw [if_neg c1031] at H
 (try rw [(decide_eq_false c1031)])
 refine wp_cond_false rfl ?_
 refine wp_skip ?_
 (try simp only [ls0, ls1])
 refine hK1029 _ _ ?_
 (try clear hK1029 K1029)
 refine wp_seq_k fun K1055 hK1055 => ?_
 refine wl_region ?_
 refine mv_ rfl ?_
 refine mv_ rfl ?_
 refine st (.int .i64 (wrap64 (a1 + 1))) rfl rfl (xr_bin _ _ _ rfl rfl rfl (B.add_i64 _ _)) ?_
 obtain ⟨⟨t1056, t1057, t1058, t1059, t1060, t1061, t1062, t1063, t1064⟩, A1065, H⟩ := bnd H
 (try dsimp only at H)
 refine st_call #[.pointer (some ⟨g0, 0, none⟩), .int .i64 (wrap64 (a1 + 1))] rfl rfl Try.func82 (by kernel_rfl) rfl rfl (mp_ rfl) ?_
 refine (IH.expr_Cursor_binary g0 A0_0 c0_0 l0_0 A0_1 c0_1 l0_1 a0_2 a0_3 (wrap64 (a1 + 1)) t1056 t1057 t1058 t1059 t1060 t1061 t1062 t1063 t1064  (fun z_ => pal [(0, 0), (1, 1)] (C1026 z_)) w1025 (fun _ => pal_lt rfl _) (Bx.arg HP0 rfl) (Ft.arg HP0_0 rfl) HCP0_0 (Ft.arg HP0_1 rfl) HCP0_1 A1065).mono ?_
 rintro _ w1067 ⟨C1068, A1070, cp1071, rfl, hs1069, HO1072, HC1073, HX1074⟩
 refine ⟨_, rfl, ?_⟩
 replace HO1072 := Ft.res (U := [(0, 0), (1, 1)]) HO1072 hs1069 [0] rfl rfl rfl
 replace HX1074 := Bx.res (U := [(0, 0), (1, 1)]) (j := 1) HX1074 hs1069 (by rfl) (by decide) rfl
 replace hs1069 := Step.lift (U := [(0, 0), (1, 1)]) hs1069 [1] rfl rfl
 generalize up C1026 C1068 w1025.heap.size [(0, 0), (1, 1)] = C1068_ at HO1072 HX1074 hs1069
 replace HP0_0 := HP0_0.thru hs1069 rfl
 replace HP0_1 := HP0_1.thru hs1069 rfl
 replace HX1027 := HX1027.thru hs1069 rfl
 replace HS := HS.trans hs1069 hc rfl
 (try simp only [ls0, ls1])
 refine mv_ rfl ?_
 refine st (.agg #[.int .i64 t1056, .int .i64 t1057, .int .i64 t1058, .string t1059, .string t1060, .slice A1070 t1061.length cp1071]) rfl rfl (xr_extract (.tuple #[.agg #[.int .i64 t1056, .int .i64 t1057, .int .i64 t1058, .string t1059, .string t1060, .slice A1070 t1061.length cp1071], .int .i64 t1062]) _ rfl rfl rfl) ?_
 refine st (.int .i64 t1062) rfl rfl (xr_extract (.tuple #[.agg #[.int .i64 t1056, .int .i64 t1057, .int .i64 t1058, .string t1059, .string t1060, .slice A1070 t1061.length cp1071], .int .i64 t1062]) _ rfl rfl rfl) ?_
 refine bx_new (C := C1068_) 44 ([.int .i64 0, .int .i64 0, .int .i64 0, .string (⟨#[]⟩ : ByteArray), .string (⟨#[]⟩ : ByteArray), .slice none 0 0]) 12 rfl rfl (by first | (go_simp; done) | (go_simp; rfl)) ?_
 intro g1075 w1076 C1077 HX1078 hs1079
 replace HX1074 := HX1074.thru hs1079 rfl
 replace HP0_0 := HP0_0.thru hs1079 rfl
 replace HP0_1 := HP0_1.thru hs1079 rfl
 replace HX1027 := HX1027.thru hs1079 rfl
 replace HO1072 := HO1072.thru hs1079 rfl
 replace HS := HS.trans hs1079 hc rfl
 (try simp only [ls0, ls1])
 refine bx_store (C := C1077) (z := 12) (g := g1075) (j := 0) (tb := 44) (u := .agg #[.int .i64 t1056, .int .i64 t1057, .int .i64 t1058, .string t1059, .string t1060, .slice A1070 t1061.length cp1071]) (seg := [.int .i64 t1056, .int .i64 t1057, .int .i64 t1058, .string t1059, .string t1060, .slice A1070 t1061.length cp1071]) (xs := [.int .i64 0, .int .i64 0, .int .i64 0, .string (⟨#[]⟩ : ByteArray), .string (⟨#[]⟩ : ByteArray), .slice none 0 0]) rfl rfl rfl rfl rfl rfl (by first | kernel_rfl | rfl) (by simp [Value.oneCell']) HX1078 (by simp only [List.length_cons, List.length_nil]; omega) rfl ?_
 intro w1080 HX1081 hs1082
 replace HX1074 := HX1074.thru hs1082 rfl
 replace HP0_0 := HP0_0.thru hs1082 rfl
 replace HP0_1 := HP0_1.thru hs1082 rfl
 replace HX1027 := HX1027.thru hs1082 rfl
 replace HO1072 := HO1072.thru hs1082 rfl
 replace HS := HS.trans hs1082 hc rfl
 (try simp only [ls0, ls1])
 refine as_ rfl ?_
 refine wl_end ?_
 (try simp only [ls0, ls1])
 refine hK1055 _ _ ?_
 (try clear hK1055 K1055)
 refine wp_seq_k fun K1083 hK1083 => ?_
 have hj1546 : ∀ (kq1569 : Nat) (C1547 : Nat → Nat) (w1548 : World) (x1550 : Int) (x1553 : Int) (x1554 : Int) (x1557 : Int) (x1558 : Int) (x1559 : Int) (x1560 : ByteArray) (x1561 : ByteArray) (A1563 : Option Addr) (n1564 cp1565 : Nat) (x1562 : List (S44)) (g_ : Nat → Value), Step c w C1547 w1548 [1] → kq1569 ≤ k → (Ft C1547 [0] w1548 (fun w_ => (Kd.int .u8).C w_ A0_0 l0_0.length l0_0)) → (Ft C1547 [0] w1548 (fun w_ => k28.C w_ A0_1 l0_1.length l0_1)) → (Bx C1547 1 w1548 g0 111 ([.slice A0_0 l0_0.length c0_0, .slice A0_1 l0_1.length c0_1, .int .i64 x1553, .int .i64 x1554])) → (Bx C1547 11 w1548 g1024 44 ([.int .i64 0, .int .i64 0, .int .i64 0, .string (⟨#[]⟩ : ByteArray), .string (⟨#[]⟩ : ByteArray), .slice none 0 0])) → (Ft C1547 [0] w1548 (fun w_ => k44.C w_ A1563 n1564 x1562)) → (n1564 ≤ cp1565) → (Bx C1547 12 w1548 g1075 44 ([.int .i64 x1557, .int .i64 x1558, .int .i64 x1559, .string x1560, .string x1561, .slice A1563 n1564 cp1565])) → expr_Cursor_binary.j0 r_ kq1569 x1550 x1553 x1554 x1557 x1558 x1559 x1560 x1561 x1562 = some (r1, r2, r3, r4, r5, r6, r7, r8, r9) → K1083 ⟨#[(g_ 0), (g_ 1), (g_ 2), (g_ 3), .pointer (some ⟨g1024, 0, none⟩), (g_ 5), .pointer (some ⟨g1075, 0, none⟩), .int .i64 x1550, (g_ 8), (g_ 9), (g_ 10), (g_ 11), (g_ 12), (g_ 13), (g_ 14), (g_ 15), (g_ 16), (g_ 17), (g_ 18), (g_ 19), (g_ 20), (g_ 21), (g_ 22), (g_ 23), (g_ 24), (g_ 25), (g_ 26), (g_ 27), (g_ 28), (g_ 29), (g_ 30), (g_ 31), (g_ 32), (g_ 33), (g_ 34), (g_ 35), (g_ 36), (g_ 37), (g_ 38), (g_ 39), (g_ 40), (g_ 41), (g_ 42), (g_ 43), (g_ 44), (g_ 45), (g_ 46), (g_ 47), (g_ 48), (g_ 49), (g_ 50), (g_ 51), (g_ 52), (g_ 53), (g_ 54), (g_ 55), (g_ 56), (g_ 57), (g_ 58), (g_ 59), (g_ 60), (g_ 61), (g_ 62), (g_ 63), (g_ 64), (g_ 65), (g_ 66), (g_ 67), (g_ 68), (g_ 69), (g_ 70), (g_ 71), (g_ 72)], []⟩ w1548 := by
  intro kq1569 C1547 w1548 x1550 x1553 x1554 x1557 x1558 x1559 x1560 x1561 A1563 n1564 cp1565 x1562 g_ HS1549 hk1570 HJ1551 HJ1552 HJ1555 HJ1556 HJ1567 HC1566 HJ1568 H
  obtain rfl : n1564 = x1562.length := (Ft.now HJ1567).1.symm
  cases kq1569 with
  | zero => exact absurd H (by simp [expr_Cursor_binary.j0])
  | succ k1571 =>
   simp only [expr_Cursor_binary.j0] at H
   refine hK1083 _ _ ?_
   (try clear hK1083)
   refine wp_seq_k fun K1572 hK1572 => ?_
   refine wp_seq_k fun K1573 hK1573 => ?_
   refine wl_region ?_
   refine mv_ rfl ?_
   refine st (.bool (!decide (x1550 = 0))) rfl rfl (xr_bin _ _ _ rfl rfl rfl (B.neq_i64 _ _)) ?_
   refine wl_end ?_
   (try simp only [ls0, ls1])
   refine hK1573 _ _ ?_
   (try clear hK1573 K1573)
   by_cases c1574 : x1550 = 0
   ·rw [if_pos c1574] at H
    (try rw [(decide_eq_true c1574)])
    (try simp only [Bool.not_true, Bool.not_false])
    refine wp_cond_false rfl ?_
    refine wp_skip ?_
    (try simp only [ls0, ls1])
    refine hK1572 _ _ ?_
    (try clear hK1572 K1572)
    refine wp_seq_k fun K1575 hK1575 => ?_
    refine wl_region ?_
    refine st (.agg #[.int .i64 x1557, .int .i64 x1558, .int .i64 x1559, .string x1560, .string x1561, .slice A1563 x1562.length cp1565]) rfl rfl (xr_load _ _ rfl rfl (load_agg (cs := [.int .i64 x1557, .int .i64 x1558, .int .i64 x1559, .string x1560, .string x1561, .slice A1563 x1562.length cp1565]) Try.underlying44 rfl (by kernel_rfl) (bx_cells (HJ1568).2 0 rfl))) ?_
    refine bx_store (C := C1547) (z := 11) (g := g1024) (j := 0) (tb := 44) (u := .agg #[.int .i64 x1557, .int .i64 x1558, .int .i64 x1559, .string x1560, .string x1561, .slice A1563 x1562.length cp1565]) (seg := [.int .i64 x1557, .int .i64 x1558, .int .i64 x1559, .string x1560, .string x1561, .slice A1563 x1562.length cp1565]) (xs := [.int .i64 0, .int .i64 0, .int .i64 0, .string (⟨#[]⟩ : ByteArray), .string (⟨#[]⟩ : ByteArray), .slice none 0 0]) rfl rfl rfl rfl rfl rfl (by first | kernel_rfl | rfl) (by simp [Value.oneCell']) HJ1556 (by simp only [List.length_cons, List.length_nil]; omega) rfl ?_
    intro w1576 HX1577 hs1578
    replace HJ1555 := HJ1555.thru hs1578 rfl
    replace HJ1551 := HJ1551.thru hs1578 rfl
    replace HJ1552 := HJ1552.thru hs1578 rfl
    replace HJ1567 := HJ1567.thru hs1578 rfl
    replace HJ1568 := HJ1568.thru hs1578 rfl
    replace HS1549 := HS1549.trans hs1578 hc rfl
    (try simp only [ls0, ls1])
    refine st (.int .i64 0) rfl rfl (xr_assign _ rfl rfl) ?_
    refine wl_end ?_
    (try simp only [ls0, ls1])
    refine hK1575 _ _ ?_
    (try clear hK1575 K1575)
    refine wp_ret ?_
    (try simp only [Exit.inBlock, Exit.then, Exit.noGoto])
    (try simp only [ls0, ls1])
    simp only [Option.some.injEq, Prod.mk.injEq] at H
    obtain ⟨rfl, rfl, rfl, rfl, rfl, rfl, rfl, rfl, rfl⟩ := H
    refine bodyPost_ret (res_ct rfl rfl (load_of (load_agg (cs := [.int .i64 x1557, .int .i64 x1558, .int .i64 x1559, .string x1560, .string x1561, .slice A1563 x1562.length cp1565]) Try.underlying44 rfl (by kernel_rfl) (bx_cells (HX1577).2 0 rfl)))) rfl ?_
    exact ⟨_, A1563, cp1565, rfl, HS1549, HJ1567, HC1566, HJ1555⟩
   rw [if_neg c1574] at H
   (try rw [(decide_eq_false c1574)])
   (try simp only [Bool.not_true, Bool.not_false])
   refine wp_cond_true rfl ?_
   refine wp_seq_k fun K1579 hK1579 => ?_
   refine wl_region ?_
   refine st (.agg #[.int .i64 0, .int .i64 0, .int .i64 0, .string (⟨#[]⟩ : ByteArray), .string (⟨#[]⟩ : ByteArray), .slice none 0 0]) rfl rfl (xr_build #[] (.agg #[.int .i64 0, .int .i64 0, .int .i64 0, .string (⟨#[]⟩ : ByteArray), .string (⟨#[]⟩ : ByteArray), .slice none 0 0]) rfl (mp_ rfl) (by first | rfl | (go_simp; done) | (go_simp; rfl) | (go_simp; exact i64_w _) | (go_simp; exact i32_w _))) ?_
   refine mv_ rfl ?_
   refine bx_store (C := C1547) (z := 11) (g := g1024) (j := 0) (tb := 44) (u := .agg #[.int .i64 0, .int .i64 0, .int .i64 0, .string (⟨#[]⟩ : ByteArray), .string (⟨#[]⟩ : ByteArray), .slice none 0 0]) (seg := [.int .i64 0, .int .i64 0, .int .i64 0, .string (⟨#[]⟩ : ByteArray), .string (⟨#[]⟩ : ByteArray), .slice none 0 0]) (xs := [.int .i64 0, .int .i64 0, .int .i64 0, .string (⟨#[]⟩ : ByteArray), .string (⟨#[]⟩ : ByteArray), .slice none 0 0]) rfl rfl rfl rfl rfl rfl (by first | kernel_rfl | rfl) (by simp [Value.oneCell']) HJ1556 (by simp only [List.length_cons, List.length_nil]; omega) rfl ?_
   intro w1580 HX1581 hs1582
   replace HJ1555 := HJ1555.thru hs1582 rfl
   replace HJ1551 := HJ1551.thru hs1582 rfl
   replace HJ1552 := HJ1552.thru hs1582 rfl
   replace HJ1568 := HJ1568.thru hs1582 rfl
   replace HJ1567 := HJ1567.thru hs1582 rfl
   replace HS1549 := HS1549.trans hs1582 hc rfl
   (try simp only [ls0, ls1])
   refine as_ rfl ?_
   refine wl_end ?_
   (try simp only [ls0, ls1])
   refine hK1579 _ _ ?_
   (try clear hK1579 K1579)
   refine wp_ret ?_
   (try simp only [Exit.inBlock, Exit.then, Exit.noGoto])
   (try simp only [ls0, ls1])
   simp only [Option.some.injEq, Prod.mk.injEq] at H
   obtain ⟨rfl, rfl, rfl, rfl, rfl, rfl, rfl, rfl, rfl⟩ := H
   refine bodyPost_ret (res_ct rfl rfl (load_of (load_agg (cs := [.int .i64 0, .int .i64 0, .int .i64 0, .string (⟨#[]⟩ : ByteArray), .string (⟨#[]⟩ : ByteArray), .slice none 0 0]) Try.underlying44 rfl (by kernel_rfl) (bx_cells (HX1581).2 0 rfl)))) rfl ?_
   exact ⟨_, none, 0, rfl, HS1549, (Kd.F_nil _ _ _), (Nat.le_refl 0), HJ1555⟩
 refine wp_block ?_
 (try simp only [ls0, ls1])
 refine wp_looped (looped_fin (fun kq1902 a_ w1901 => ∃ (C1900 : Nat → Nat) (x1881 : Int) (x1884 : Int) (x1885 : Int) (x1888 : Int) (x1889 : Int) (x1890 : Int) (x1891 : ByteArray) (x1892 : ByteArray) (A1894 : Option Addr) (n1895 cp1896 : Nat) (x1893 : List (S44)) (g_ : Nat → Value), a_ = ⟨#[.pointer (some ⟨g0, 0, none⟩), .int .i64 a1, (g_ 2), (g_ 3), .pointer (some ⟨g1024, 0, none⟩), (g_ 5), .pointer (some ⟨g1075, 0, none⟩), .int .i64 x1881, (g_ 8), (g_ 9), (g_ 10), (g_ 11), (g_ 12), (g_ 13), (g_ 14), (g_ 15), (g_ 16), (g_ 17), (g_ 18), (g_ 19), (g_ 20), (g_ 21), (g_ 22), (g_ 23), (g_ 24), (g_ 25), (g_ 26), (g_ 27), (g_ 28), (g_ 29), (g_ 30), (g_ 31), (g_ 32), (g_ 33), (g_ 34), (g_ 35), (g_ 36), (g_ 37), (g_ 38), (g_ 39), (g_ 40), (g_ 41), (g_ 42), (g_ 43), (g_ 44), (g_ 45), (g_ 46), (g_ 47), (g_ 48), (g_ 49), (g_ 50), (g_ 51), (g_ 52), (g_ 53), (g_ 54), (g_ 55), (g_ 56), (g_ 57), (g_ 58), (g_ 59), (g_ 60), (g_ 61), (g_ 62), (g_ 63), (g_ 64), (g_ 65), (g_ 66), (g_ 67), (g_ 68), (g_ 69), (g_ 70), (g_ 71), (g_ 72)], []⟩ ∧ Step c w C1900 w1901 [1] ∧ kq1902 ≤ k ∧ (Ft C1900 [0] w1901 (fun w_ => (Kd.int .u8).C w_ A0_0 l0_0.length l0_0)) ∧ (Ft C1900 [0] w1901 (fun w_ => k28.C w_ A0_1 l0_1.length l0_1)) ∧ (Bx C1900 1 w1901 g0 111 ([.slice A0_0 l0_0.length c0_0, .slice A0_1 l0_1.length c0_1, .int .i64 x1884, .int .i64 x1885])) ∧ (Bx C1900 11 w1901 g1024 44 ([.int .i64 0, .int .i64 0, .int .i64 0, .string (⟨#[]⟩ : ByteArray), .string (⟨#[]⟩ : ByteArray), .slice none 0 0])) ∧ (Ft C1900 [0] w1901 (fun w_ => k44.C w_ A1894 n1895 x1893)) ∧ (n1895 ≤ cp1896) ∧ (Bx C1900 12 w1901 g1075 44 ([.int .i64 x1888, .int .i64 x1889, .int .i64 x1890, .string x1891, .string x1892, .slice A1894 n1895 cp1896])) ∧ expr_Cursor_binary.l0 r_ kq1902 a1 l0_0 l0_1 x1881 x1884 x1885 x1888 x1889 x1890 x1891 x1892 x1893 = some (r1, r2, r3, r4, r5, r6, r7, r8, r9)) ?step fun hL_ => ?init)
 case init =>
  exact jmpL (fun a_ h_ => hL_ k a_ _ h_) (fun g_ => ⟨_, t1062, t1063, t1064, t1056, t1057, t1058, t1059, t1060, A1070, t1061.length, cp1071, t1061, g_, rfl, HS, Nat.le_refl _, HP0_0, HP0_1, HX1074, HX1027, HO1072, HC1073, HX1081, H⟩) rfl
 case step =>
  intro kq1902 ih1905 a1906 w1901 hr1907
  obtain ⟨C1900, x1881, x1884, x1885, x1888, x1889, x1890, x1891, x1892, A1894, n1895, cp1896, x1893, g_, rfl, HS1903, hk1904, HJ1882, HJ1883, HJ1886, HJ1887, HJ1898, HC1897, HJ1899, H⟩ := hr1907
  refine looped_round ?_
  obtain rfl : n1895 = x1893.length := (Ft.now HJ1898).1.symm
  cases kq1902 with
  | zero => exact absurd H (by simp [expr_Cursor_binary.l0])
  | succ k1908 =>
   simp only [expr_Cursor_binary.l0] at H
   refine wp_seq_k fun K1909 hK1909 => ?_
   refine wp_seq_k fun K1940 hK1940 => ?_
   refine wl_region ?_
   refine mv_ rfl ?_
   refine st (.bool (decide (x1881 = 0))) rfl rfl (xr_bin _ _ _ rfl rfl rfl (B.eql_i64 _ _)) ?_
   refine mv_ rfl ?_
   simp only [ls0, ls1]
   by_cases c1955 : x1881 = 0
   ·rw [if_pos c1955] at H
    (try rw [(decide_eq_true c1955)])
    refine on_guard (guard_on 2 true 26 rfl rfl rfl) ?_
    refine mv_ rfl ?_
    refine on_guard (guard_on 2 true 26 rfl rfl rfl) ?_
    have HP1956 : Ft C1900 [0, 1] w1901 (fun w_ => (Kd.ptr 111 k111).K w_ (some (⟨l0_0, l0_1, x1884, x1885⟩ : S111)) [.pointer (some ⟨g0, 0, none⟩)]) := ptr_mk (Ft.more (HJ1886.ft) rfl) (k111_mkF _ _ (⟨l0_0, l0_1, x1884, x1885⟩ : S111) HCP0_0 (Ft.more HJ1882 rfl) HCP0_1 (Ft.more HJ1883 rfl))
    obtain ⟨t1957, A1958, H⟩ := bnd H
    refine st_call #[.pointer (some ⟨g0, 0, none⟩)] rfl rfl Try.func43 (by kernel_rfl) rfl rfl (mp_ rfl) ?_
    refine (expr_Cursor_Peek.calls (.pointer (some ⟨g0, 0, none⟩)) (some (⟨l0_0, l0_1, x1884, x1885⟩ : S111) : Option S111) t1957  (fun z_ => pal [(0, 0), (1, 0)] (C1900 z_)) w1901 (fun _ => pal_lt rfl _) (Ft.arg HP1956 rfl) A1958).mono ?_
    rintro _ w1960 ⟨C1961, rfl, hs1962⟩
    refine ⟨_, rfl, ?_⟩
    replace hs1962 := Step.lift (U := [(0, 0)]) hs1962 [] rfl rfl
    generalize up C1900 C1961 w1901.heap.size [(0, 0)] = C1961_ at hs1962
    replace HJ1886 := HJ1886.thru hs1962 rfl
    replace HJ1882 := HJ1882.thru hs1962 rfl
    replace HJ1883 := HJ1883.thru hs1962 rfl
    replace HJ1887 := HJ1887.thru hs1962 rfl
    replace HJ1899 := HJ1899.thru hs1962 rfl
    replace HJ1898 := HJ1898.thru hs1962 rfl
    replace HS1903 := HS1903.trans hs1962 hc rfl
    (try simp only [ls0, ls1])
    refine on_guard (guard_on 2 true 26 rfl rfl rfl) ?_
    obtain ⟨t1963, A1964, H⟩ := bnd H
    refine st_call #[.string t1957] rfl rfl Try.func103 (by kernel_rfl) rfl rfl (mp_ rfl) ?_
    refine (expr_level.calls t1957 t1963  (fun z_ => pal [(0, 0)] (C1961_ z_)) w1960 (fun _ => pal_lt rfl _) A1964).mono ?_
    rintro _ w1966 ⟨C1967, rfl, hs1968⟩
    refine ⟨_, rfl, ?_⟩
    replace hs1968 := Step.lift (U := [(0, 0)]) hs1968 [] rfl rfl
    generalize up C1961_ C1967 w1960.heap.size [(0, 0)] = C1967_ at hs1968
    replace HJ1886 := HJ1886.thru hs1968 rfl
    replace HJ1882 := HJ1882.thru hs1968 rfl
    replace HJ1883 := HJ1883.thru hs1968 rfl
    replace HJ1887 := HJ1887.thru hs1968 rfl
    replace HJ1899 := HJ1899.thru hs1968 rfl
    replace HJ1898 := HJ1898.thru hs1968 rfl
    replace HS1903 := HS1903.trans hs1968 hc rfl
    (try simp only [ls0, ls1])
    refine on_guard (guard_on 2 true 26 rfl rfl rfl) ?_
    refine mv_ rfl ?_
    refine on_guard (guard_on 2 true 26 rfl rfl rfl) ?_
    refine st (.bool (decide (t1963 = a1))) rfl rfl (xr_bin _ _ _ rfl rfl rfl (B.eql_i64 _ _)) ?_
    refine st (.bool (decide (t1963 = a1))) rfl rfl (xr_pick true _ rfl rfl rfl) ?_
    refine wl_end ?_
    (try simp only [ls0, ls1])
    refine hK1940 _ _ ?_
    (try clear hK1940 K1940)
    by_cases c1969 : t1963 = a1
    ·rw [if_pos c1969] at H
     (try rw [(decide_eq_true c1969)])
     refine wp_cond_true rfl ?_
     refine wp_skip ?_
     (try simp only [ls0, ls1])
     refine hK1909 _ _ ?_
     (try clear hK1909 K1909)
     refine wp_block ?_
     refine wp_seq_k fun K1970 hK1970 => ?_
     (try simp only [ls0, ls1])
     refine al_start (lb 8 0) rfl rfl rfl (fun w_ => w_.heap[g0]? = some (.cells (List.toArray ([.slice A0_0 l0_0.length c0_0, .slice A0_1 l0_1.length c0_1, .int .i64 x1884, .int .i64 x1885])) 111 (0, 0))) (HJ1886.drew).2 [] ?_
     replace HJ1886 := HJ1886.drew
     replace HJ1882 := HJ1882.drew
     replace HJ1883 := HJ1883.drew
     replace HJ1887 := HJ1887.drew
     replace HJ1899 := HJ1899.drew
     replace HJ1898 := HJ1898.drew
     replace HS1903 := Step.ofDrew HS1903
     generalize w1966.drew = w1971 at *
     refine al_mv 0 (lb 8 1) rfl rfl (by kernel_rfl) (fun _ _ _ => id) rfl ?_
     refine al_pure 1 34 (.pointer (some ⟨g0, 0, none⟩)) (lb 8 3) rfl rfl (by kernel_rfl) (fun _ _ _ => id) rfl (fun w_ => xr_nilCheck _ rfl rfl) ?_
     refine al_pure 2 35 (.pointer (some ⟨g0, 2, none⟩)) (lb 8 7) rfl rfl (by kernel_rfl) (fun _ _ _ => id) rfl (fun w_ => xr_fieldAddr _ _ rfl rfl (bx_field2 Try.underlying111 rfl rfl (by kernel_rfl))) ?_
     refine al_mv 4 (lb 8 23) rfl rfl (by kernel_rfl) (fun _ _ _ => id) rfl ?_
     simp only [ls0, ls1]
     refine al_take 3 36 (.int .i64 x1884) (lb 8 31) rfl rfl (by kernel_rfl) (fun _ _ _ => id) rfl (fun w_ hS_ => xr_load _ _ rfl rfl (load_cell Try.underlying3 rfl (bx_cell hS_ 2 rfl))) (HJ1886).2 ?_
     have HP1972 : Ft C1967_ [0, 1] w1971 (fun w_ => (Kd.ptr 111 k111).K w_ (some (⟨l0_0, l0_1, x1884, x1885⟩ : S111)) [.pointer (some ⟨g0, 0, none⟩)]) := ptr_mk (Ft.more (HJ1886.ft) rfl) (k111_mkF _ _ (⟨l0_0, l0_1, x1884, x1885⟩ : S111) HCP0_0 (Ft.more HJ1882 rfl) HCP0_1 (Ft.more HJ1883 rfl))
     obtain ⟨t1973, A1974, H⟩ := bnd H
     refine al_one 5 (lb 8 63) rfl rfl (by kernel_rfl) rfl (fun K_ hK_ => ?_)
     refine goes_ Try.func43 (by kernel_rfl) rfl #[.pointer (some ⟨g0, 0, none⟩)] rfl rfl rfl (mpe_ rfl) ?_
     refine (expr_Cursor_Peek.calls (.pointer (some ⟨g0, 0, none⟩)) (some (⟨l0_0, l0_1, x1884, x1885⟩ : S111) : Option S111) t1973  (fun z_ => pal [(0, 0), (1, 0)] (C1967_ z_)) w1971 (fun _ => pal_lt rfl _) (Ft.arg HP1972 rfl) A1974).mono ?_
     rintro _ w1976 ⟨C1977, rfl, hs1978⟩
     refine ⟨_, rfl, ?_⟩
     replace hs1978 := Step.lift (U := [(0, 0)]) hs1978 [] rfl rfl
     generalize up C1967_ C1977 w1971.heap.size [(0, 0)] = C1977_ at hs1978
     replace HJ1886 := HJ1886.thru hs1978 rfl
     replace HJ1882 := HJ1882.thru hs1978 rfl
     replace HJ1883 := HJ1883.thru hs1978 rfl
     replace HJ1887 := HJ1887.thru hs1978 rfl
     replace HJ1899 := HJ1899.thru hs1978 rfl
     replace HJ1898 := HJ1898.thru hs1978 rfl
     replace HS1903 := HS1903.trans hs1978 hc rfl
     refine hK_ _ _ (HJ1886).2 ?_
     clear hK_ K_
     (try simp only [Act.put, List.setIfInBounds_toArray, ls0, ls1])
     refine al_as 6 (lb 8 127) rfl rfl (by kernel_rfl) (fun _ _ _ => id) rfl ?_
     refine al_as 7 (lb 8 255) rfl rfl (by kernel_rfl) (fun _ _ _ => id) rfl ?_
     refine al_end (by kernel_rfl) ?_
     (try simp only [ls0, ls1])
     refine hK1970 _ _ ?_
     (try clear hK1970 K1970)
     refine wp_seq_k fun K1979 hK1979 => ?_
     refine wl_region ?_
     refine mv_ rfl ?_
     refine st (.pointer (some ⟨g0, 0, none⟩)) rfl rfl (xr_nilCheck _ rfl rfl) ?_
     refine st (.pointer (some ⟨g0, 2, none⟩)) rfl rfl (xr_fieldAddr _ _ rfl rfl (bx_field2 Try.underlying111 rfl rfl (by kernel_rfl))) ?_
     refine st (.int .i64 x1884) rfl rfl (xr_load _ _ rfl rfl (load_cell Try.underlying3 rfl (bx_cell (HJ1886).2 2 rfl))) ?_
     simp only [ls0, ls1]
     refine st (.int .i64 (wrap64 (x1884 + 1))) rfl rfl (xr_bin _ _ _ rfl rfl rfl (B.add_i64 _ _)) ?_
     refine st (.pointer (some ⟨g0, 0, none⟩)) rfl rfl (xr_nilCheck _ rfl rfl) ?_
     refine st (.pointer (some ⟨g0, 2, none⟩)) rfl rfl (xr_fieldAddr _ _ rfl rfl (bx_field2 Try.underlying111 rfl rfl (by kernel_rfl))) ?_
     refine bx_store (C := C1977_) (z := 1) (g := g0) (j := 2) (tb := 111) (u := .int .i64 (wrap64 (x1884 + 1))) (seg := [.int .i64 (wrap64 (x1884 + 1))]) (xs := [.slice A0_0 l0_0.length c0_0, .slice A0_1 l0_1.length c0_1, .int .i64 x1884, .int .i64 x1885]) rfl rfl rfl rfl rfl rfl (by first | kernel_rfl | rfl) (by simp [Value.oneCell']) HJ1886 (by simp only [List.length_cons, List.length_nil]; omega) rfl ?_
     intro w1980 HX1981 hs1982
     replace HJ1882 := HJ1882.thru hs1982 rfl
     replace HJ1883 := HJ1883.thru hs1982 rfl
     replace HJ1887 := HJ1887.thru hs1982 rfl
     replace HJ1899 := HJ1899.thru hs1982 rfl
     replace HJ1898 := HJ1898.thru hs1982 rfl
     replace HS1903 := HS1903.trans hs1982 hc rfl
     (try simp only [ls0, ls1])
     refine wl_end ?_
     (try simp only [ls0, ls1])
     refine hK1979 _ _ ?_
     (try clear hK1979 K1979)
     refine wp_seq_k fun K1983 hK1983 => ?_
     refine wl_region ?_
     refine bx_new (C := C1977_) 44 ([.int .i64 0, .int .i64 0, .int .i64 0, .string (⟨#[]⟩ : ByteArray), .string (⟨#[]⟩ : ByteArray), .slice none 0 0]) 13 rfl rfl (by first | (go_simp; done) | (go_simp; rfl)) ?_
     intro g1984 w1985 C1986 HX1987 hs1988
     replace HX1981 := HX1981.thru hs1988 rfl
     replace HJ1882 := HJ1882.thru hs1988 rfl
     replace HJ1883 := HJ1883.thru hs1988 rfl
     replace HJ1887 := HJ1887.thru hs1988 rfl
     replace HJ1899 := HJ1899.thru hs1988 rfl
     replace HJ1898 := HJ1898.thru hs1988 rfl
     replace HS1903 := HS1903.trans hs1988 hc rfl
     (try simp only [ls0, ls1])
     refine wl_end ?_
     (try simp only [ls0, ls1])
     refine hK1983 _ _ ?_
     (try clear hK1983 K1983)
     refine wp_seq_k fun K1989 hK1989 => ?_
     refine wl_region ?_
     refine mv_ rfl ?_
     refine mv_ rfl ?_
     refine st (.int .i64 (wrap64 (a1 + 1))) rfl rfl (xr_bin _ _ _ rfl rfl rfl (B.add_i64 _ _)) ?_
     obtain ⟨⟨t1990, t1991, t1992, t1993, t1994, t1995, t1996, t1997, t1998⟩, A1999, H⟩ := bnd H
     (try dsimp only at H)
     refine st_call #[.pointer (some ⟨g0, 0, none⟩), .int .i64 (wrap64 (a1 + 1))] rfl rfl Try.func82 (by kernel_rfl) rfl rfl (mp_ rfl) ?_
     refine (IH.expr_Cursor_binary g0 A0_0 c0_0 l0_0 A0_1 c0_1 l0_1 (wrap64 (x1884 + 1)) x1885 (wrap64 (a1 + 1)) t1990 t1991 t1992 t1993 t1994 t1995 t1996 t1997 t1998  (fun z_ => pal [(0, 0), (1, 1)] (C1986 z_)) w1985 (fun _ => pal_lt rfl _) (Bx.arg HX1981 rfl) (Ft.arg HJ1882 rfl) HCP0_0 (Ft.arg HJ1883 rfl) HCP0_1 A1999).mono ?_
     rintro _ w2001 ⟨C2002, A2004, cp2005, rfl, hs2003, HO2006, HC2007, HX2008⟩
     refine ⟨_, rfl, ?_⟩
     replace HO2006 := Ft.res (U := [(0, 0), (1, 1)]) HO2006 hs2003 [0] rfl rfl rfl
     replace HX2008 := Bx.res (U := [(0, 0), (1, 1)]) (j := 1) HX2008 hs2003 (by rfl) (by decide) rfl
     replace hs2003 := Step.lift (U := [(0, 0), (1, 1)]) hs2003 [1] rfl rfl
     generalize up C1986 C2002 w1985.heap.size [(0, 0), (1, 1)] = C2002_ at HO2006 HX2008 hs2003
     replace HJ1882 := HJ1882.thru hs2003 rfl
     replace HJ1883 := HJ1883.thru hs2003 rfl
     replace HJ1887 := HJ1887.thru hs2003 rfl
     replace HJ1899 := HJ1899.thru hs2003 rfl
     replace HJ1898 := HJ1898.thru hs2003 rfl
     replace HX1987 := HX1987.thru hs2003 rfl
     replace HS1903 := HS1903.trans hs2003 hc rfl
     (try simp only [ls0, ls1])
     refine mv_ rfl ?_
     refine st (.agg #[.int .i64 t1990, .int .i64 t1991, .int .i64 t1992, .string t1993, .string t1994, .slice A2004 t1995.length cp2005]) rfl rfl (xr_extract (.tuple #[.agg #[.int .i64 t1990, .int .i64 t1991, .int .i64 t1992, .string t1993, .string t1994, .slice A2004 t1995.length cp2005], .int .i64 t1996]) _ rfl rfl rfl) ?_
     refine st (.int .i64 t1996) rfl rfl (xr_extract (.tuple #[.agg #[.int .i64 t1990, .int .i64 t1991, .int .i64 t1992, .string t1993, .string t1994, .slice A2004 t1995.length cp2005], .int .i64 t1996]) _ rfl rfl rfl) ?_
     refine bx_store (C := C2002_) (z := 13) (g := g1984) (j := 0) (tb := 44) (u := .agg #[.int .i64 t1990, .int .i64 t1991, .int .i64 t1992, .string t1993, .string t1994, .slice A2004 t1995.length cp2005]) (seg := [.int .i64 t1990, .int .i64 t1991, .int .i64 t1992, .string t1993, .string t1994, .slice A2004 t1995.length cp2005]) (xs := [.int .i64 0, .int .i64 0, .int .i64 0, .string (⟨#[]⟩ : ByteArray), .string (⟨#[]⟩ : ByteArray), .slice none 0 0]) rfl rfl rfl rfl rfl rfl (by first | kernel_rfl | rfl) (by simp [Value.oneCell']) HX1987 (by simp only [List.length_cons, List.length_nil]; omega) rfl ?_
     intro w2009 HX2010 hs2011
     replace HX2008 := HX2008.thru hs2011 rfl
     replace HJ1882 := HJ1882.thru hs2011 rfl
     replace HJ1883 := HJ1883.thru hs2011 rfl
     replace HJ1887 := HJ1887.thru hs2011 rfl
     replace HJ1899 := HJ1899.thru hs2011 rfl
     replace HJ1898 := HJ1898.thru hs2011 rfl
     replace HO2006 := HO2006.thru hs2011 rfl
     replace HS1903 := HS1903.trans hs2011 hc rfl
     (try simp only [ls0, ls1])
     refine as_ rfl ?_
     refine wl_end ?_
     (try simp only [ls0, ls1])
     refine hK1989 _ _ ?_
     (try clear hK1989 K1989)
     refine wp_seq_k fun K2012 hK2012 => ?_
     refine wl_region ?_
     refine mv_ rfl ?_
     refine st (.bool (decide (t1996 = 0))) rfl rfl (xr_bin _ _ _ rfl rfl rfl (B.eql_i64 _ _)) ?_
     refine wl_end ?_
     (try simp only [ls0, ls1])
     refine hK2012 _ _ ?_
     (try clear hK2012 K2012)
     by_cases c2013 : t1996 = 0
     ·rw [if_pos c2013] at H
      (try rw [(decide_eq_true c2013)])
      refine wp_cond_true rfl ?_
      refine wl_region ?_
      refine mv_ rfl ?_
      refine st (.pointer (some ⟨g1075, 1, none⟩)) rfl rfl (xr_fieldAddr _ _ rfl rfl (bx_field2 Try.underlying44 rfl rfl (by kernel_rfl))) ?_
      refine st (.int .i64 x1889) rfl rfl (xr_load _ _ rfl rfl (load_cell Try.underlying3 rfl (bx_cell (HJ1899).2 1 rfl))) ?_
      refine mv_ rfl ?_
      simp only [ls0, ls1]
      refine st (.agg #[.int .i64 x1888, .int .i64 x1889, .int .i64 x1890, .string x1891, .string x1892, .slice A1894 x1893.length cp1896]) rfl rfl (xr_load _ _ rfl rfl (load_agg (cs := [.int .i64 x1888, .int .i64 x1889, .int .i64 x1890, .string x1891, .string x1892, .slice A1894 x1893.length cp1896]) Try.underlying44 rfl (by kernel_rfl) (bx_cells (HJ1899).2 0 rfl))) ?_
      refine st (.agg #[.int .i64 t1990, .int .i64 t1991, .int .i64 t1992, .string t1993, .string t1994, .slice A2004 t1995.length cp2005]) rfl rfl (xr_load _ _ rfl rfl (load_agg (cs := [.int .i64 t1990, .int .i64 t1991, .int .i64 t1992, .string t1993, .string t1994, .slice A2004 t1995.length cp2005]) Try.underlying44 rfl (by kernel_rfl) (bx_cells (HX2010).2 0 rfl))) ?_
      obtain ⟨y2014, A2015, H⟩ := bnd H
      refine Own.lit k44 (C := C2002_) (i := 14) rfl 44 rfl (xs := [(⟨x1888, x1889, x1890, x1891, x1892, x1893⟩ : S44), (⟨t1990, t1991, t1992, t1993, t1994, t1995⟩ : S44)]) (inner := [.int .i64 x1888, .int .i64 x1889, .int .i64 x1890, .string x1891, .string x1892, .slice A1894 x1893.length cp1896, .int .i64 t1990, .int .i64 t1991, .int .i64 t1992, .string t1993, .string t1994, .slice A2004 t1995.length cp2005]) (by first | (go_simp; done) | (go_simp; rfl)) (reps_cons (k44_mkF _ _ (⟨x1888, x1889, x1890, x1891, x1892, x1893⟩ : S44) HC1897 (Kd.F_mono (d := k44) HJ1898 (fun k_ h_ => by simpa using h_))) rfl (reps_cons (k44_mkF _ _ (⟨t1990, t1991, t1992, t1993, t1994, t1995⟩ : S44) HC2007 (Kd.F_mono (d := k44) HO2006 (fun k_ h_ => by simpa using h_))) rfl (Reps.none _ _))) (by simp only [List.length_cons, List.length_nil]; omega) (Option.some.inj A2015) ?_
      intro A2016 cp2017 w2018 C2019 HO2020 HC2021 hs2022
      replace HX2008 := HX2008.thru hs2022 rfl
      replace HJ1882 := HJ1882.thru hs2022 rfl
      replace HJ1883 := HJ1883.thru hs2022 rfl
      replace HJ1887 := HJ1887.thru hs2022 rfl
      replace HJ1899 := HJ1899.thru hs2022 rfl
      replace HJ1898 := HJ1898.thru hs2022 rfl
      replace HX2010 := HX2010.thru hs2022 rfl
      replace HO2006 := HO2006.thru hs2022 rfl
      replace HS1903 := HS1903.trans hs2022 hc rfl
      (try simp only [ls0, ls1])
      refine st (.agg #[.int .i64 5, .int .i64 x1889, .int .i64 0, .string t1973, .string (⟨#[]⟩ : ByteArray), .slice A2016 y2014.length cp2017]) rfl rfl (xr_build #[(0, .int .i64 5), (1, .int .i64 x1889), (3, .string t1973), (5, .slice A2016 y2014.length cp2017)] (.agg #[.int .i64 5, .int .i64 x1889, .int .i64 0, .string t1973, .string (⟨#[]⟩ : ByteArray), .slice A2016 y2014.length cp2017]) rfl (mp_ rfl) (by first | rfl | (go_simp; done) | (go_simp; rfl) | (go_simp; exact i64_w _) | (go_simp; exact i32_w _))) ?_
      refine mv_ rfl ?_
      replace HX2008 := Bx.recol (a := 14) (b := 0) HX2008 (by decide)
      replace HJ1882 := Ft.recol (a := 14) (b := 0) HJ1882 (.inl rfl)
      replace HJ1883 := Ft.recol (a := 14) (b := 0) HJ1883 (.inl rfl)
      replace HJ1887 := Bx.recol (a := 14) (b := 0) HJ1887 (by decide)
      replace HJ1899 := Bx.recol (a := 14) (b := 0) HJ1899 (by decide)
      replace HJ1898 := Ft.recol (a := 14) (b := 0) HJ1898 (.inl rfl)
      replace HX2010 := Bx.recol (a := 14) (b := 0) HX2010 (by decide)
      replace HO2006 := Ft.recol (a := 14) (b := 0) HO2006 (.inl rfl)
      have HR2023 := Ft.recolor (a := 14) (b := 0) (HO2020.ft) [0] rfl
      replace HS1903 := Step.recol (a := 14) (b := 0) HS1903 hc (by decide)
      obtain ⟨⟨t2024, t2025, t2026, t2027, t2028, t2029, t2030, t2031⟩, A2032, H⟩ := bnd H
      (try dsimp only at H)
      refine st_call #[.pointer (some ⟨g0, 0, none⟩), .agg #[.int .i64 5, .int .i64 x1889, .int .i64 0, .string t1973, .string (⟨#[]⟩ : ByteArray), .slice A2016 y2014.length cp2017], .int .i64 x1884] rfl rfl Try.func104 (by kernel_rfl) rfl rfl (mp_ rfl) ?_
      refine (expr_Cursor_held.calls k1908 g0 A0_0 c0_0 l0_0 A0_1 c0_1 l0_1 t1997 t1998 5 x1889 0 t1973 (⟨#[]⟩ : ByteArray) A2016 cp2017 y2014 x1884 t2024 t2025 t2026 t2027 t2028 t2029 t2030 t2031  (fun z_ => pal [(0, 0), (1, 1)] ((recol C2019 14 0) z_)) w2018 (fun _ => pal_lt rfl _) (Bx.arg HX2008 rfl) (Ft.arg HJ1882 rfl) HCP0_0 (Ft.arg HJ1883 rfl) HCP0_1 (Ft.arg HR2023 rfl) HC2021 A2032).mono ?_
      rintro _ w2034 ⟨C2035, A2037, cp2038, rfl, hs2036, HO2039, HC2040, HX2041⟩
      refine ⟨_, rfl, ?_⟩
      replace HO2039 := Ft.res (U := [(0, 0), (1, 1)]) HO2039 hs2036 [0] rfl rfl rfl
      replace HX2041 := Bx.res (U := [(0, 0), (1, 1)]) (j := 1) HX2041 hs2036 (by rfl) (by decide) rfl
      replace hs2036 := Step.lift (U := [(0, 0), (1, 1)]) hs2036 [1] rfl rfl
      generalize up (recol C2019 14 0) C2035 w2018.heap.size [(0, 0), (1, 1)] = C2035_ at HO2039 HX2041 hs2036
      replace HJ1882 := HJ1882.thru hs2036 rfl
      replace HJ1883 := HJ1883.thru hs2036 rfl
      replace HJ1887 := HJ1887.thru hs2036 rfl
      replace HJ1899 := HJ1899.thru hs2036 rfl
      replace HJ1898 := HJ1898.thru hs2036 rfl
      replace HX2010 := HX2010.thru hs2036 rfl
      replace HO2006 := HO2006.thru hs2036 rfl
      replace HS1903 := HS1903.trans hs2036 hc rfl
      (try simp only [ls0, ls1])
      refine mv_ rfl ?_
      refine st (.agg #[.int .i64 t2024, .int .i64 t2025, .int .i64 t2026, .string t2027, .string t2028, .slice A2037 t2029.length cp2038]) rfl rfl (xr_extract (.tuple #[.agg #[.int .i64 t2024, .int .i64 t2025, .int .i64 t2026, .string t2027, .string t2028, .slice A2037 t2029.length cp2038], .int .i64 t2030]) _ rfl rfl rfl) ?_
      refine st (.int .i64 t2030) rfl rfl (xr_extract (.tuple #[.agg #[.int .i64 t2024, .int .i64 t2025, .int .i64 t2026, .string t2027, .string t2028, .slice A2037 t2029.length cp2038], .int .i64 t2030]) _ rfl rfl rfl) ?_
      refine bx_store (C := C2035_) (z := 12) (g := g1075) (j := 0) (tb := 44) (u := .agg #[.int .i64 t2024, .int .i64 t2025, .int .i64 t2026, .string t2027, .string t2028, .slice A2037 t2029.length cp2038]) (seg := [.int .i64 t2024, .int .i64 t2025, .int .i64 t2026, .string t2027, .string t2028, .slice A2037 t2029.length cp2038]) (xs := [.int .i64 x1888, .int .i64 x1889, .int .i64 x1890, .string x1891, .string x1892, .slice A1894 x1893.length cp1896]) rfl rfl rfl rfl rfl rfl (by first | kernel_rfl | rfl) (by simp [Value.oneCell']) HJ1899 (by simp only [List.length_cons, List.length_nil]; omega) rfl ?_
      intro w2042 HX2043 hs2044
      replace HX2041 := HX2041.thru hs2044 rfl
      replace HJ1882 := HJ1882.thru hs2044 rfl
      replace HJ1883 := HJ1883.thru hs2044 rfl
      replace HJ1887 := HJ1887.thru hs2044 rfl
      replace HO2039 := HO2039.thru hs2044 rfl
      replace HX2010 := HX2010.thru hs2044 rfl
      replace HO2006 := HO2006.thru hs2044 rfl
      replace HS1903 := HS1903.trans hs2044 hc rfl
      (try simp only [ls0, ls1])
      refine as_ rfl ?_
      refine wl_end ?_
      (try simp only [ls0, ls1])
      exact jmpL (fun a_ h_ => ih1905 k1908 (by omega) a_ _ h_) (fun g_ => ⟨_, t2030, t2031, t1998, t2024, t2025, t2026, t2027, t2028, A2037, t2029.length, cp2038, t2029, g_, rfl, HS1903, (by omega), HJ1882, HJ1883, HX2041, HJ1887, HO2039, HC2040, HX2043, H⟩) rfl
     rw [if_neg c2013] at H
     (try rw [(decide_eq_false c2013)])
     refine wp_cond_false rfl ?_
     refine wp_skip ?_
     (try simp only [ls0, ls1])
     exact jmpL (fun a_ h_ => ih1905 k1908 (by omega) a_ _ h_) (fun g_ => ⟨_, t1996, t1997, t1998, x1888, x1889, x1890, x1891, x1892, A1894, x1893.length, cp1896, x1893, g_, rfl, HS1903, (by omega), HJ1882, HJ1883, HX2008, HJ1887, HJ1898, HC1897, HJ1899, H⟩) rfl
    rw [if_neg c1969] at H
    (try rw [(decide_eq_false c1969)])
    refine wp_cond_false rfl ?_
    refine wp_exit ?_
    (try simp only [ls0, ls1])
    exact jmp (fun g_ => hj1546 _ _ _ (x1881) (x1884) (x1885) (x1888) (x1889) (x1890) (x1891) (x1892) (A1894) (x1893.length) (cp1896) (x1893) g_ HS1903 (by omega) HJ1882 HJ1883 HJ1886 HJ1887 HJ1898 HC1897 HJ1899 H) rfl
   rw [if_neg c1955] at H
   (try rw [(decide_eq_false c1955)])
   refine sk_guard (guard_off 2 true 26 rfl rfl false (by decide) rfl) rfl ?_
   refine sk_guard (guard_off 2 true 26 rfl rfl false (by decide) rfl) rfl ?_
   refine sk_guard (guard_off 2 true 26 rfl rfl false (by decide) rfl) rfl ?_
   refine sk_guard (guard_off 2 true 26 rfl rfl false (by decide) rfl) rfl ?_
   simp only [ls0, ls1]
   refine sk_guard (guard_off 2 true 26 rfl rfl false (by decide) rfl) rfl ?_
   refine st (.bool false) rfl rfl (xr_pick false _ rfl rfl rfl) ?_
   refine wl_end ?_
   (try simp only [ls0, ls1])
   refine hK1940 _ _ ?_
   (try clear hK1940 K1940)
   refine wp_cond_false rfl ?_
   refine wp_exit ?_
   (try simp only [ls0, ls1])
   exact jmp (fun g_ => hj1546 _ _ _ (x1881) (x1884) (x1885) (x1888) (x1889) (x1890) (x1891) (x1892) (A1894) (x1893.length) (cp1896) (x1893) g_ HS1903 (by omega) HJ1882 HJ1883 HJ1886 HJ1887 HJ1898 HC1897 HJ1899 H) rfl

end Go.Proofs.Yteoccoklbmjiaaa.PExb
