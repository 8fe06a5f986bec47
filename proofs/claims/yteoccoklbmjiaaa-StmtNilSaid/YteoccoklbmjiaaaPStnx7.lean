-- By cprint.py, a program of this work. Lean checks it.
import Derived.Test.YteoccoklbmjiaaaPStnx0
import Derived.Test.YteoccoklbmjiaaaPStnx2
import Derived.Test.YteoccoklbmjiaaaPStnx3
import Derived.Test.YteoccoklbmjiaaaPStnx4
import Derived.Test.YteoccoklbmjiaaaPStnx5
import Derived.Test.YteoccoklbmjiaaaPStnx6
namespace Go.Proofs.Yteoccoklbmjiaaa.PStn
open Go.RowKit Go.Proofs.YteoccoklbmjiaaaW.PrintWords Go.Proofs.YteoccoklbmjiaaaW.PrintLast Go.Proofs.YteoccoklbmjiaaaW.PrintMore
set_option linter.unusedVariables false
set_option linter.unusedSimpArgs false

def Rec_expr_Cursor_binary.at : Nat → Rec_expr_Cursor_binary
  | 0 => ⟨fun x0 x1 x2 x3 x4 => none, fun x0 x1 x2 x3 => none, fun x0 x1 x2 x3 => none, fun x0 x1 x2 x3 => none, fun x0 x1 x2 x3 => none, fun x0 x1 x2 x3 => none⟩
  | k + 1 => ⟨fun x0 x1 x2 x3 x4 => expr_Cursor_binary.g (Rec_expr_Cursor_binary.at k) k x0 x1 x2 x3 x4, fun x0 x1 x2 x3 => expr_Cursor_signed.g (Rec_expr_Cursor_binary.at k) k x0 x1 x2 x3, fun x0 x1 x2 x3 => expr_Cursor_primary.g (Rec_expr_Cursor_binary.at k) k x0 x1 x2 x3, fun x0 x1 x2 x3 => expr_Cursor_group.g (Rec_expr_Cursor_binary.at k) k x0 x1 x2 x3, fun x0 x1 x2 x3 => expr_Cursor_open.g (Rec_expr_Cursor_binary.at k) k x0 x1 x2 x3, fun x0 x1 x2 x3 => expr_Cursor_named.g (Rec_expr_Cursor_binary.at k) k x0 x1 x2 x3⟩
theorem Rec_expr_Cursor_binary.good : ∀ k, Rec_expr_Cursor_binary.Good (Rec_expr_Cursor_binary.at k)
  | 0 => ⟨(by intros; rename_i H; exact absurd H (by simp [Rec_expr_Cursor_binary.at])), (by intros; rename_i H; exact absurd H (by simp [Rec_expr_Cursor_binary.at])), (by intros; rename_i H; exact absurd H (by simp [Rec_expr_Cursor_binary.at])), (by intros; rename_i H; exact absurd H (by simp [Rec_expr_Cursor_binary.at])), (by intros; rename_i H; exact absurd H (by simp [Rec_expr_Cursor_binary.at])), (by intros; rename_i H; exact absurd H (by simp [Rec_expr_Cursor_binary.at]))⟩
  | k + 1 => ⟨expr_Cursor_binary.step (Rec_expr_Cursor_binary.at k) (Rec_expr_Cursor_binary.good k) k, expr_Cursor_signed.step (Rec_expr_Cursor_binary.at k) (Rec_expr_Cursor_binary.good k) k, expr_Cursor_primary.step (Rec_expr_Cursor_binary.at k) (Rec_expr_Cursor_binary.good k) k, expr_Cursor_group.step (Rec_expr_Cursor_binary.at k) (Rec_expr_Cursor_binary.good k) k, expr_Cursor_open.step (Rec_expr_Cursor_binary.at k) (Rec_expr_Cursor_binary.good k) k, expr_Cursor_named.step (Rec_expr_Cursor_binary.at k) (Rec_expr_Cursor_binary.good k) k⟩
def expr_Cursor_binary.f (k : Nat) (x0 : List Int) (x1 : List (S28)) (x2 : Int) (x3 : Int) (x4 : Int) : Option (Int × Int × Int × ByteArray × ByteArray × (List (S44)) × Int × Int × Int) := (Rec_expr_Cursor_binary.at k).expr_Cursor_binary x0 x1 x2 x3 x4
theorem expr_Cursor_binary.calls : ∀ (k : Nat) (g0 : Nat) (A0_0 : Option Addr) (c0_0 : Nat) (l0_0 : List Int) (A0_1 : Option Addr) (c0_1 : Nat) (l0_1 : List (S28)) (a0_2 : Int) (a0_3 : Int) (a1 : Int) (r1 : Int) (r2 : Int) (r3 : Int) (r4 : ByteArray) (r5 : ByteArray) (r6 : List (S44)) (r7 : Int) (r8 : Int) (r9 : Int) (c : Nat → Nat) (w : World) (hc : ∀ k, c k < 10) (HP0 : Bx c 1 w g0 111 ([.slice A0_0 l0_0.length c0_0, .slice A0_1 l0_1.length c0_1, .int .i64 a0_2, .int .i64 a0_3])) (HP0_0 : Ft c [0] w (fun w_ => (Kd.int .u8).C w_ A0_0 l0_0.length l0_0)) (HCP0_0 : l0_0.length ≤ c0_0) (HP0_1 : Ft c [0] w (fun w_ => k28.C w_ A0_1 l0_1.length l0_1)) (HCP0_1 : l0_1.length ≤ c0_1) (H : expr_Cursor_binary.f k l0_0 l0_1 a0_2 a0_3 a1 = some (r1, r2, r3, r4, r5, r6, r7, r8, r9)),
    Calls Try.prog 82 #[.pointer (some ⟨g0, 0, none⟩), .int .i64 a1] w fun e w' => ∃ (c' : Nat → Nat) (A_r6 : Option Addr) (c_r6 : Nat), e = .returned (.tuple #[.agg #[.int .i64 r1, .int .i64 r2, .int .i64 r3, .string r4, .string r5, .slice A_r6 r6.length c_r6], .int .i64 r7]) ∧ Step c w c' w' [1] ∧ Ft c' [0] w' (fun w_ => k44.C w_ A_r6 r6.length r6) ∧ r6.length ≤ c_r6 ∧ Bx c' 1 w' g0 111 ([.slice A0_0 l0_0.length c0_0, .slice A0_1 l0_1.length c0_1, .int .i64 r8, .int .i64 r9]) := fun k => (Rec_expr_Cursor_binary.good k).expr_Cursor_binary
def expr_Cursor_signed.f (k : Nat) (x0 : List Int) (x1 : List (S28)) (x2 : Int) (x3 : Int) : Option (Int × Int × Int × ByteArray × ByteArray × (List (S44)) × Int × Int × Int) := (Rec_expr_Cursor_binary.at k).expr_Cursor_signed x0 x1 x2 x3
theorem expr_Cursor_signed.calls : ∀ (k : Nat) (g0 : Nat) (A0_0 : Option Addr) (c0_0 : Nat) (l0_0 : List Int) (A0_1 : Option Addr) (c0_1 : Nat) (l0_1 : List (S28)) (a0_2 : Int) (a0_3 : Int) (r1 : Int) (r2 : Int) (r3 : Int) (r4 : ByteArray) (r5 : ByteArray) (r6 : List (S44)) (r7 : Int) (r8 : Int) (r9 : Int) (c : Nat → Nat) (w : World) (hc : ∀ k, c k < 10) (HP0 : Bx c 1 w g0 111 ([.slice A0_0 l0_0.length c0_0, .slice A0_1 l0_1.length c0_1, .int .i64 a0_2, .int .i64 a0_3])) (HP0_0 : Ft c [0] w (fun w_ => (Kd.int .u8).C w_ A0_0 l0_0.length l0_0)) (HCP0_0 : l0_0.length ≤ c0_0) (HP0_1 : Ft c [0] w (fun w_ => k28.C w_ A0_1 l0_1.length l0_1)) (HCP0_1 : l0_1.length ≤ c0_1) (H : expr_Cursor_signed.f k l0_0 l0_1 a0_2 a0_3 = some (r1, r2, r3, r4, r5, r6, r7, r8, r9)),
    Calls Try.prog 102 #[.pointer (some ⟨g0, 0, none⟩)] w fun e w' => ∃ (c' : Nat → Nat) (A_r6 : Option Addr) (c_r6 : Nat), e = .returned (.tuple #[.agg #[.int .i64 r1, .int .i64 r2, .int .i64 r3, .string r4, .string r5, .slice A_r6 r6.length c_r6], .int .i64 r7]) ∧ Step c w c' w' [1] ∧ Ft c' [0] w' (fun w_ => k44.C w_ A_r6 r6.length r6) ∧ r6.length ≤ c_r6 ∧ Bx c' 1 w' g0 111 ([.slice A0_0 l0_0.length c0_0, .slice A0_1 l0_1.length c0_1, .int .i64 r8, .int .i64 r9]) := fun k => (Rec_expr_Cursor_binary.good k).expr_Cursor_signed
def expr_Cursor_primary.f (k : Nat) (x0 : List Int) (x1 : List (S28)) (x2 : Int) (x3 : Int) : Option (Int × Int × Int × ByteArray × ByteArray × (List (S44)) × Int × Int × Int) := (Rec_expr_Cursor_binary.at k).expr_Cursor_primary x0 x1 x2 x3
theorem expr_Cursor_primary.calls : ∀ (k : Nat) (g0 : Nat) (A0_0 : Option Addr) (c0_0 : Nat) (l0_0 : List Int) (A0_1 : Option Addr) (c0_1 : Nat) (l0_1 : List (S28)) (a0_2 : Int) (a0_3 : Int) (r1 : Int) (r2 : Int) (r3 : Int) (r4 : ByteArray) (r5 : ByteArray) (r6 : List (S44)) (r7 : Int) (r8 : Int) (r9 : Int) (c : Nat → Nat) (w : World) (hc : ∀ k, c k < 10) (HP0 : Bx c 1 w g0 111 ([.slice A0_0 l0_0.length c0_0, .slice A0_1 l0_1.length c0_1, .int .i64 a0_2, .int .i64 a0_3])) (HP0_0 : Ft c [0] w (fun w_ => (Kd.int .u8).C w_ A0_0 l0_0.length l0_0)) (HCP0_0 : l0_0.length ≤ c0_0) (HP0_1 : Ft c [0] w (fun w_ => k28.C w_ A0_1 l0_1.length l0_1)) (HCP0_1 : l0_1.length ≤ c0_1) (H : expr_Cursor_primary.f k l0_0 l0_1 a0_2 a0_3 = some (r1, r2, r3, r4, r5, r6, r7, r8, r9)),
    Calls Try.prog 120 #[.pointer (some ⟨g0, 0, none⟩)] w fun e w' => ∃ (c' : Nat → Nat) (A_r6 : Option Addr) (c_r6 : Nat), e = .returned (.tuple #[.agg #[.int .i64 r1, .int .i64 r2, .int .i64 r3, .string r4, .string r5, .slice A_r6 r6.length c_r6], .int .i64 r7]) ∧ Step c w c' w' [1] ∧ Ft c' [0] w' (fun w_ => k44.C w_ A_r6 r6.length r6) ∧ r6.length ≤ c_r6 ∧ Bx c' 1 w' g0 111 ([.slice A0_0 l0_0.length c0_0, .slice A0_1 l0_1.length c0_1, .int .i64 r8, .int .i64 r9]) := fun k => (Rec_expr_Cursor_binary.good k).expr_Cursor_primary
def expr_Cursor_group.f (k : Nat) (x0 : List Int) (x1 : List (S28)) (x2 : Int) (x3 : Int) : Option (Int × Int × Int × ByteArray × ByteArray × (List (S44)) × Int × Int × Int) := (Rec_expr_Cursor_binary.at k).expr_Cursor_group x0 x1 x2 x3
theorem expr_Cursor_group.calls : ∀ (k : Nat) (g0 : Nat) (A0_0 : Option Addr) (c0_0 : Nat) (l0_0 : List Int) (A0_1 : Option Addr) (c0_1 : Nat) (l0_1 : List (S28)) (a0_2 : Int) (a0_3 : Int) (r1 : Int) (r2 : Int) (r3 : Int) (r4 : ByteArray) (r5 : ByteArray) (r6 : List (S44)) (r7 : Int) (r8 : Int) (r9 : Int) (c : Nat → Nat) (w : World) (hc : ∀ k, c k < 10) (HP0 : Bx c 1 w g0 111 ([.slice A0_0 l0_0.length c0_0, .slice A0_1 l0_1.length c0_1, .int .i64 a0_2, .int .i64 a0_3])) (HP0_0 : Ft c [0] w (fun w_ => (Kd.int .u8).C w_ A0_0 l0_0.length l0_0)) (HCP0_0 : l0_0.length ≤ c0_0) (HP0_1 : Ft c [0] w (fun w_ => k28.C w_ A0_1 l0_1.length l0_1)) (HCP0_1 : l0_1.length ≤ c0_1) (H : expr_Cursor_group.f k l0_0 l0_1 a0_2 a0_3 = some (r1, r2, r3, r4, r5, r6, r7, r8, r9)),
    Calls Try.prog 132 #[.pointer (some ⟨g0, 0, none⟩)] w fun e w' => ∃ (c' : Nat → Nat) (A_r6 : Option Addr) (c_r6 : Nat), e = .returned (.tuple #[.agg #[.int .i64 r1, .int .i64 r2, .int .i64 r3, .string r4, .string r5, .slice A_r6 r6.length c_r6], .int .i64 r7]) ∧ Step c w c' w' [1] ∧ Ft c' [0] w' (fun w_ => k44.C w_ A_r6 r6.length r6) ∧ r6.length ≤ c_r6 ∧ Bx c' 1 w' g0 111 ([.slice A0_0 l0_0.length c0_0, .slice A0_1 l0_1.length c0_1, .int .i64 r8, .int .i64 r9]) := fun k => (Rec_expr_Cursor_binary.good k).expr_Cursor_group
def expr_Cursor_open.f (k : Nat) (x0 : List Int) (x1 : List (S28)) (x2 : Int) (x3 : Int) : Option (Int × Int × Int × ByteArray × ByteArray × (List (S44)) × Int × Int × Int) := (Rec_expr_Cursor_binary.at k).expr_Cursor_open x0 x1 x2 x3
theorem expr_Cursor_open.calls : ∀ (k : Nat) (g0 : Nat) (A0_0 : Option Addr) (c0_0 : Nat) (l0_0 : List Int) (A0_1 : Option Addr) (c0_1 : Nat) (l0_1 : List (S28)) (a0_2 : Int) (a0_3 : Int) (r1 : Int) (r2 : Int) (r3 : Int) (r4 : ByteArray) (r5 : ByteArray) (r6 : List (S44)) (r7 : Int) (r8 : Int) (r9 : Int) (c : Nat → Nat) (w : World) (hc : ∀ k, c k < 10) (HP0 : Bx c 1 w g0 111 ([.slice A0_0 l0_0.length c0_0, .slice A0_1 l0_1.length c0_1, .int .i64 a0_2, .int .i64 a0_3])) (HP0_0 : Ft c [0] w (fun w_ => (Kd.int .u8).C w_ A0_0 l0_0.length l0_0)) (HCP0_0 : l0_0.length ≤ c0_0) (HP0_1 : Ft c [0] w (fun w_ => k28.C w_ A0_1 l0_1.length l0_1)) (HCP0_1 : l0_1.length ≤ c0_1) (H : expr_Cursor_open.f k l0_0 l0_1 a0_2 a0_3 = some (r1, r2, r3, r4, r5, r6, r7, r8, r9)),
    Calls Try.prog 133 #[.pointer (some ⟨g0, 0, none⟩)] w fun e w' => ∃ (c' : Nat → Nat) (A_r6 : Option Addr) (c_r6 : Nat), e = .returned (.tuple #[.agg #[.int .i64 r1, .int .i64 r2, .int .i64 r3, .string r4, .string r5, .slice A_r6 r6.length c_r6], .int .i64 r7]) ∧ Step c w c' w' [1] ∧ Ft c' [0] w' (fun w_ => k44.C w_ A_r6 r6.length r6) ∧ r6.length ≤ c_r6 ∧ Bx c' 1 w' g0 111 ([.slice A0_0 l0_0.length c0_0, .slice A0_1 l0_1.length c0_1, .int .i64 r8, .int .i64 r9]) := fun k => (Rec_expr_Cursor_binary.good k).expr_Cursor_open
def expr_Cursor_named.f (k : Nat) (x0 : List Int) (x1 : List (S28)) (x2 : Int) (x3 : Int) : Option (Int × Int × Int × ByteArray × ByteArray × (List (S44)) × Int × Int × Int) := (Rec_expr_Cursor_binary.at k).expr_Cursor_named x0 x1 x2 x3
theorem expr_Cursor_named.calls : ∀ (k : Nat) (g0 : Nat) (A0_0 : Option Addr) (c0_0 : Nat) (l0_0 : List Int) (A0_1 : Option Addr) (c0_1 : Nat) (l0_1 : List (S28)) (a0_2 : Int) (a0_3 : Int) (r1 : Int) (r2 : Int) (r3 : Int) (r4 : ByteArray) (r5 : ByteArray) (r6 : List (S44)) (r7 : Int) (r8 : Int) (r9 : Int) (c : Nat → Nat) (w : World) (hc : ∀ k, c k < 10) (HP0 : Bx c 1 w g0 111 ([.slice A0_0 l0_0.length c0_0, .slice A0_1 l0_1.length c0_1, .int .i64 a0_2, .int .i64 a0_3])) (HP0_0 : Ft c [0] w (fun w_ => (Kd.int .u8).C w_ A0_0 l0_0.length l0_0)) (HCP0_0 : l0_0.length ≤ c0_0) (HP0_1 : Ft c [0] w (fun w_ => k28.C w_ A0_1 l0_1.length l0_1)) (HCP0_1 : l0_1.length ≤ c0_1) (H : expr_Cursor_named.f k l0_0 l0_1 a0_2 a0_3 = some (r1, r2, r3, r4, r5, r6, r7, r8, r9)),
    Calls Try.prog 134 #[.pointer (some ⟨g0, 0, none⟩)] w fun e w' => ∃ (c' : Nat → Nat) (A_r6 : Option Addr) (c_r6 : Nat), e = .returned (.tuple #[.agg #[.int .i64 r1, .int .i64 r2, .int .i64 r3, .string r4, .string r5, .slice A_r6 r6.length c_r6], .int .i64 r7]) ∧ Step c w c' w' [1] ∧ Ft c' [0] w' (fun w_ => k44.C w_ A_r6 r6.length r6) ∧ r6.length ≤ c_r6 ∧ Bx c' 1 w' g0 111 ([.slice A0_0 l0_0.length c0_0, .slice A0_1 l0_1.length c0_1, .int .i64 r8, .int .i64 r9]) := fun k => (Rec_expr_Cursor_binary.good k).expr_Cursor_named

/-! ### expr_Cursor_Expr: function 51 -/
def expr_Cursor_Expr.f (k : Nat) (l0_0 : List Int) (l0_1 : List (S28)) (a0_2 : Int) (a0_3 : Int) : Option (Int × Int × Int × ByteArray × ByteArray × (List (S44)) × Int × Int) := (expr_Cursor_binary.f k l0_0 l0_1 a0_2 a0_3 1).bind fun bt56 => (some (bt56.1, bt56.2.1, bt56.2.2.1, bt56.2.2.2.1, bt56.2.2.2.2.1, bt56.2.2.2.2.2.1, bt56.2.2.2.2.2.2.1, bt56.2.2.2.2.2.2.2.1))

set_option maxHeartbeats 8000000 in
set_option maxRecDepth 100000 in
theorem expr_Cursor_Expr.calls (k : Nat) (g0 : Nat) (A0_0 : Option Addr) (c0_0 : Nat) (l0_0 : List Int) (A0_1 : Option Addr) (c0_1 : Nat) (l0_1 : List (S28)) (a0_2 : Int) (a0_3 : Int) (r1 : Int) (r2 : Int) (r3 : Int) (r4 : ByteArray) (r5 : ByteArray) (r6 : List (S44)) (r7 : Int) (r8 : Int) (c : Nat → Nat) (w : World) (hc : ∀ k, c k < 10) (HP0 : Bx c 1 w g0 111 ([.slice A0_0 l0_0.length c0_0, .slice A0_1 l0_1.length c0_1, .int .i64 a0_2, .int .i64 a0_3])) (HP0_0 : Ft c [0] w (fun w_ => (Kd.int .u8).C w_ A0_0 l0_0.length l0_0)) (HCP0_0 : l0_0.length ≤ c0_0) (HP0_1 : Ft c [0] w (fun w_ => k28.C w_ A0_1 l0_1.length l0_1)) (HCP0_1 : l0_1.length ≤ c0_1) (H : expr_Cursor_Expr.f k l0_0 l0_1 a0_2 a0_3 = some (r1, r2, r3, r4, r5, r6, r7, r8)) :
    Calls Try.prog 51 #[.pointer (some ⟨g0, 0, none⟩)] w fun e w' => ∃ (c' : Nat → Nat) (A_r6 : Option Addr) (c_r6 : Nat), e = .returned (.tuple #[.agg #[.int .i64 r1, .int .i64 r2, .int .i64 r3, .string r4, .string r5, .slice A_r6 r6.length c_r6], .int .i64 r7]) ∧ Step c w c' w' [1] ∧ Ft c' [0] w' (fun w_ => k44.C w_ A_r6 r6.length r6) ∧ r6.length ≤ c_r6 ∧ Bx c' 1 w' g0 111 ([.slice A0_0 l0_0.length c0_0, .slice A0_1 l0_1.length c0_1, .int .i64 r8, .int .i64 a0_3]) := by
 unfold expr_Cursor_Expr.f at H
 have HS := Step.refl c w [1]
 go_enter Try.func51, Try.ntmps51
 refine wp_seq_k fun K46 hK46 => ?_
 refine wl_region ?_
 refine bx_new (C := c) 44 ([.int .i64 0, .int .i64 0, .int .i64 0, .string (⟨#[]⟩ : ByteArray), .string (⟨#[]⟩ : ByteArray), .slice none 0 0]) 11 rfl rfl (by first | (go_simp; done) | (go_simp; rfl)) ?_
 intro g47 w48 C49 HX50 hs51
 replace HP0 := HP0.thru hs51 rfl
 replace HP0_0 := HP0_0.thru hs51 rfl
 replace HP0_1 := HP0_1.thru hs51 rfl
 replace HS := HS.trans hs51 hc rfl
 (try simp only [ls0, ls1])
 refine st (.int .i64 0) rfl rfl (xr_assign _ rfl rfl) ?_
 refine wl_end ?_
 (try simp only [ls0, ls1])
 refine hK46 _ _ ?_
 (try clear hK46 K46)
 refine wp_seq_k fun K52 hK52 => ?_
 refine wp_seq_k fun K53 hK53 => ?_
 refine wl_region ?_
 refine mv_ rfl ?_
 refine st (.bool false) rfl rfl (xr_bin (.pointer (some ⟨g0, 0, none⟩)) (.pointer none) (.bool false) rfl rfl rfl (B.eql_pn ⟨_, Try.underlying57⟩ ⟨g0, 0, none⟩)) ?_
 refine wl_end ?_
 (try simp only [ls0, ls1])
 refine hK53 _ _ ?_
 (try clear hK53 K53)
 refine wp_cond_false rfl ?_
 refine wp_skip ?_
 (try simp only [ls0, ls1])
 refine hK52 _ _ ?_
 (try clear hK52 K52)
 refine wp_seq_k fun K54 hK54 => ?_
 refine wl_region ?_
 refine mv_ rfl ?_
 refine st (.pointer (some ⟨g0, 0, none⟩)) rfl rfl (xr_nilCheck _ rfl rfl) ?_
 refine st (.pointer (some ⟨g0, 3, none⟩)) rfl rfl (xr_fieldAddr _ _ rfl rfl (bx_field2 Try.underlying111 rfl rfl (by kernel_rfl))) ?_
 refine st (.int .i64 a0_3) rfl rfl (xr_load _ _ rfl rfl (load_cell Try.underlying3 rfl (bx_cell (HP0).2 3 rfl))) ?_
 simp only [ls0, ls1]
 refine as_ rfl ?_
 refine wl_end ?_
 (try simp only [ls0, ls1])
 refine hK54 _ _ ?_
 (try clear hK54 K54)
 refine wp_seq_k fun K55 hK55 => ?_
 refine wl_region ?_
 refine mv_ rfl ?_
 obtain ⟨⟨t56, t57, t58, t59, t60, t61, t62, t63, t64⟩, A65, H⟩ := bnd H
 (try dsimp only at H)
 refine st_call #[.pointer (some ⟨g0, 0, none⟩), .int .i64 1] rfl rfl Try.func82 (by kernel_rfl) rfl rfl (mp_ rfl) ?_
 refine (expr_Cursor_binary.calls k g0 A0_0 c0_0 l0_0 A0_1 c0_1 l0_1 a0_2 a0_3 1 t56 t57 t58 t59 t60 t61 t62 t63 t64  (fun z_ => pal [(0, 0), (1, 1)] (C49 z_)) w48 (fun _ => pal_lt rfl _) (Bx.arg HP0 rfl) (Ft.arg HP0_0 rfl) HCP0_0 (Ft.arg HP0_1 rfl) HCP0_1 A65).mono ?_
 rintro _ w67 ⟨C68, A70, cp71, rfl, hs69, HO72, HC73, HX74⟩
 refine ⟨_, rfl, ?_⟩
 replace HO72 := Ft.res (U := [(0, 0), (1, 1)]) HO72 hs69 [0] rfl rfl rfl
 replace HX74 := Bx.res (U := [(0, 0), (1, 1)]) (j := 1) HX74 hs69 (by rfl) (by decide) rfl
 replace hs69 := Step.lift (U := [(0, 0), (1, 1)]) hs69 [1] rfl rfl
 generalize up C49 C68 w48.heap.size [(0, 0), (1, 1)] = C68_ at HO72 HX74 hs69
 replace HP0_0 := HP0_0.thru hs69 rfl
 replace HP0_1 := HP0_1.thru hs69 rfl
 replace HX50 := HX50.thru hs69 rfl
 replace HS := HS.trans hs69 hc rfl
 (try simp only [ls0, ls1])
 refine mv_ rfl ?_
 refine st (.agg #[.int .i64 t56, .int .i64 t57, .int .i64 t58, .string t59, .string t60, .slice A70 t61.length cp71]) rfl rfl (xr_extract (.tuple #[.agg #[.int .i64 t56, .int .i64 t57, .int .i64 t58, .string t59, .string t60, .slice A70 t61.length cp71], .int .i64 t62]) _ rfl rfl rfl) ?_
 refine st (.int .i64 t62) rfl rfl (xr_extract (.tuple #[.agg #[.int .i64 t56, .int .i64 t57, .int .i64 t58, .string t59, .string t60, .slice A70 t61.length cp71], .int .i64 t62]) _ rfl rfl rfl) ?_
 refine bx_new (C := C68_) 44 ([.int .i64 0, .int .i64 0, .int .i64 0, .string (⟨#[]⟩ : ByteArray), .string (⟨#[]⟩ : ByteArray), .slice none 0 0]) 12 rfl rfl (by first | (go_simp; done) | (go_simp; rfl)) ?_
 intro g75 w76 C77 HX78 hs79
 replace HX74 := HX74.thru hs79 rfl
 replace HP0_0 := HP0_0.thru hs79 rfl
 replace HP0_1 := HP0_1.thru hs79 rfl
 replace HX50 := HX50.thru hs79 rfl
 replace HO72 := HO72.thru hs79 rfl
 replace HS := HS.trans hs79 hc rfl
 (try simp only [ls0, ls1])
 refine bx_store (C := C77) (z := 12) (g := g75) (j := 0) (tb := 44) (u := .agg #[.int .i64 t56, .int .i64 t57, .int .i64 t58, .string t59, .string t60, .slice A70 t61.length cp71]) (seg := [.int .i64 t56, .int .i64 t57, .int .i64 t58, .string t59, .string t60, .slice A70 t61.length cp71]) (xs := [.int .i64 0, .int .i64 0, .int .i64 0, .string (⟨#[]⟩ : ByteArray), .string (⟨#[]⟩ : ByteArray), .slice none 0 0]) rfl rfl rfl rfl rfl rfl (by first | kernel_rfl | rfl) (by simp [Value.oneCell']) HX78 (by simp only [List.length_cons, List.length_nil]; omega) rfl ?_
 intro w80 HX81 hs82
 replace HX74 := HX74.thru hs82 rfl
 replace HP0_0 := HP0_0.thru hs82 rfl
 replace HP0_1 := HP0_1.thru hs82 rfl
 replace HX50 := HX50.thru hs82 rfl
 replace HO72 := HO72.thru hs82 rfl
 replace HS := HS.trans hs82 hc rfl
 (try simp only [ls0, ls1])
 refine as_ rfl ?_
 refine wl_end ?_
 (try simp only [ls0, ls1])
 refine hK55 _ _ ?_
 (try clear hK55 K55)
 refine wp_seq_k fun K83 hK83 => ?_
 refine wl_region ?_
 refine mv_ rfl ?_
 refine mv_ rfl ?_
 refine st (.pointer (some ⟨g0, 0, none⟩)) rfl rfl (xr_nilCheck _ rfl rfl) ?_
 refine st (.pointer (some ⟨g0, 3, none⟩)) rfl rfl (xr_fieldAddr _ _ rfl rfl (bx_field2 Try.underlying111 rfl rfl (by kernel_rfl))) ?_
 simp only [ls0, ls1]
 refine bx_store (C := C77) (z := 1) (g := g0) (j := 3) (tb := 111) (u := .int .i64 a0_3) (seg := [.int .i64 a0_3]) (xs := [.slice A0_0 l0_0.length c0_0, .slice A0_1 l0_1.length c0_1, .int .i64 t63, .int .i64 t64]) rfl rfl rfl rfl rfl rfl (by first | kernel_rfl | rfl) (by simp [Value.oneCell']) HX74 (by simp only [List.length_cons, List.length_nil]; omega) rfl ?_
 intro w84 HX85 hs86
 replace HP0_0 := HP0_0.thru hs86 rfl
 replace HP0_1 := HP0_1.thru hs86 rfl
 replace HX50 := HX50.thru hs86 rfl
 replace HO72 := HO72.thru hs86 rfl
 replace HX81 := HX81.thru hs86 rfl
 replace HS := HS.trans hs86 hc rfl
 (try simp only [ls0, ls1])
 refine wl_end ?_
 (try simp only [ls0, ls1])
 refine hK83 _ _ ?_
 (try clear hK83 K83)
 refine wp_seq_k fun K87 hK87 => ?_
 refine wl_region ?_
 refine st (.agg #[.int .i64 t56, .int .i64 t57, .int .i64 t58, .string t59, .string t60, .slice A70 t61.length cp71]) rfl rfl (xr_load _ _ rfl rfl (load_agg (cs := [.int .i64 t56, .int .i64 t57, .int .i64 t58, .string t59, .string t60, .slice A70 t61.length cp71]) Try.underlying44 rfl (by kernel_rfl) (bx_cells (HX81).2 0 rfl))) ?_
 refine mv_ rfl ?_
 refine bx_store (C := C77) (z := 11) (g := g47) (j := 0) (tb := 44) (u := .agg #[.int .i64 t56, .int .i64 t57, .int .i64 t58, .string t59, .string t60, .slice A70 t61.length cp71]) (seg := [.int .i64 t56, .int .i64 t57, .int .i64 t58, .string t59, .string t60, .slice A70 t61.length cp71]) (xs := [.int .i64 0, .int .i64 0, .int .i64 0, .string (⟨#[]⟩ : ByteArray), .string (⟨#[]⟩ : ByteArray), .slice none 0 0]) rfl rfl rfl rfl rfl rfl (by first | kernel_rfl | rfl) (by simp [Value.oneCell']) HX50 (by simp only [List.length_cons, List.length_nil]; omega) rfl ?_
 intro w88 HX89 hs90
 replace HX85 := HX85.thru hs90 rfl
 replace HP0_0 := HP0_0.thru hs90 rfl
 replace HP0_1 := HP0_1.thru hs90 rfl
 replace HO72 := HO72.thru hs90 rfl
 replace HX81 := HX81.thru hs90 rfl
 replace HS := HS.trans hs90 hc rfl
 (try simp only [ls0, ls1])
 refine as_ rfl ?_
 refine wl_end ?_
 (try simp only [ls0, ls1])
 refine hK87 _ _ ?_
 (try clear hK87 K87)
 refine wp_ret ?_
 (try simp only [Exit.inBlock, Exit.then, Exit.noGoto])
 (try simp only [ls0, ls1])
 simp only [Option.some.injEq, Prod.mk.injEq] at H
 obtain ⟨rfl, rfl, rfl, rfl, rfl, rfl, rfl, rfl⟩ := H
 refine bodyPost_ret (res_ct rfl rfl (load_of (load_agg (cs := [.int .i64 t56, .int .i64 t57, .int .i64 t58, .string t59, .string t60, .slice A70 t61.length cp71]) Try.underlying44 rfl (by kernel_rfl) (bx_cells (HX89).2 0 rfl)))) rfl ?_
 exact ⟨_, A70, cp71, rfl, HS, HO72, HC73, HX85⟩

/-! ### stmt_must_nil: function 109 -/
def stmt_must_nil.l0 : Nat → (List ByteArray) → Int → Option (Int)
  | 0, _, _ => none
  | k + 1, l1, x111 => if x111 < (l1.length : Int) then (if 0 ≤ x111 then ((expr_Cursor_Take_nil.f (rdOf ByteArray.empty l1 x111)).bind fun t130 => (if t130 = true then (stmt_must_nil.l0 k l1 (wrap64 (x111 + 1))) else (some 11))) else (none)) else (some 0)
def stmt_must_nil.f (k : Nat) (l1 : List ByteArray) : Option (Int) := stmt_must_nil.l0 k l1 0

set_option maxHeartbeats 8000000 in
set_option maxRecDepth 100000 in
theorem stmt_must_nil.calls (k : Nat) (A1 : Option Addr) (c1 : Nat) (l1 : List ByteArray) (r : Int) (c : Nat → Nat) (w : World) (hc : ∀ k, c k < 10) (HP1 : Ft c [0] w (fun w_ => Kd.string.C w_ A1 l1.length l1)) (HCP1 : l1.length ≤ c1) (H : stmt_must_nil.f k l1 = some r) :
    Calls Try.prog 109 #[.pointer none, .slice A1 l1.length c1] w fun e w' => ∃ (c' : Nat → Nat) , e = .returned (.int .i64 r) ∧ Step c w c' w' [] := by
 unfold stmt_must_nil.f at H
 have HS := Step.refl c w []
 go_enter Try.func109, Try.ntmps109
 refine wp_seq_k fun K70 hK70 => ?_
 refine wl_region ?_
 refine st (.int .i64 0) rfl rfl (xr_assign _ rfl rfl) ?_
 refine wl_end ?_
 (try simp only [ls0, ls1])
 refine hK70 _ _ ?_
 (try clear hK70 K70)
 refine wp_seq_k fun K71 hK71 => ?_
 refine wp_seq_k fun K72 hK72 => ?_
 refine wl_region ?_
 refine mv_ rfl ?_
 refine st (.int .i64 (l1.length : Int)) rfl rfl (xr_builtin #[.slice A1 l1.length c1] (.int .i64 (l1.length : Int)) rfl (mp_ rfl) (by first | rfl | (go_simp; done) | (go_simp; rfl) | (go_simp; exact i64_w _) | (go_simp; exact i32_w _))) ?_
 refine st (.int .i64 0) rfl rfl (xr_move _ rfl rfl) ?_
 refine wl_end ?_
 (try simp only [ls0, ls1])
 refine hK72 _ _ ?_
 (try clear hK72 K72)
 refine wp_block ?_
 (try simp only [ls0, ls1])
 refine wp_looped (looped_fin (fun kq114 a_ w113 => ∃ (C112 : Nat → Nat) (x111 : Int) (g_ : Nat → Value), a_ = ⟨#[.pointer none, (g_ 1), (g_ 2), (g_ 3), (g_ 4), (g_ 5), (g_ 6), .slice A1 l1.length c1, .int .i64 (l1.length : Int), .int .i64 x111, (g_ 10), (g_ 11), (g_ 12), (g_ 13), (g_ 14), (g_ 15), (g_ 16), (g_ 17)], []⟩ ∧ Step c w C112 w113 [] ∧ kq114 ≤ k ∧ (Ft C112 [0] w113 (fun w_ => Kd.string.C w_ A1 l1.length l1)) ∧ stmt_must_nil.l0 kq114 l1 x111 = some r) ?step fun hL_ => ?init)
 case init =>
  exact jmpL (fun a_ h_ => hL_ k a_ _ h_) (fun g_ => ⟨_, 0, g_, rfl, HS, Nat.le_refl _, HP1, H⟩) rfl
 case step =>
  intro kq114 ih117 a118 w113 hr119
  obtain ⟨C112, x111, g_, rfl, HS115, hk116, HJ110, H⟩ := hr119
  refine looped_round ?_
  cases kq114 with
  | zero => exact absurd H (by simp [stmt_must_nil.l0])
  | succ k120 =>
   simp only [stmt_must_nil.l0] at H
   refine wp_seq_k fun K121 hK121 => ?_
   refine wl_region ?_
   refine st (.bool (decide (x111 < (l1.length : Int)))) rfl rfl (xr_bin _ _ _ rfl rfl rfl (B.lss_i64 _ _)) ?_
   refine wl_end ?_
   (try simp only [ls0, ls1])
   refine hK121 _ _ ?_
   (try clear hK121 K121)
   refine wp_seq_k fun K122 hK122 => ?_
   by_cases c123 : x111 < (l1.length : Int)
   ·rw [if_pos c123] at H
    (try rw [(decide_eq_true c123)])
    refine wp_cond_true rfl ?_
    refine wp_skip ?_
    (try simp only [ls0, ls1])
    refine hK122 _ _ ?_
    (try clear hK122 K122)
    refine wp_seq_k fun K124 hK124 => ?_
    refine wp_block ?_
    refine wp_seq_k fun K125 hK125 => ?_
    refine wl_region ?_
    obtain ⟨c126, H⟩ := if_some H
    obtain ⟨ad127, hA128⟩ := c_addr (Ft.now HJ110) (pos_of (j := x111) (by first | assumption | decide) (by first | assumption | omega))
    refine st (.pointer (some (ad127.add ((x111 : Int).toNat * 1)))) rfl rfl (xr_indexAddr _ _ _ rfl rfl rfl (index_at Try.underlying105 info9 hA128 (by first | assumption | decide | omega) (by first | assumption | decide | omega))) ?_
    refine st (.string (rdOf ByteArray.empty l1 x111)) rfl rfl (xr_load _ _ rfl rfl (load_str Try.underlying9 rfl hA128 (Ft.now HJ110) (by first | assumption | decide | omega) (by first | assumption | decide | omega))) ?_
    refine as_ rfl ?_
    refine wl_end ?_
    (try simp only [ls0, ls1])
    refine hK125 _ _ ?_
    (try clear hK125 K125)
    refine wp_seq_k fun K129 hK129 => ?_
    refine wl_region ?_
    refine mv_ rfl ?_
    refine mv_ rfl ?_
    obtain ⟨t130, A131, H⟩ := bnd H
    refine st_call #[.pointer none, .string (rdOf ByteArray.empty l1 x111)] rfl rfl Try.func48 (by kernel_rfl) rfl rfl (mp_ rfl) ?_
    refine (expr_Cursor_Take_nil.calls (rdOf ByteArray.empty l1 x111) t130  (fun z_ => pal [(0, 0)] (C112 z_)) w113 (fun _ => pal_lt rfl _) A131).mono ?_
    rintro _ w133 ⟨C134, rfl, hs135⟩
    refine ⟨_, rfl, ?_⟩
    replace hs135 := Step.lift (U := [(0, 0)]) hs135 [] rfl rfl
    generalize up C112 C134 w113.heap.size [(0, 0)] = C134_ at hs135
    replace HJ110 := HJ110.thru hs135 rfl
    replace HS115 := HS115.trans hs135 hc rfl
    (try simp only [ls0, ls1])
    refine st (.bool (!t130)) rfl rfl (xr_un (.bool t130) _ rfl rfl (by first | rfl | (go_simp; done) | (go_simp; rfl) | (go_simp; exact i64_w _) | (go_simp; exact i32_w _))) ?_
    refine wl_end ?_
    (try simp only [ls0, ls1])
    refine hK129 _ _ ?_
    (try clear hK129 K129)
    by_cases c136 : t130 = true
    ·rw [if_pos c136] at H
     (try rw [c136])
     (try simp only [Bool.not_true, Bool.not_false])
     refine wp_cond_false rfl ?_
     refine wp_skip ?_
     (try simp only [ls0, ls1])
     refine hK124 _ _ ?_
     (try clear hK124 K124)
     refine wl_region ?_
     refine st (.int .i64 (wrap64 (x111 + 1))) rfl rfl (xr_bin _ _ _ rfl rfl rfl (B.add_i64 _ _)) ?_
     refine mv_ rfl ?_
     refine wl_end ?_
     (try simp only [ls0, ls1])
     exact jmpL (fun a_ h_ => ih117 k120 (by omega) a_ _ h_) (fun g_ => ⟨_, wrap64 (x111 + 1), g_, rfl, HS115, (by omega), HJ110, H⟩) rfl
    rw [if_neg c136] at H
    (try rw [(Bool.eq_false_iff.mpr c136)])
    (try simp only [Bool.not_true, Bool.not_false])
    refine wp_cond_true rfl ?_
    refine wp_seq_k fun K137 hK137 => ?_
    refine wl_region ?_
    refine st (.int .i64 11) rfl rfl (xr_assign _ rfl rfl) ?_
    refine wl_end ?_
    (try simp only [ls0, ls1])
    refine hK137 _ _ ?_
    (try clear hK137 K137)
    refine wp_ret ?_
    (try simp only [Exit.inBlock, Exit.then, Exit.noGoto])
    (try simp only [ls0, ls1])
    obtain rfl := Option.some.inj H
    refine bodyPost_ret (results_tmp rfl _ _ _) rfl ?_
    exact ⟨_, rfl, HS115⟩
   rw [if_neg c123] at H
   (try rw [(decide_eq_false c123)])
   refine wp_cond_false rfl ?_
   refine wp_exit ?_
   (try simp only [ls0, ls1])
   refine hK71 _ _ ?_
   (try clear hK71 K71)
   refine wp_seq_k fun K138 hK138 => ?_
   refine wl_region ?_
   refine st (.int .i64 0) rfl rfl (xr_assign _ rfl rfl) ?_
   refine wl_end ?_
   (try simp only [ls0, ls1])
   refine hK138 _ _ ?_
   (try clear hK138 K138)
   refine wp_ret ?_
   (try simp only [Exit.inBlock, Exit.then, Exit.noGoto])
   (try simp only [ls0, ls1])
   obtain rfl := Option.some.inj H
   refine bodyPost_ret (results_tmp rfl _ _ _) rfl ?_
   exact ⟨_, rfl, HS115⟩

/-! ### expr_Cursor_Expr_nil: function 51 -/
def expr_Cursor_Expr_nil.f (k : Nat)  : Option (Int × Int × Int × ByteArray × ByteArray × (List (S44)) × Int) := some (0, 0, 0, (⟨#[]⟩ : ByteArray), (⟨#[]⟩ : ByteArray), ([] : List (S44)), 1)

set_option maxHeartbeats 8000000 in
set_option maxRecDepth 100000 in
theorem expr_Cursor_Expr_nil.calls (k : Nat)  (r1 : Int) (r2 : Int) (r3 : Int) (r4 : ByteArray) (r5 : ByteArray) (r6 : List (S44)) (r7 : Int) (c : Nat → Nat) (w : World) (hc : ∀ k, c k < 10)  (H : expr_Cursor_Expr_nil.f k = some (r1, r2, r3, r4, r5, r6, r7)) :
    Calls Try.prog 51 #[.pointer none] w fun e w' => ∃ (c' : Nat → Nat) (A_r6 : Option Addr) (c_r6 : Nat), e = .returned (.tuple #[.agg #[.int .i64 r1, .int .i64 r2, .int .i64 r3, .string r4, .string r5, .slice A_r6 r6.length c_r6], .int .i64 r7]) ∧ Step c w c' w' [] ∧ Own c' 5 w' k44 44 (.slice A_r6 r6.length c_r6) r6 ∧ r6.length ≤ c_r6 := by
 unfold expr_Cursor_Expr_nil.f at H
 have HS := Step.refl c w []
 go_enter Try.func51, Try.ntmps51
 refine wp_seq_k fun K13 hK13 => ?_
 refine wl_region ?_
 refine bx_new (C := c) 44 ([.int .i64 0, .int .i64 0, .int .i64 0, .string (⟨#[]⟩ : ByteArray), .string (⟨#[]⟩ : ByteArray), .slice none 0 0]) 11 rfl rfl (by first | (go_simp; done) | (go_simp; rfl)) ?_
 intro g14 w15 C16 HX17 hs18
 replace HS := HS.trans hs18 hc rfl
 (try simp only [ls0, ls1])
 refine st (.int .i64 0) rfl rfl (xr_assign _ rfl rfl) ?_
 refine wl_end ?_
 (try simp only [ls0, ls1])
 refine hK13 _ _ ?_
 (try clear hK13 K13)
 refine wp_seq_k fun K19 hK19 => ?_
 refine wp_seq_k fun K20 hK20 => ?_
 refine wl_region ?_
 refine mv_ rfl ?_
 refine st (.bool true) rfl rfl (xr_bin (.pointer none) (.pointer none) (.bool true) rfl rfl rfl (B.eql_nn ⟨_, Try.underlying57⟩ (⟨0, 0, none⟩ : Addr))) ?_
 refine wl_end ?_
 (try simp only [ls0, ls1])
 refine hK20 _ _ ?_
 (try clear hK20 K20)
 refine wp_cond_true rfl ?_
 refine wp_seq_k fun K21 hK21 => ?_
 refine wl_region ?_
 refine st (.agg #[.int .i64 0, .int .i64 0, .int .i64 0, .string (⟨#[]⟩ : ByteArray), .string (⟨#[]⟩ : ByteArray), .slice none 0 0]) rfl rfl (xr_build #[] (.agg #[.int .i64 0, .int .i64 0, .int .i64 0, .string (⟨#[]⟩ : ByteArray), .string (⟨#[]⟩ : ByteArray), .slice none 0 0]) rfl (mp_ rfl) (by first | rfl | (go_simp; done) | (go_simp; rfl) | (go_simp; exact i64_w _) | (go_simp; exact i32_w _))) ?_
 refine bx_store (C := C16) (z := 11) (g := g14) (j := 0) (tb := 44) (u := .agg #[.int .i64 0, .int .i64 0, .int .i64 0, .string (⟨#[]⟩ : ByteArray), .string (⟨#[]⟩ : ByteArray), .slice none 0 0]) (seg := [.int .i64 0, .int .i64 0, .int .i64 0, .string (⟨#[]⟩ : ByteArray), .string (⟨#[]⟩ : ByteArray), .slice none 0 0]) (xs := [.int .i64 0, .int .i64 0, .int .i64 0, .string (⟨#[]⟩ : ByteArray), .string (⟨#[]⟩ : ByteArray), .slice none 0 0]) rfl rfl rfl rfl rfl rfl (by first | kernel_rfl | rfl) (by simp [Value.oneCell']) HX17 (by simp only [List.length_cons, List.length_nil]; omega) rfl ?_
 intro w22 HX23 hs24
 replace HS := HS.trans hs24 hc rfl
 (try simp only [ls0, ls1])
 refine st (.int .i64 1) rfl rfl (xr_assign _ rfl rfl) ?_
 refine wl_end ?_
 (try simp only [ls0, ls1])
 refine hK21 _ _ ?_
 (try clear hK21 K21)
 refine wp_ret ?_
 (try simp only [Exit.inBlock, Exit.then, Exit.noGoto])
 (try simp only [ls0, ls1])
 simp only [Option.some.injEq, Prod.mk.injEq] at H
 obtain ⟨rfl, rfl, rfl, rfl, rfl, rfl, rfl⟩ := H
 refine bodyPost_ret (res_ct rfl rfl (load_of (load_agg (cs := [.int .i64 0, .int .i64 0, .int .i64 0, .string (⟨#[]⟩ : ByteArray), .string (⟨#[]⟩ : ByteArray), .slice none 0 0]) Try.underlying44 rfl (by kernel_rfl) (bx_cells (HX23).2 0 rfl)))) rfl ?_
 exact ⟨_, none, 0, rfl, HS, (Own.nil _ _ _ _ _), (Nat.le_refl 0)⟩

/-! ### stmt_set: function 127 -/
def stmt_set.f (k : Nat) (l0_0 : List Int) (l0_1 : List (S28)) (a0_2 : Int) (a0_3 : Int) (a1_0 : Int) (a1_1 : Int) (a1_2 : ByteArray) (a1_3 : Int) (a1_4 : Bool) (a1_5 : Bool) (a1_6 : ByteArray) (a1_7 : Int) (a1_8 : Int) (a1_9 : Int) (a1_10 : Int) (a1_11 : Int) (a1_12 : ByteArray) (a1_13 : ByteArray) (l1_14 : List (S44)) (l1_15 : List (S89)) (l1_16 : List (S89)) : Option (Int × Int × Int × Int × Int × ByteArray × ByteArray × (List (S44))) := (some ([(⟨#[61]⟩ : ByteArray)] : List ByteArray)).bind fun y71 => ((stmt_must.f k l0_0 l0_1 a0_2 a0_3 y71).bind fun bt80 => (if bt80.1 = 0 then ((expr_Cursor_Expr.f k l0_0 l0_1 bt80.2 a0_3).bind fun bt92 => (if bt92.2.2.2.2.2.2.1 = 0 then ((some ([(⟨#[59]⟩ : ByteArray)] : List ByteArray)).bind fun y116 => ((stmt_must.f k l0_0 l0_1 bt92.2.2.2.2.2.2.2 a0_3 y116).bind fun bt125 => (some (bt125.1, bt125.2, bt92.1, bt92.2.1, bt92.2.2.1, bt92.2.2.2.1, bt92.2.2.2.2.1, bt92.2.2.2.2.2.1)))) else (some (bt92.2.2.2.2.2.2.1, bt92.2.2.2.2.2.2.2, bt92.1, bt92.2.1, bt92.2.2.1, bt92.2.2.2.1, bt92.2.2.2.2.1, bt92.2.2.2.2.2.1)))) else (some (bt80.1, bt80.2, a1_9, a1_10, a1_11, a1_12, a1_13, l1_14))))

set_option maxHeartbeats 8000000 in
set_option maxRecDepth 100000 in
theorem stmt_set.calls (k : Nat) (g0 : Nat) (A0_0 : Option Addr) (c0_0 : Nat) (l0_0 : List Int) (A0_1 : Option Addr) (c0_1 : Nat) (l0_1 : List (S28)) (a0_2 : Int) (a0_3 : Int) (g1 : Nat) (a1_0 : Int) (a1_1 : Int) (a1_2 : ByteArray) (a1_3 : Int) (a1_4 : Bool) (a1_5 : Bool) (a1_6 : ByteArray) (a1_7 : Int) (a1_8 : Int) (a1_9 : Int) (a1_10 : Int) (a1_11 : Int) (a1_12 : ByteArray) (a1_13 : ByteArray) (A1_14 : Option Addr) (c1_14 : Nat) (l1_14 : List (S44)) (A1_15 : Option Addr) (c1_15 : Nat) (l1_15 : List (S89)) (A1_16 : Option Addr) (c1_16 : Nat) (l1_16 : List (S89)) (r1 : Int) (r2 : Int) (r3 : Int) (r4 : Int) (r5 : Int) (r6 : ByteArray) (r7 : ByteArray) (r8 : List (S44)) (c : Nat → Nat) (w : World) (hc : ∀ k, c k < 10) (HP0 : Bx c 2 w g0 111 ([.slice A0_0 l0_0.length c0_0, .slice A0_1 l0_1.length c0_1, .int .i64 a0_2, .int .i64 a0_3])) (HP0_0 : Ft c [0] w (fun w_ => (Kd.int .u8).C w_ A0_0 l0_0.length l0_0)) (HCP0_0 : l0_0.length ≤ c0_0) (HP0_1 : Ft c [0] w (fun w_ => k28.C w_ A0_1 l0_1.length l0_1)) (HCP0_1 : l0_1.length ≤ c0_1) (HP1 : Bx c 1 w g1 89 ([.int .i64 a1_0, .int .i64 a1_1, .string a1_2, .int .i64 a1_3, .bool a1_4, .bool a1_5, .string a1_6, .int .i64 a1_7, .int .i64 a1_8, .int .i64 a1_9, .int .i64 a1_10, .int .i64 a1_11, .string a1_12, .string a1_13, .slice A1_14 l1_14.length c1_14, .slice A1_15 l1_15.length c1_15, .slice A1_16 l1_16.length c1_16])) (HP1_14 : Ft c [0] w (fun w_ => k44.C w_ A1_14 l1_14.length l1_14)) (HCP1_14 : l1_14.length ≤ c1_14) (HP1_15 : Ft c [0] w (fun w_ => k89.C w_ A1_15 l1_15.length l1_15)) (HCP1_15 : l1_15.length ≤ c1_15) (HP1_16 : Ft c [0] w (fun w_ => k89.C w_ A1_16 l1_16.length l1_16)) (HCP1_16 : l1_16.length ≤ c1_16) (H : stmt_set.f k l0_0 l0_1 a0_2 a0_3 a1_0 a1_1 a1_2 a1_3 a1_4 a1_5 a1_6 a1_7 a1_8 a1_9 a1_10 a1_11 a1_12 a1_13 l1_14 l1_15 l1_16 = some (r1, r2, r3, r4, r5, r6, r7, r8)) :
    Calls Try.prog 127 #[.pointer (some ⟨g0, 0, none⟩), .pointer (some ⟨g1, 0, none⟩)] w fun e w' => ∃ (c' : Nat → Nat) (A_r8 : Option Addr) (c_r8 : Nat), e = .returned (.int .i64 r1) ∧ Step c w c' w' [1, 2] ∧ Ft c' [0] w' (fun w_ => k44.C w_ A_r8 r8.length r8) ∧ r8.length ≤ c_r8 ∧ Bx c' 2 w' g0 111 ([.slice A0_0 l0_0.length c0_0, .slice A0_1 l0_1.length c0_1, .int .i64 r2, .int .i64 a0_3]) ∧ Bx c' 1 w' g1 89 ([.int .i64 a1_0, .int .i64 a1_1, .string a1_2, .int .i64 a1_3, .bool a1_4, .bool a1_5, .string a1_6, .int .i64 a1_7, .int .i64 a1_8, .int .i64 r3, .int .i64 r4, .int .i64 r5, .string r6, .string r7, .slice A_r8 r8.length c_r8, .slice A1_15 l1_15.length c1_15, .slice A1_16 l1_16.length c1_16]) := by
 unfold stmt_set.f at H
 have HS := Step.refl c w [1, 2]
 go_enter Try.func127, Try.ntmps127
 refine wp_seq_k fun K68 hK68 => ?_
 refine wl_region ?_
 refine st (.int .i64 0) rfl rfl (xr_assign _ rfl rfl) ?_
 refine wl_end ?_
 (try simp only [ls0, ls1])
 refine hK68 _ _ ?_
 (try clear hK68 K68)
 refine wp_seq_k fun K69 hK69 => ?_
 refine wp_seq_k fun K70 hK70 => ?_
 refine wl_region ?_
 refine mv_ rfl ?_
 obtain ⟨y71, A72, H⟩ := bnd H
 refine Own.lit Kd.string (C := c) (i := 11) rfl 9 rfl (xs := [(⟨#[61]⟩ : ByteArray)]) (inner := [.string (⟨#[61]⟩ : ByteArray)]) (by first | (go_simp; done) | (go_simp; rfl)) (reps_cons (fk_str _ _ (⟨#[61]⟩ : ByteArray)) rfl (Reps.none _ _)) (by simp only [List.length_cons, List.length_nil]; omega) (Option.some.inj A72) ?_
 intro A73 cp74 w75 C76 HO77 HC78 hs79
 replace HP0 := HP0.thru hs79 rfl
 replace HP0_0 := HP0_0.thru hs79 rfl
 replace HP0_1 := HP0_1.thru hs79 rfl
 replace HP1 := HP1.thru hs79 rfl
 replace HP1_14 := HP1_14.thru hs79 rfl
 replace HP1_15 := HP1_15.thru hs79 rfl
 replace HP1_16 := HP1_16.thru hs79 rfl
 replace HS := HS.trans hs79 hc rfl
 (try simp only [ls0, ls1])
 obtain ⟨⟨t80, t81⟩, A82, H⟩ := bnd H
 (try dsimp only at H)
 refine st_call #[.pointer (some ⟨g0, 0, none⟩), .slice A73 y71.length cp74] rfl rfl Try.func109 (by kernel_rfl) rfl rfl (mp_ rfl) ?_
 refine (stmt_must.calls k g0 A0_0 c0_0 l0_0 A0_1 c0_1 l0_1 a0_2 a0_3 A73 cp74 y71 t80 t81  (fun z_ => pal [(0, 0), (2, 1), (11, 0)] (C76 z_)) w75 (fun _ => pal_lt rfl _) (Bx.arg HP0 rfl) (Ft.arg HP0_0 rfl) HCP0_0 (Ft.arg HP0_1 rfl) HCP0_1 (Ft.arg (HO77.ft) rfl) HC78 A82).mono ?_
 rintro _ w84 ⟨C85, rfl, hs86, HX87⟩
 refine ⟨_, rfl, ?_⟩
 replace HX87 := Bx.res (U := [(0, 0), (1, 2)]) (j := 2) HX87 hs86 (by rfl) (by decide) rfl
 replace hs86 := Step.lift (U := [(0, 0), (1, 2)]) hs86 [2] rfl rfl
 generalize up C76 C85 w75.heap.size [(0, 0), (1, 2)] = C85_ at HX87 hs86
 replace HP0_0 := HP0_0.thru hs86 rfl
 replace HP0_1 := HP0_1.thru hs86 rfl
 replace HP1 := HP1.thru hs86 rfl
 replace HP1_14 := HP1_14.thru hs86 rfl
 replace HP1_15 := HP1_15.thru hs86 rfl
 replace HP1_16 := HP1_16.thru hs86 rfl
 replace HS := HS.trans hs86 hc rfl
 (try simp only [ls0, ls1])
 refine as_ rfl ?_
 refine wl_end ?_
 (try simp only [ls0, ls1])
 refine hK70 _ _ ?_
 (try clear hK70 K70)
 refine wp_seq_k fun K88 hK88 => ?_
 refine wl_region ?_
 refine mv_ rfl ?_
 refine st (.bool (!decide (t80 = 0))) rfl rfl (xr_bin _ _ _ rfl rfl rfl (B.neq_i64 _ _)) ?_
 refine wl_end ?_
 (try simp only [ls0, ls1])
 refine hK88 _ _ ?_
 (try clear hK88 K88)
 by_cases c89 : t80 = 0
 ·rw [if_pos c89] at H
  (try rw [(decide_eq_true c89)])
  (try simp only [Bool.not_true, Bool.not_false])
  refine wp_cond_false rfl ?_
  refine wp_skip ?_
  (try simp only [ls0, ls1])
  refine hK69 _ _ ?_
  (try clear hK69 K69)
  refine wp_seq_k fun K90 hK90 => ?_
  refine wp_seq_k fun K91 hK91 => ?_
  refine wl_region ?_
  refine mv_ rfl ?_
  refine mv_ rfl ?_
  obtain ⟨⟨t92, t93, t94, t95, t96, t97, t98, t99⟩, A100, H⟩ := bnd H
  (try dsimp only at H)
  refine st_call #[.pointer (some ⟨g0, 0, none⟩)] rfl rfl Try.func51 (by kernel_rfl) rfl rfl (mp_ rfl) ?_
  refine (expr_Cursor_Expr.calls k g0 A0_0 c0_0 l0_0 A0_1 c0_1 l0_1 t81 a0_3 t92 t93 t94 t95 t96 t97 t98 t99  (fun z_ => pal [(0, 0), (2, 1)] (C85_ z_)) w84 (fun _ => pal_lt rfl _) (Bx.arg HX87 rfl) (Ft.arg HP0_0 rfl) HCP0_0 (Ft.arg HP0_1 rfl) HCP0_1 A100).mono ?_
  rintro _ w102 ⟨C103, A105, cp106, rfl, hs104, HO107, HC108, HX109⟩
  refine ⟨_, rfl, ?_⟩
  replace HO107 := Ft.res (U := [(0, 0), (1, 2)]) HO107 hs104 [0] rfl rfl rfl
  replace HX109 := Bx.res (U := [(0, 0), (1, 2)]) (j := 2) HX109 hs104 (by rfl) (by decide) rfl
  replace hs104 := Step.lift (U := [(0, 0), (1, 2)]) hs104 [2] rfl rfl
  generalize up C85_ C103 w84.heap.size [(0, 0), (1, 2)] = C103_ at HO107 HX109 hs104
  replace HP0_0 := HP0_0.thru hs104 rfl
  replace HP0_1 := HP0_1.thru hs104 rfl
  replace HP1 := HP1.thru hs104 rfl
  replace HP1_14 := HP1_14.thru hs104 rfl
  replace HP1_15 := HP1_15.thru hs104 rfl
  replace HP1_16 := HP1_16.thru hs104 rfl
  replace HS := HS.trans hs104 hc rfl
  (try simp only [ls0, ls1])
  refine mv_ rfl ?_
  refine st (.agg #[.int .i64 t92, .int .i64 t93, .int .i64 t94, .string t95, .string t96, .slice A105 t97.length cp106]) rfl rfl (xr_extract (.tuple #[.agg #[.int .i64 t92, .int .i64 t93, .int .i64 t94, .string t95, .string t96, .slice A105 t97.length cp106], .int .i64 t98]) _ rfl rfl rfl) ?_
  refine st (.int .i64 t98) rfl rfl (xr_extract (.tuple #[.agg #[.int .i64 t92, .int .i64 t93, .int .i64 t94, .string t95, .string t96, .slice A105 t97.length cp106], .int .i64 t98]) _ rfl rfl rfl) ?_
  refine st (.pointer (some ⟨g1, 0, none⟩)) rfl rfl (xr_nilCheck _ rfl rfl) ?_
  simp only [ls0, ls1]
  refine st (.pointer (some ⟨g1, 9, none⟩)) rfl rfl (xr_fieldAddr _ _ rfl rfl (bx_field2 Try.underlying89 rfl rfl (by kernel_rfl))) ?_
  refine bx_store (C := C103_) (z := 1) (g := g1) (j := 9) (tb := 89) (u := .agg #[.int .i64 t92, .int .i64 t93, .int .i64 t94, .string t95, .string t96, .slice A105 t97.length cp106]) (seg := [.int .i64 t92, .int .i64 t93, .int .i64 t94, .string t95, .string t96, .slice A105 t97.length cp106]) (xs := [.int .i64 a1_0, .int .i64 a1_1, .string a1_2, .int .i64 a1_3, .bool a1_4, .bool a1_5, .string a1_6, .int .i64 a1_7, .int .i64 a1_8, .int .i64 a1_9, .int .i64 a1_10, .int .i64 a1_11, .string a1_12, .string a1_13, .slice A1_14 l1_14.length c1_14, .slice A1_15 l1_15.length c1_15, .slice A1_16 l1_16.length c1_16]) rfl rfl rfl rfl rfl rfl (by first | kernel_rfl | rfl) (by simp [Value.oneCell']) HP1 (by simp only [List.length_cons, List.length_nil]; omega) rfl ?_
  intro w110 HX111 hs112
  replace HX109 := HX109.thru hs112 rfl
  replace HP0_0 := HP0_0.thru hs112 rfl
  replace HP0_1 := HP0_1.thru hs112 rfl
  replace HO107 := HO107.thru hs112 rfl
  replace HP1_15 := HP1_15.thru hs112 rfl
  replace HP1_16 := HP1_16.thru hs112 rfl
  replace HS := HS.trans hs112 hc rfl
  (try simp only [ls0, ls1])
  refine as_ rfl ?_
  refine wl_end ?_
  (try simp only [ls0, ls1])
  refine hK91 _ _ ?_
  (try clear hK91 K91)
  refine wp_seq_k fun K113 hK113 => ?_
  refine wl_region ?_
  refine mv_ rfl ?_
  refine st (.bool (!decide (t98 = 0))) rfl rfl (xr_bin _ _ _ rfl rfl rfl (B.neq_i64 _ _)) ?_
  refine wl_end ?_
  (try simp only [ls0, ls1])
  refine hK113 _ _ ?_
  (try clear hK113 K113)
  by_cases c114 : t98 = 0
  ·rw [if_pos c114] at H
   (try rw [(decide_eq_true c114)])
   (try simp only [Bool.not_true, Bool.not_false])
   refine wp_cond_false rfl ?_
   refine wp_skip ?_
   (try simp only [ls0, ls1])
   refine hK90 _ _ ?_
   (try clear hK90 K90)
   refine wp_seq_k fun K115 hK115 => ?_
   refine wl_region ?_
   refine mv_ rfl ?_
   obtain ⟨y116, A117, H⟩ := bnd H
   refine Own.lit Kd.string (C := C103_) (i := 12) rfl 9 rfl (xs := [(⟨#[59]⟩ : ByteArray)]) (inner := [.string (⟨#[59]⟩ : ByteArray)]) (by first | (go_simp; done) | (go_simp; rfl)) (reps_cons (fk_str _ _ (⟨#[59]⟩ : ByteArray)) rfl (Reps.none _ _)) (by simp only [List.length_cons, List.length_nil]; omega) (Option.some.inj A117) ?_
   intro A118 cp119 w120 C121 HO122 HC123 hs124
   replace HX109 := HX109.thru hs124 rfl
   replace HP0_0 := HP0_0.thru hs124 rfl
   replace HP0_1 := HP0_1.thru hs124 rfl
   replace HX111 := HX111.thru hs124 rfl
   replace HO107 := HO107.thru hs124 rfl
   replace HP1_15 := HP1_15.thru hs124 rfl
   replace HP1_16 := HP1_16.thru hs124 rfl
   replace HS := HS.trans hs124 hc rfl
   (try simp only [ls0, ls1])
   obtain ⟨⟨t125, t126⟩, A127, H⟩ := bnd H
   (try dsimp only at H)
   refine st_call #[.pointer (some ⟨g0, 0, none⟩), .slice A118 y116.length cp119] rfl rfl Try.func109 (by kernel_rfl) rfl rfl (mp_ rfl) ?_
   refine (stmt_must.calls k g0 A0_0 c0_0 l0_0 A0_1 c0_1 l0_1 t99 a0_3 A118 cp119 y116 t125 t126  (fun z_ => pal [(0, 0), (2, 1), (12, 0)] (C121 z_)) w120 (fun _ => pal_lt rfl _) (Bx.arg HX109 rfl) (Ft.arg HP0_0 rfl) HCP0_0 (Ft.arg HP0_1 rfl) HCP0_1 (Ft.arg (HO122.ft) rfl) HC123 A127).mono ?_
   rintro _ w129 ⟨C130, rfl, hs131, HX132⟩
   refine ⟨_, rfl, ?_⟩
   replace HX132 := Bx.res (U := [(0, 0), (1, 2)]) (j := 2) HX132 hs131 (by rfl) (by decide) rfl
   replace hs131 := Step.lift (U := [(0, 0), (1, 2)]) hs131 [2] rfl rfl
   generalize up C121 C130 w120.heap.size [(0, 0), (1, 2)] = C130_ at HX132 hs131
   replace HP0_0 := HP0_0.thru hs131 rfl
   replace HP0_1 := HP0_1.thru hs131 rfl
   replace HX111 := HX111.thru hs131 rfl
   replace HO107 := HO107.thru hs131 rfl
   replace HP1_15 := HP1_15.thru hs131 rfl
   replace HP1_16 := HP1_16.thru hs131 rfl
   replace HS := HS.trans hs131 hc rfl
   (try simp only [ls0, ls1])
   refine as_ rfl ?_
   refine wl_end ?_
   (try simp only [ls0, ls1])
   refine hK115 _ _ ?_
   (try clear hK115 K115)
   refine wp_ret ?_
   (try simp only [Exit.inBlock, Exit.then, Exit.noGoto])
   (try simp only [ls0, ls1])
   simp only [Option.some.injEq, Prod.mk.injEq] at H
   obtain ⟨rfl, rfl, rfl, rfl, rfl, rfl, rfl, rfl⟩ := H
   refine bodyPost_ret (results_tmp rfl _ _ _) rfl ?_
   exact ⟨_, A105, cp106, rfl, HS, HO107, HC108, HX132, HX111⟩
  rw [if_neg c114] at H
  (try rw [(decide_eq_false c114)])
  (try simp only [Bool.not_true, Bool.not_false])
  refine wp_cond_true rfl ?_
  refine wp_seq_k fun K133 hK133 => ?_
  refine wl_region ?_
  refine mv_ rfl ?_
  refine as_ rfl ?_
  refine wl_end ?_
  (try simp only [ls0, ls1])
  refine hK133 _ _ ?_
  (try clear hK133 K133)
  refine wp_ret ?_
  (try simp only [Exit.inBlock, Exit.then, Exit.noGoto])
  (try simp only [ls0, ls1])
  simp only [Option.some.injEq, Prod.mk.injEq] at H
  obtain ⟨rfl, rfl, rfl, rfl, rfl, rfl, rfl, rfl⟩ := H
  refine bodyPost_ret (results_tmp rfl _ _ _) rfl ?_
  exact ⟨_, A105, cp106, rfl, HS, HO107, HC108, HX109, HX111⟩
 rw [if_neg c89] at H
 (try rw [(decide_eq_false c89)])
 (try simp only [Bool.not_true, Bool.not_false])
 refine wp_cond_true rfl ?_
 refine wp_seq_k fun K134 hK134 => ?_
 refine wl_region ?_
 refine mv_ rfl ?_
 refine as_ rfl ?_
 refine wl_end ?_
 (try simp only [ls0, ls1])
 refine hK134 _ _ ?_
 (try clear hK134 K134)
 refine wp_ret ?_
 (try simp only [Exit.inBlock, Exit.then, Exit.noGoto])
 (try simp only [ls0, ls1])
 simp only [Option.some.injEq, Prod.mk.injEq] at H
 obtain ⟨rfl, rfl, rfl, rfl, rfl, rfl, rfl, rfl⟩ := H
 refine bodyPost_ret (results_tmp rfl _ _ _) rfl ?_
 exact ⟨_, A1_14, c1_14, rfl, HS, HP1_14, HCP1_14, HX87, HP1⟩

/-! ### stmt_name_fp89_2: function 87 -/
def stmt_name_fp89_2.f (k : Nat) (l0_0 : List Int) (l0_1 : List (S28)) (a0_2 : Int) (a0_3 : Int) (a1_0 : Int) (a1_1 : Int) (a1_2 : ByteArray) (a1_3 : Int) (a1_4 : Bool) (a1_5 : Bool) (a1_6 : ByteArray) (a1_7 : Int) (a1_8 : Int) (a1_9 : Int) (a1_10 : Int) (a1_11 : Int) (a1_12 : ByteArray) (a1_13 : ByteArray) (l1_14 : List (S44)) (l1_15 : List (S89)) (l1_16 : List (S89)) : Option (Int × Int × ByteArray) := (expr_Cursor_Ident.f k l0_0 l0_1 a0_2 a0_3).bind fun bt25 => (if bt25.2.1 = true then (some (0, bt25.2.2, bt25.1)) else (some (11, bt25.2.2, bt25.1)))

set_option maxHeartbeats 8000000 in
set_option maxRecDepth 100000 in
theorem stmt_name_fp89_2.calls (k : Nat) (g0 : Nat) (A0_0 : Option Addr) (c0_0 : Nat) (l0_0 : List Int) (A0_1 : Option Addr) (c0_1 : Nat) (l0_1 : List (S28)) (a0_2 : Int) (a0_3 : Int) (g1 : Nat) (a1_0 : Int) (a1_1 : Int) (a1_2 : ByteArray) (a1_3 : Int) (a1_4 : Bool) (a1_5 : Bool) (a1_6 : ByteArray) (a1_7 : Int) (a1_8 : Int) (a1_9 : Int) (a1_10 : Int) (a1_11 : Int) (a1_12 : ByteArray) (a1_13 : ByteArray) (A1_14 : Option Addr) (c1_14 : Nat) (l1_14 : List (S44)) (A1_15 : Option Addr) (c1_15 : Nat) (l1_15 : List (S89)) (A1_16 : Option Addr) (c1_16 : Nat) (l1_16 : List (S89)) (r1 : Int) (r2 : Int) (r3 : ByteArray) (c : Nat → Nat) (w : World) (hc : ∀ k, c k < 10) (HP0 : Bx c 2 w g0 111 ([.slice A0_0 l0_0.length c0_0, .slice A0_1 l0_1.length c0_1, .int .i64 a0_2, .int .i64 a0_3])) (HP0_0 : Ft c [0] w (fun w_ => (Kd.int .u8).C w_ A0_0 l0_0.length l0_0)) (HCP0_0 : l0_0.length ≤ c0_0) (HP0_1 : Ft c [0] w (fun w_ => k28.C w_ A0_1 l0_1.length l0_1)) (HCP0_1 : l0_1.length ≤ c0_1) (HP1 : Bx c 1 w g1 89 ([.int .i64 a1_0, .int .i64 a1_1, .string a1_2, .int .i64 a1_3, .bool a1_4, .bool a1_5, .string a1_6, .int .i64 a1_7, .int .i64 a1_8, .int .i64 a1_9, .int .i64 a1_10, .int .i64 a1_11, .string a1_12, .string a1_13, .slice A1_14 l1_14.length c1_14, .slice A1_15 l1_15.length c1_15, .slice A1_16 l1_16.length c1_16])) (HP1_14 : Ft c [0] w (fun w_ => k44.C w_ A1_14 l1_14.length l1_14)) (HCP1_14 : l1_14.length ≤ c1_14) (HP1_15 : Ft c [0] w (fun w_ => k89.C w_ A1_15 l1_15.length l1_15)) (HCP1_15 : l1_15.length ≤ c1_15) (HP1_16 : Ft c [0] w (fun w_ => k89.C w_ A1_16 l1_16.length l1_16)) (HCP1_16 : l1_16.length ≤ c1_16) (H : stmt_name_fp89_2.f k l0_0 l0_1 a0_2 a0_3 a1_0 a1_1 a1_2 a1_3 a1_4 a1_5 a1_6 a1_7 a1_8 a1_9 a1_10 a1_11 a1_12 a1_13 l1_14 l1_15 l1_16 = some (r1, r2, r3)) :
    Calls Try.prog 87 #[.pointer (some ⟨g0, 0, none⟩), .pointer (some ⟨g1, 2, none⟩)] w fun e w' => ∃ (c' : Nat → Nat) , e = .returned (.int .i64 r1) ∧ Step c w c' w' [1, 2] ∧ Bx c' 2 w' g0 111 ([.slice A0_0 l0_0.length c0_0, .slice A0_1 l0_1.length c0_1, .int .i64 r2, .int .i64 a0_3]) ∧ Bx c' 1 w' g1 89 ([.int .i64 a1_0, .int .i64 a1_1, .string r3, .int .i64 a1_3, .bool a1_4, .bool a1_5, .string a1_6, .int .i64 a1_7, .int .i64 a1_8, .int .i64 a1_9, .int .i64 a1_10, .int .i64 a1_11, .string a1_12, .string a1_13, .slice A1_14 l1_14.length c1_14, .slice A1_15 l1_15.length c1_15, .slice A1_16 l1_16.length c1_16]) := by
 unfold stmt_name_fp89_2.f at H
 have HS := Step.refl c w [1, 2]
 go_enter Try.func87, Try.ntmps87
 refine wp_seq_k fun K21 hK21 => ?_
 refine wl_region ?_
 refine st (.int .i64 0) rfl rfl (xr_assign _ rfl rfl) ?_
 refine wl_end ?_
 (try simp only [ls0, ls1])
 refine hK21 _ _ ?_
 (try clear hK21 K21)
 refine wp_seq_k fun K22 hK22 => ?_
 refine wl_region ?_
 refine st (.bool false) rfl rfl (xr_assign _ rfl rfl) ?_
 refine wl_end ?_
 (try simp only [ls0, ls1])
 refine hK22 _ _ ?_
 (try clear hK22 K22)
 refine wp_seq_k fun K23 hK23 => ?_
 refine wp_seq_k fun K24 hK24 => ?_
 refine wl_region ?_
 refine mv_ rfl ?_
 refine mv_ rfl ?_
 obtain ⟨⟨t25, t26, t27⟩, A28, H⟩ := bnd H
 (try dsimp only at H)
 refine st_call #[.pointer (some ⟨g0, 0, none⟩)] rfl rfl Try.func49 (by kernel_rfl) rfl rfl (mp_ rfl) ?_
 refine (expr_Cursor_Ident.calls k g0 A0_0 c0_0 l0_0 A0_1 c0_1 l0_1 a0_2 a0_3 t25 t26 t27  (fun z_ => pal [(0, 0), (2, 1)] (c z_)) w (fun _ => pal_lt rfl _) (Bx.arg HP0 rfl) (Ft.arg HP0_0 rfl) HCP0_0 (Ft.arg HP0_1 rfl) HCP0_1 A28).mono ?_
 rintro _ w30 ⟨C31, rfl, hs32, HX33⟩
 refine ⟨_, rfl, ?_⟩
 replace HX33 := Bx.res (U := [(0, 0), (1, 2)]) (j := 2) HX33 hs32 (by rfl) (by decide) rfl
 replace hs32 := Step.lift (U := [(0, 0), (1, 2)]) hs32 [2] rfl rfl
 generalize up c C31 w.heap.size [(0, 0), (1, 2)] = C31_ at HX33 hs32
 replace HP0_0 := HP0_0.thru hs32 rfl
 replace HP0_1 := HP0_1.thru hs32 rfl
 replace HP1 := HP1.thru hs32 rfl
 replace HP1_14 := HP1_14.thru hs32 rfl
 replace HP1_15 := HP1_15.thru hs32 rfl
 replace HP1_16 := HP1_16.thru hs32 rfl
 replace HS := HS.trans hs32 hc rfl
 (try simp only [ls0, ls1])
 refine mv_ rfl ?_
 refine st (.string t25) rfl rfl (xr_extract (.tuple #[.string t25, .bool t26]) _ rfl rfl rfl) ?_
 refine st (.bool t26) rfl rfl (xr_extract (.tuple #[.string t25, .bool t26]) _ rfl rfl rfl) ?_
 refine st (.pointer (some ⟨g1, 2, none⟩)) rfl rfl (xr_nilCheck _ rfl rfl) ?_
 simp only [ls0, ls1]
 refine bx_store (C := C31_) (z := 1) (g := g1) (j := 2) (tb := 89) (u := .string t25) (seg := [.string t25]) (xs := [.int .i64 a1_0, .int .i64 a1_1, .string a1_2, .int .i64 a1_3, .bool a1_4, .bool a1_5, .string a1_6, .int .i64 a1_7, .int .i64 a1_8, .int .i64 a1_9, .int .i64 a1_10, .int .i64 a1_11, .string a1_12, .string a1_13, .slice A1_14 l1_14.length c1_14, .slice A1_15 l1_15.length c1_15, .slice A1_16 l1_16.length c1_16]) rfl rfl rfl rfl rfl rfl (by first | kernel_rfl | rfl) (by simp [Value.oneCell']) HP1 (by simp only [List.length_cons, List.length_nil]; omega) rfl ?_
 intro w34 HX35 hs36
 replace HX33 := HX33.thru hs36 rfl
 replace HP0_0 := HP0_0.thru hs36 rfl
 replace HP0_1 := HP0_1.thru hs36 rfl
 replace HP1_14 := HP1_14.thru hs36 rfl
 replace HP1_15 := HP1_15.thru hs36 rfl
 replace HP1_16 := HP1_16.thru hs36 rfl
 replace HS := HS.trans hs36 hc rfl
 (try simp only [ls0, ls1])
 refine as_ rfl ?_
 refine wl_end ?_
 (try simp only [ls0, ls1])
 refine hK24 _ _ ?_
 (try clear hK24 K24)
 refine wp_seq_k fun K37 hK37 => ?_
 refine wl_region ?_
 refine mv_ rfl ?_
 refine st (.bool (!t26)) rfl rfl (xr_un (.bool t26) _ rfl rfl (by first | rfl | (go_simp; done) | (go_simp; rfl) | (go_simp; exact i64_w _) | (go_simp; exact i32_w _))) ?_
 refine wl_end ?_
 (try simp only [ls0, ls1])
 refine hK37 _ _ ?_
 (try clear hK37 K37)
 by_cases c38 : t26 = true
 ·rw [if_pos c38] at H
  (try rw [c38])
  (try simp only [Bool.not_true, Bool.not_false])
  refine wp_cond_false rfl ?_
  refine wp_skip ?_
  (try simp only [ls0, ls1])
  refine hK23 _ _ ?_
  (try clear hK23 K23)
  refine wp_seq_k fun K39 hK39 => ?_
  refine wl_region ?_
  refine st (.int .i64 0) rfl rfl (xr_assign _ rfl rfl) ?_
  refine wl_end ?_
  (try simp only [ls0, ls1])
  refine hK39 _ _ ?_
  (try clear hK39 K39)
  refine wp_ret ?_
  (try simp only [Exit.inBlock, Exit.then, Exit.noGoto])
  (try simp only [ls0, ls1])
  simp only [Option.some.injEq, Prod.mk.injEq] at H
  obtain ⟨rfl, rfl, rfl⟩ := H
  refine bodyPost_ret (results_tmp rfl _ _ _) rfl ?_
  exact ⟨_, rfl, HS, HX33, HX35⟩
 rw [if_neg c38] at H
 (try rw [(Bool.eq_false_iff.mpr c38)])
 (try simp only [Bool.not_true, Bool.not_false])
 refine wp_cond_true rfl ?_
 refine wp_seq_k fun K40 hK40 => ?_
 refine wl_region ?_
 refine st (.int .i64 11) rfl rfl (xr_assign _ rfl rfl) ?_
 refine wl_end ?_
 (try simp only [ls0, ls1])
 refine hK40 _ _ ?_
 (try clear hK40 K40)
 refine wp_ret ?_
 (try simp only [Exit.inBlock, Exit.then, Exit.noGoto])
 (try simp only [ls0, ls1])
 simp only [Option.some.injEq, Prod.mk.injEq] at H
 obtain ⟨rfl, rfl, rfl⟩ := H
 refine bodyPost_ret (results_tmp rfl _ _ _) rfl ?_
 exact ⟨_, rfl, HS, HX33, HX35⟩

/-! ### stmt_name_nil_fp89_2: function 87 -/
def stmt_name_nil_fp89_2.f (k : Nat) (a1_0 : Int) (a1_1 : Int) (a1_2 : ByteArray) (a1_3 : Int) (a1_4 : Bool) (a1_5 : Bool) (a1_6 : ByteArray) (a1_7 : Int) (a1_8 : Int) (a1_9 : Int) (a1_10 : Int) (a1_11 : Int) (a1_12 : ByteArray) (a1_13 : ByteArray) (l1_14 : List (S44)) (l1_15 : List (S89)) (l1_16 : List (S89)) : Option (Int × ByteArray) := (expr_Cursor_Ident_nil.f k).bind fun bt23 => (if bt23.2 = true then (some (0, bt23.1)) else (some (11, bt23.1)))

set_option maxHeartbeats 8000000 in
set_option maxRecDepth 100000 in
theorem stmt_name_nil_fp89_2.calls (k : Nat) (g1 : Nat) (a1_0 : Int) (a1_1 : Int) (a1_2 : ByteArray) (a1_3 : Int) (a1_4 : Bool) (a1_5 : Bool) (a1_6 : ByteArray) (a1_7 : Int) (a1_8 : Int) (a1_9 : Int) (a1_10 : Int) (a1_11 : Int) (a1_12 : ByteArray) (a1_13 : ByteArray) (A1_14 : Option Addr) (c1_14 : Nat) (l1_14 : List (S44)) (A1_15 : Option Addr) (c1_15 : Nat) (l1_15 : List (S89)) (A1_16 : Option Addr) (c1_16 : Nat) (l1_16 : List (S89)) (r1 : Int) (r2 : ByteArray) (c : Nat → Nat) (w : World) (hc : ∀ k, c k < 10) (HP1 : Bx c 1 w g1 89 ([.int .i64 a1_0, .int .i64 a1_1, .string a1_2, .int .i64 a1_3, .bool a1_4, .bool a1_5, .string a1_6, .int .i64 a1_7, .int .i64 a1_8, .int .i64 a1_9, .int .i64 a1_10, .int .i64 a1_11, .string a1_12, .string a1_13, .slice A1_14 l1_14.length c1_14, .slice A1_15 l1_15.length c1_15, .slice A1_16 l1_16.length c1_16])) (HP1_14 : Ft c [0] w (fun w_ => k44.C w_ A1_14 l1_14.length l1_14)) (HCP1_14 : l1_14.length ≤ c1_14) (HP1_15 : Ft c [0] w (fun w_ => k89.C w_ A1_15 l1_15.length l1_15)) (HCP1_15 : l1_15.length ≤ c1_15) (HP1_16 : Ft c [0] w (fun w_ => k89.C w_ A1_16 l1_16.length l1_16)) (HCP1_16 : l1_16.length ≤ c1_16) (H : stmt_name_nil_fp89_2.f k a1_0 a1_1 a1_2 a1_3 a1_4 a1_5 a1_6 a1_7 a1_8 a1_9 a1_10 a1_11 a1_12 a1_13 l1_14 l1_15 l1_16 = some (r1, r2)) :
    Calls Try.prog 87 #[.pointer none, .pointer (some ⟨g1, 2, none⟩)] w fun e w' => ∃ (c' : Nat → Nat) , e = .returned (.int .i64 r1) ∧ Step c w c' w' [1] ∧ Bx c' 1 w' g1 89 ([.int .i64 a1_0, .int .i64 a1_1, .string r2, .int .i64 a1_3, .bool a1_4, .bool a1_5, .string a1_6, .int .i64 a1_7, .int .i64 a1_8, .int .i64 a1_9, .int .i64 a1_10, .int .i64 a1_11, .string a1_12, .string a1_13, .slice A1_14 l1_14.length c1_14, .slice A1_15 l1_15.length c1_15, .slice A1_16 l1_16.length c1_16]) := by
 unfold stmt_name_nil_fp89_2.f at H
 have HS := Step.refl c w [1]
 go_enter Try.func87, Try.ntmps87
 refine wp_seq_k fun K19 hK19 => ?_
 refine wl_region ?_
 refine st (.int .i64 0) rfl rfl (xr_assign _ rfl rfl) ?_
 refine wl_end ?_
 (try simp only [ls0, ls1])
 refine hK19 _ _ ?_
 (try clear hK19 K19)
 refine wp_seq_k fun K20 hK20 => ?_
 refine wl_region ?_
 refine st (.bool false) rfl rfl (xr_assign _ rfl rfl) ?_
 refine wl_end ?_
 (try simp only [ls0, ls1])
 refine hK20 _ _ ?_
 (try clear hK20 K20)
 refine wp_seq_k fun K21 hK21 => ?_
 refine wp_seq_k fun K22 hK22 => ?_
 refine wl_region ?_
 refine mv_ rfl ?_
 refine mv_ rfl ?_
 obtain ⟨⟨t23, t24⟩, A25, H⟩ := bnd H
 (try dsimp only at H)
 refine st_call #[.pointer none] rfl rfl Try.func49 (by kernel_rfl) rfl rfl (mp_ rfl) ?_
 refine (expr_Cursor_Ident_nil.calls k t23 t24  (fun z_ => pal [(0, 0)] (c z_)) w (fun _ => pal_lt rfl _) A25).mono ?_
 rintro _ w27 ⟨C28, rfl, hs29⟩
 refine ⟨_, rfl, ?_⟩
 replace hs29 := Step.lift (U := [(0, 0)]) hs29 [] rfl rfl
 generalize up c C28 w.heap.size [(0, 0)] = C28_ at hs29
 replace HP1 := HP1.thru hs29 rfl
 replace HP1_14 := HP1_14.thru hs29 rfl
 replace HP1_15 := HP1_15.thru hs29 rfl
 replace HP1_16 := HP1_16.thru hs29 rfl
 replace HS := HS.trans hs29 hc rfl
 (try simp only [ls0, ls1])
 refine mv_ rfl ?_
 refine st (.string t23) rfl rfl (xr_extract (.tuple #[.string t23, .bool t24]) _ rfl rfl rfl) ?_
 refine st (.bool t24) rfl rfl (xr_extract (.tuple #[.string t23, .bool t24]) _ rfl rfl rfl) ?_
 refine st (.pointer (some ⟨g1, 2, none⟩)) rfl rfl (xr_nilCheck _ rfl rfl) ?_
 simp only [ls0, ls1]
 refine bx_store (C := C28_) (z := 1) (g := g1) (j := 2) (tb := 89) (u := .string t23) (seg := [.string t23]) (xs := [.int .i64 a1_0, .int .i64 a1_1, .string a1_2, .int .i64 a1_3, .bool a1_4, .bool a1_5, .string a1_6, .int .i64 a1_7, .int .i64 a1_8, .int .i64 a1_9, .int .i64 a1_10, .int .i64 a1_11, .string a1_12, .string a1_13, .slice A1_14 l1_14.length c1_14, .slice A1_15 l1_15.length c1_15, .slice A1_16 l1_16.length c1_16]) rfl rfl rfl rfl rfl rfl (by first | kernel_rfl | rfl) (by simp [Value.oneCell']) HP1 (by simp only [List.length_cons, List.length_nil]; omega) rfl ?_
 intro w30 HX31 hs32
 replace HP1_14 := HP1_14.thru hs32 rfl
 replace HP1_15 := HP1_15.thru hs32 rfl
 replace HP1_16 := HP1_16.thru hs32 rfl
 replace HS := HS.trans hs32 hc rfl
 (try simp only [ls0, ls1])
 refine as_ rfl ?_
 refine wl_end ?_
 (try simp only [ls0, ls1])
 refine hK22 _ _ ?_
 (try clear hK22 K22)
 refine wp_seq_k fun K33 hK33 => ?_
 refine wl_region ?_
 refine mv_ rfl ?_
 refine st (.bool (!t24)) rfl rfl (xr_un (.bool t24) _ rfl rfl (by first | rfl | (go_simp; done) | (go_simp; rfl) | (go_simp; exact i64_w _) | (go_simp; exact i32_w _))) ?_
 refine wl_end ?_
 (try simp only [ls0, ls1])
 refine hK33 _ _ ?_
 (try clear hK33 K33)
 by_cases c34 : t24 = true
 ·rw [if_pos c34] at H
  (try rw [c34])
  (try simp only [Bool.not_true, Bool.not_false])
  refine wp_cond_false rfl ?_
  refine wp_skip ?_
  (try simp only [ls0, ls1])
  refine hK21 _ _ ?_
  (try clear hK21 K21)
  refine wp_seq_k fun K35 hK35 => ?_
  refine wl_region ?_
  refine st (.int .i64 0) rfl rfl (xr_assign _ rfl rfl) ?_
  refine wl_end ?_
  (try simp only [ls0, ls1])
  refine hK35 _ _ ?_
  (try clear hK35 K35)
  refine wp_ret ?_
  (try simp only [Exit.inBlock, Exit.then, Exit.noGoto])
  (try simp only [ls0, ls1])
  simp only [Option.some.injEq, Prod.mk.injEq] at H
  obtain ⟨rfl, rfl⟩ := H
  refine bodyPost_ret (results_tmp rfl _ _ _) rfl ?_
  exact ⟨_, rfl, HS, HX31⟩
 rw [if_neg c34] at H
 (try rw [(Bool.eq_false_iff.mpr c34)])
 (try simp only [Bool.not_true, Bool.not_false])
 refine wp_cond_true rfl ?_
 refine wp_seq_k fun K36 hK36 => ?_
 refine wl_region ?_
 refine st (.int .i64 11) rfl rfl (xr_assign _ rfl rfl) ?_
 refine wl_end ?_
 (try simp only [ls0, ls1])
 refine hK36 _ _ ?_
 (try clear hK36 K36)
 refine wp_ret ?_
 (try simp only [Exit.inBlock, Exit.then, Exit.noGoto])
 (try simp only [ls0, ls1])
 simp only [Option.some.injEq, Prod.mk.injEq] at H
 obtain ⟨rfl, rfl⟩ := H
 refine bodyPost_ret (results_tmp rfl _ _ _) rfl ?_
 exact ⟨_, rfl, HS, HX31⟩

/-! ### stmt_Type_nil: function 58 -/
def stmt_Type_nil.f  : Option (Int × Int) := some (0, 1)
set_option maxHeartbeats 8000000 in
set_option maxRecDepth 100000 in
theorem stmt_Type_nil.calls  (r1 : Int) (r2 : Int) (c : Nat → Nat) (w : World) (hc : ∀ k, c k < 10)  (H : stmt_Type_nil.f = some (r1, r2)) :
    Calls Try.prog 58 #[.pointer none] w fun e w' => ∃ (c' : Nat → Nat) , e = .returned (.tuple #[.int .i64 r1, .int .i64 r2]) ∧ Step c w c' w' [] := by
 unfold stmt_Type_nil.f at H
 have HS := Step.refl c w []
 go_enter Try.func58, Try.ntmps58
 refine wp_seq_k fun K5 hK5 => ?_
 refine wl_region ?_
 refine st (.int .i64 0) rfl rfl (xr_assign _ rfl rfl) ?_
 refine st (.int .i64 0) rfl rfl (xr_assign _ rfl rfl) ?_
 refine wl_end ?_
 (try simp only [ls0, ls1])
 refine hK5 _ _ ?_
 (try clear hK5 K5)
 refine wp_seq_k fun K6 hK6 => ?_
 refine wp_block ?_
 refine wp_seq_k fun K7 hK7 => ?_
 refine wl_region ?_
 refine mv_ rfl ?_
 refine st (.bool true) rfl rfl (xr_bin (.pointer none) (.pointer none) (.bool true) rfl rfl rfl (B.eql_nn ⟨_, Try.underlying57⟩ (⟨0, 0, none⟩ : Addr))) ?_
 refine as_ rfl ?_
 refine wl_end ?_
 (try simp only [ls0, ls1])
 refine hK7 _ _ ?_
 (try clear hK7 K7)
 refine wp_cond_true rfl ?_
 refine wp_seq_k fun K8 hK8 => ?_
 refine wl_region ?_
 refine st (.int .i64 0) rfl rfl (xr_assign _ rfl rfl) ?_
 refine st (.int .i64 1) rfl rfl (xr_assign _ rfl rfl) ?_
 refine wl_end ?_
 (try simp only [ls0, ls1])
 refine hK8 _ _ ?_
 (try clear hK8 K8)
 refine wp_ret ?_
 (try simp only [Exit.inBlock, Exit.then, Exit.noGoto])
 (try simp only [ls0, ls1])
 simp only [Option.some.injEq, Prod.mk.injEq] at H
 obtain ⟨rfl, rfl⟩ := H
 refine bodyPost_ret (results_tmp2 rfl _ _ _) rfl ?_
 exact ⟨_, rfl, HS⟩

/-! ### stmt_Mark_nil: function 60 -/
def stmt_Mark_nil.f  : Option (Bool × Bool × ByteArray × Int × Int × Int) := some (false, false, (⟨#[]⟩ : ByteArray), 0, 0, 1)
set_option maxHeartbeats 8000000 in
set_option maxRecDepth 100000 in
theorem stmt_Mark_nil.calls  (r1 : Bool) (r2 : Bool) (r3 : ByteArray) (r4 : Int) (r5 : Int) (r6 : Int) (c : Nat → Nat) (w : World) (hc : ∀ k, c k < 10)  (H : stmt_Mark_nil.f = some (r1, r2, r3, r4, r5, r6)) :
    Calls Try.prog 60 #[.pointer none] w fun e w' => ∃ (c' : Nat → Nat) , e = .returned (.tuple #[.agg #[.bool r1, .bool r2, .string r3, .int .i64 r4, .int .i64 r5], .int .i64 r6]) ∧ Step c w c' w' [] := by
 unfold stmt_Mark_nil.f at H
 have HS := Step.refl c w []
 go_enter Try.func60, Try.ntmps60
 refine wp_seq_k fun K13 hK13 => ?_
 refine wl_region ?_
 refine bx_new (C := c) 82 ([.bool false, .bool false, .string (⟨#[]⟩ : ByteArray), .int .i64 0, .int .i64 0]) 11 rfl rfl (by first | (go_simp; done) | (go_simp; rfl)) ?_
 intro g14 w15 C16 HX17 hs18
 replace HS := HS.trans hs18 hc rfl
 (try simp only [ls0, ls1])
 refine st (.int .i64 0) rfl rfl (xr_assign _ rfl rfl) ?_
 refine wl_end ?_
 (try simp only [ls0, ls1])
 refine hK13 _ _ ?_
 (try clear hK13 K13)
 refine wp_seq_k fun K19 hK19 => ?_
 refine wp_seq_k fun K20 hK20 => ?_
 refine wl_region ?_
 refine mv_ rfl ?_
 refine st (.bool true) rfl rfl (xr_bin (.pointer none) (.pointer none) (.bool true) rfl rfl rfl (B.eql_nn ⟨_, Try.underlying57⟩ (⟨0, 0, none⟩ : Addr))) ?_
 refine wl_end ?_
 (try simp only [ls0, ls1])
 refine hK20 _ _ ?_
 (try clear hK20 K20)
 refine wp_cond_true rfl ?_
 refine wp_seq_k fun K21 hK21 => ?_
 refine wl_region ?_
 refine st (.agg #[.bool false, .bool false, .string (⟨#[]⟩ : ByteArray), .int .i64 0, .int .i64 0]) rfl rfl (xr_build #[] (.agg #[.bool false, .bool false, .string (⟨#[]⟩ : ByteArray), .int .i64 0, .int .i64 0]) rfl (mp_ rfl) (by first | rfl | (go_simp; done) | (go_simp; rfl) | (go_simp; exact i64_w _) | (go_simp; exact i32_w _))) ?_
 refine bx_store (C := C16) (z := 11) (g := g14) (j := 0) (tb := 82) (u := .agg #[.bool false, .bool false, .string (⟨#[]⟩ : ByteArray), .int .i64 0, .int .i64 0]) (seg := [.bool false, .bool false, .string (⟨#[]⟩ : ByteArray), .int .i64 0, .int .i64 0]) (xs := [.bool false, .bool false, .string (⟨#[]⟩ : ByteArray), .int .i64 0, .int .i64 0]) rfl rfl rfl rfl rfl rfl (by first | kernel_rfl | rfl) (by simp [Value.oneCell']) HX17 (by simp only [List.length_cons, List.length_nil]; omega) rfl ?_
 intro w22 HX23 hs24
 replace HS := HS.trans hs24 hc rfl
 (try simp only [ls0, ls1])
 refine st (.int .i64 1) rfl rfl (xr_assign _ rfl rfl) ?_
 refine wl_end ?_
 (try simp only [ls0, ls1])
 refine hK21 _ _ ?_
 (try clear hK21 K21)
 refine wp_ret ?_
 (try simp only [Exit.inBlock, Exit.then, Exit.noGoto])
 (try simp only [ls0, ls1])
 simp only [Option.some.injEq, Prod.mk.injEq] at H
 obtain ⟨rfl, rfl, rfl, rfl, rfl, rfl⟩ := H
 refine bodyPost_ret (res_ct rfl rfl (load_of (load_agg (cs := [.bool false, .bool false, .string (⟨#[]⟩ : ByteArray), .int .i64 0, .int .i64 0]) Try.underlying82 rfl (by kernel_rfl) (bx_cells (HX23).2 0 rfl)))) rfl ?_
 exact ⟨_, rfl, HS⟩

/-! ### stmt_set_nil: function 127 -/
def stmt_set_nil.f (k : Nat) (a1_0 : Int) (a1_1 : Int) (a1_2 : ByteArray) (a1_3 : Int) (a1_4 : Bool) (a1_5 : Bool) (a1_6 : ByteArray) (a1_7 : Int) (a1_8 : Int) (a1_9 : Int) (a1_10 : Int) (a1_11 : Int) (a1_12 : ByteArray) (a1_13 : ByteArray) (l1_14 : List (S44)) (l1_15 : List (S89)) (l1_16 : List (S89)) : Option (Int × Int × Int × Int × ByteArray × ByteArray × (List (S44))) := (some ([(⟨#[61]⟩ : ByteArray)] : List ByteArray)).bind fun y65 => ((stmt_must_nil.f k y65).bind fun t74 => (if t74 = 0 then ((expr_Cursor_Expr_nil.f k).bind fun bt84 => (if bt84.2.2.2.2.2.2 = 0 then ((some ([(⟨#[59]⟩ : ByteArray)] : List ByteArray)).bind fun y106 => ((stmt_must_nil.f k y106).bind fun t115 => (some (t115, bt84.1, bt84.2.1, bt84.2.2.1, bt84.2.2.2.1, bt84.2.2.2.2.1, bt84.2.2.2.2.2.1)))) else (some (bt84.2.2.2.2.2.2, bt84.1, bt84.2.1, bt84.2.2.1, bt84.2.2.2.1, bt84.2.2.2.2.1, bt84.2.2.2.2.2.1)))) else (some (t74, a1_9, a1_10, a1_11, a1_12, a1_13, l1_14))))

set_option maxHeartbeats 8000000 in
set_option maxRecDepth 100000 in
theorem stmt_set_nil.calls (k : Nat) (g1 : Nat) (a1_0 : Int) (a1_1 : Int) (a1_2 : ByteArray) (a1_3 : Int) (a1_4 : Bool) (a1_5 : Bool) (a1_6 : ByteArray) (a1_7 : Int) (a1_8 : Int) (a1_9 : Int) (a1_10 : Int) (a1_11 : Int) (a1_12 : ByteArray) (a1_13 : ByteArray) (A1_14 : Option Addr) (c1_14 : Nat) (l1_14 : List (S44)) (A1_15 : Option Addr) (c1_15 : Nat) (l1_15 : List (S89)) (A1_16 : Option Addr) (c1_16 : Nat) (l1_16 : List (S89)) (r1 : Int) (r2 : Int) (r3 : Int) (r4 : Int) (r5 : ByteArray) (r6 : ByteArray) (r7 : List (S44)) (c : Nat → Nat) (w : World) (hc : ∀ k, c k < 10) (HP1 : Bx c 1 w g1 89 ([.int .i64 a1_0, .int .i64 a1_1, .string a1_2, .int .i64 a1_3, .bool a1_4, .bool a1_5, .string a1_6, .int .i64 a1_7, .int .i64 a1_8, .int .i64 a1_9, .int .i64 a1_10, .int .i64 a1_11, .string a1_12, .string a1_13, .slice A1_14 l1_14.length c1_14, .slice A1_15 l1_15.length c1_15, .slice A1_16 l1_16.length c1_16])) (HP1_14 : Ft c [0] w (fun w_ => k44.C w_ A1_14 l1_14.length l1_14)) (HCP1_14 : l1_14.length ≤ c1_14) (HP1_15 : Ft c [0] w (fun w_ => k89.C w_ A1_15 l1_15.length l1_15)) (HCP1_15 : l1_15.length ≤ c1_15) (HP1_16 : Ft c [0] w (fun w_ => k89.C w_ A1_16 l1_16.length l1_16)) (HCP1_16 : l1_16.length ≤ c1_16) (H : stmt_set_nil.f k a1_0 a1_1 a1_2 a1_3 a1_4 a1_5 a1_6 a1_7 a1_8 a1_9 a1_10 a1_11 a1_12 a1_13 l1_14 l1_15 l1_16 = some (r1, r2, r3, r4, r5, r6, r7)) :
    Calls Try.prog 127 #[.pointer none, .pointer (some ⟨g1, 0, none⟩)] w fun e w' => ∃ (c' : Nat → Nat) (A_r7 : Option Addr) (c_r7 : Nat), e = .returned (.int .i64 r1) ∧ Step c w c' w' [1] ∧ Ft c' [0] w' (fun w_ => k44.C w_ A_r7 r7.length r7) ∧ r7.length ≤ c_r7 ∧ Bx c' 1 w' g1 89 ([.int .i64 a1_0, .int .i64 a1_1, .string a1_2, .int .i64 a1_3, .bool a1_4, .bool a1_5, .string a1_6, .int .i64 a1_7, .int .i64 a1_8, .int .i64 r2, .int .i64 r3, .int .i64 r4, .string r5, .string r6, .slice A_r7 r7.length c_r7, .slice A1_15 l1_15.length c1_15, .slice A1_16 l1_16.length c1_16]) := by
 unfold stmt_set_nil.f at H
 have HS := Step.refl c w [1]
 go_enter Try.func127, Try.ntmps127
 refine wp_seq_k fun K62 hK62 => ?_
 refine wl_region ?_
 refine st (.int .i64 0) rfl rfl (xr_assign _ rfl rfl) ?_
 refine wl_end ?_
 (try simp only [ls0, ls1])
 refine hK62 _ _ ?_
 (try clear hK62 K62)
 refine wp_seq_k fun K63 hK63 => ?_
 refine wp_seq_k fun K64 hK64 => ?_
 refine wl_region ?_
 refine mv_ rfl ?_
 obtain ⟨y65, A66, H⟩ := bnd H
 refine Own.lit Kd.string (C := c) (i := 11) rfl 9 rfl (xs := [(⟨#[61]⟩ : ByteArray)]) (inner := [.string (⟨#[61]⟩ : ByteArray)]) (by first | (go_simp; done) | (go_simp; rfl)) (reps_cons (fk_str _ _ (⟨#[61]⟩ : ByteArray)) rfl (Reps.none _ _)) (by simp only [List.length_cons, List.length_nil]; omega) (Option.some.inj A66) ?_
 intro A67 cp68 w69 C70 HO71 HC72 hs73
 replace HP1 := HP1.thru hs73 rfl
 replace HP1_14 := HP1_14.thru hs73 rfl
 replace HP1_15 := HP1_15.thru hs73 rfl
 replace HP1_16 := HP1_16.thru hs73 rfl
 replace HS := HS.trans hs73 hc rfl
 (try simp only [ls0, ls1])
 obtain ⟨t74, A75, H⟩ := bnd H
 refine st_call #[.pointer none, .slice A67 y65.length cp68] rfl rfl Try.func109 (by kernel_rfl) rfl rfl (mp_ rfl) ?_
 refine (stmt_must_nil.calls k A67 cp68 y65 t74  (fun z_ => pal [(0, 0), (11, 0)] (C70 z_)) w69 (fun _ => pal_lt rfl _) (Ft.arg (HO71.ft) rfl) HC72 A75).mono ?_
 rintro _ w77 ⟨C78, rfl, hs79⟩
 refine ⟨_, rfl, ?_⟩
 replace hs79 := Step.lift (U := [(0, 0)]) hs79 [] rfl rfl
 generalize up C70 C78 w69.heap.size [(0, 0)] = C78_ at hs79
 replace HP1 := HP1.thru hs79 rfl
 replace HP1_14 := HP1_14.thru hs79 rfl
 replace HP1_15 := HP1_15.thru hs79 rfl
 replace HP1_16 := HP1_16.thru hs79 rfl
 replace HS := HS.trans hs79 hc rfl
 (try simp only [ls0, ls1])
 refine as_ rfl ?_
 refine wl_end ?_
 (try simp only [ls0, ls1])
 refine hK64 _ _ ?_
 (try clear hK64 K64)
 refine wp_seq_k fun K80 hK80 => ?_
 refine wl_region ?_
 refine mv_ rfl ?_
 refine st (.bool (!decide (t74 = 0))) rfl rfl (xr_bin _ _ _ rfl rfl rfl (B.neq_i64 _ _)) ?_
 refine wl_end ?_
 (try simp only [ls0, ls1])
 refine hK80 _ _ ?_
 (try clear hK80 K80)
 by_cases c81 : t74 = 0
 ·rw [if_pos c81] at H
  (try rw [(decide_eq_true c81)])
  (try simp only [Bool.not_true, Bool.not_false])
  refine wp_cond_false rfl ?_
  refine wp_skip ?_
  (try simp only [ls0, ls1])
  refine hK63 _ _ ?_
  (try clear hK63 K63)
  refine wp_seq_k fun K82 hK82 => ?_
  refine wp_seq_k fun K83 hK83 => ?_
  refine wl_region ?_
  refine mv_ rfl ?_
  refine mv_ rfl ?_
  obtain ⟨⟨t84, t85, t86, t87, t88, t89, t90⟩, A91, H⟩ := bnd H
  (try dsimp only at H)
  refine st_call #[.pointer none] rfl rfl Try.func51 (by kernel_rfl) rfl rfl (mp_ rfl) ?_
  refine (expr_Cursor_Expr_nil.calls k t84 t85 t86 t87 t88 t89 t90  (fun z_ => pal [(0, 0)] (C78_ z_)) w77 (fun _ => pal_lt rfl _) A91).mono ?_
  rintro _ w93 ⟨C94, A96, cp97, rfl, hs95, HO98, HC99⟩
  refine ⟨_, rfl, ?_⟩
  replace HO98 := Own.res (U := [(0, 0), (5, 12)]) (j := 12) HO98 hs95 (by rfl) (by decide) rfl rfl
  replace hs95 := Step.lift (U := [(0, 0), (5, 12)]) hs95 [] rfl rfl
  generalize up C78_ C94 w77.heap.size [(0, 0), (5, 12)] = C94_ at HO98 hs95
  replace HP1 := HP1.thru hs95 rfl
  replace HP1_14 := HP1_14.thru hs95 rfl
  replace HP1_15 := HP1_15.thru hs95 rfl
  replace HP1_16 := HP1_16.thru hs95 rfl
  replace HS := HS.trans hs95 hc rfl
  (try simp only [ls0, ls1])
  refine mv_ rfl ?_
  refine st (.agg #[.int .i64 t84, .int .i64 t85, .int .i64 t86, .string t87, .string t88, .slice A96 t89.length cp97]) rfl rfl (xr_extract (.tuple #[.agg #[.int .i64 t84, .int .i64 t85, .int .i64 t86, .string t87, .string t88, .slice A96 t89.length cp97], .int .i64 t90]) _ rfl rfl rfl) ?_
  refine st (.int .i64 t90) rfl rfl (xr_extract (.tuple #[.agg #[.int .i64 t84, .int .i64 t85, .int .i64 t86, .string t87, .string t88, .slice A96 t89.length cp97], .int .i64 t90]) _ rfl rfl rfl) ?_
  refine st (.pointer (some ⟨g1, 0, none⟩)) rfl rfl (xr_nilCheck _ rfl rfl) ?_
  simp only [ls0, ls1]
  refine st (.pointer (some ⟨g1, 9, none⟩)) rfl rfl (xr_fieldAddr _ _ rfl rfl (bx_field2 Try.underlying89 rfl rfl (by kernel_rfl))) ?_
  refine bx_store (C := C94_) (z := 1) (g := g1) (j := 9) (tb := 89) (u := .agg #[.int .i64 t84, .int .i64 t85, .int .i64 t86, .string t87, .string t88, .slice A96 t89.length cp97]) (seg := [.int .i64 t84, .int .i64 t85, .int .i64 t86, .string t87, .string t88, .slice A96 t89.length cp97]) (xs := [.int .i64 a1_0, .int .i64 a1_1, .string a1_2, .int .i64 a1_3, .bool a1_4, .bool a1_5, .string a1_6, .int .i64 a1_7, .int .i64 a1_8, .int .i64 a1_9, .int .i64 a1_10, .int .i64 a1_11, .string a1_12, .string a1_13, .slice A1_14 l1_14.length c1_14, .slice A1_15 l1_15.length c1_15, .slice A1_16 l1_16.length c1_16]) rfl rfl rfl rfl rfl rfl (by first | kernel_rfl | rfl) (by simp [Value.oneCell']) HP1 (by simp only [List.length_cons, List.length_nil]; omega) rfl ?_
  intro w100 HX101 hs102
  replace HO98 := HO98.thru hs102 rfl
  replace HP1_15 := HP1_15.thru hs102 rfl
  replace HP1_16 := HP1_16.thru hs102 rfl
  replace HS := HS.trans hs102 hc rfl
  (try simp only [ls0, ls1])
  refine as_ rfl ?_
  refine wl_end ?_
  (try simp only [ls0, ls1])
  refine hK83 _ _ ?_
  (try clear hK83 K83)
  refine wp_seq_k fun K103 hK103 => ?_
  refine wl_region ?_
  refine mv_ rfl ?_
  refine st (.bool (!decide (t90 = 0))) rfl rfl (xr_bin _ _ _ rfl rfl rfl (B.neq_i64 _ _)) ?_
  refine wl_end ?_
  (try simp only [ls0, ls1])
  refine hK103 _ _ ?_
  (try clear hK103 K103)
  by_cases c104 : t90 = 0
  ·rw [if_pos c104] at H
   (try rw [(decide_eq_true c104)])
   (try simp only [Bool.not_true, Bool.not_false])
   refine wp_cond_false rfl ?_
   refine wp_skip ?_
   (try simp only [ls0, ls1])
   refine hK82 _ _ ?_
   (try clear hK82 K82)
   refine wp_seq_k fun K105 hK105 => ?_
   refine wl_region ?_
   refine mv_ rfl ?_
   obtain ⟨y106, A107, H⟩ := bnd H
   refine Own.lit Kd.string (C := C94_) (i := 13) rfl 9 rfl (xs := [(⟨#[59]⟩ : ByteArray)]) (inner := [.string (⟨#[59]⟩ : ByteArray)]) (by first | (go_simp; done) | (go_simp; rfl)) (reps_cons (fk_str _ _ (⟨#[59]⟩ : ByteArray)) rfl (Reps.none _ _)) (by simp only [List.length_cons, List.length_nil]; omega) (Option.some.inj A107) ?_
   intro A108 cp109 w110 C111 HO112 HC113 hs114
   replace HX101 := HX101.thru hs114 rfl
   replace HO98 := HO98.thru hs114 rfl
   replace HP1_15 := HP1_15.thru hs114 rfl
   replace HP1_16 := HP1_16.thru hs114 rfl
   replace HS := HS.trans hs114 hc rfl
   (try simp only [ls0, ls1])
   obtain ⟨t115, A116, H⟩ := bnd H
   refine st_call #[.pointer none, .slice A108 y106.length cp109] rfl rfl Try.func109 (by kernel_rfl) rfl rfl (mp_ rfl) ?_
   refine (stmt_must_nil.calls k A108 cp109 y106 t115  (fun z_ => pal [(0, 0), (13, 0)] (C111 z_)) w110 (fun _ => pal_lt rfl _) (Ft.arg (HO112.ft) rfl) HC113 A116).mono ?_
   rintro _ w118 ⟨C119, rfl, hs120⟩
   refine ⟨_, rfl, ?_⟩
   replace hs120 := Step.lift (U := [(0, 0)]) hs120 [] rfl rfl
   generalize up C111 C119 w110.heap.size [(0, 0)] = C119_ at hs120
   replace HX101 := HX101.thru hs120 rfl
   replace HO98 := HO98.thru hs120 rfl
   replace HP1_15 := HP1_15.thru hs120 rfl
   replace HP1_16 := HP1_16.thru hs120 rfl
   replace HS := HS.trans hs120 hc rfl
   (try simp only [ls0, ls1])
   refine as_ rfl ?_
   refine wl_end ?_
   (try simp only [ls0, ls1])
   refine hK105 _ _ ?_
   (try clear hK105 K105)
   refine wp_ret ?_
   (try simp only [Exit.inBlock, Exit.then, Exit.noGoto])
   (try simp only [ls0, ls1])
   replace HX101 := Bx.recol (a := 12) (b := 0) HX101 (by decide)
   have HR121 := Ft.recolor (a := 12) (b := 0) (HO98.ft) [0] rfl
   replace HP1_15 := Ft.recol (a := 12) (b := 0) HP1_15 (.inl rfl)
   replace HP1_16 := Ft.recol (a := 12) (b := 0) HP1_16 (.inl rfl)
   replace HS := Step.recol (a := 12) (b := 0) HS hc (by decide)
   simp only [Option.some.injEq, Prod.mk.injEq] at H
   obtain ⟨rfl, rfl, rfl, rfl, rfl, rfl, rfl⟩ := H
   refine bodyPost_ret (results_tmp rfl _ _ _) rfl ?_
   exact ⟨_, A96, cp97, rfl, HS, HR121, HC99, HX101⟩
  rw [if_neg c104] at H
  (try rw [(decide_eq_false c104)])
  (try simp only [Bool.not_true, Bool.not_false])
  refine wp_cond_true rfl ?_
  refine wp_seq_k fun K122 hK122 => ?_
  refine wl_region ?_
  refine mv_ rfl ?_
  refine as_ rfl ?_
  refine wl_end ?_
  (try simp only [ls0, ls1])
  refine hK122 _ _ ?_
  (try clear hK122 K122)
  refine wp_ret ?_
  (try simp only [Exit.inBlock, Exit.then, Exit.noGoto])
  (try simp only [ls0, ls1])
  replace HX101 := Bx.recol (a := 12) (b := 0) HX101 (by decide)
  have HR123 := Ft.recolor (a := 12) (b := 0) (HO98.ft) [0] rfl
  replace HP1_15 := Ft.recol (a := 12) (b := 0) HP1_15 (.inl rfl)
  replace HP1_16 := Ft.recol (a := 12) (b := 0) HP1_16 (.inl rfl)
  replace HS := Step.recol (a := 12) (b := 0) HS hc (by decide)
  simp only [Option.some.injEq, Prod.mk.injEq] at H
  obtain ⟨rfl, rfl, rfl, rfl, rfl, rfl, rfl⟩ := H
  refine bodyPost_ret (results_tmp rfl _ _ _) rfl ?_
  exact ⟨_, A96, cp97, rfl, HS, HR123, HC99, HX101⟩
 rw [if_neg c81] at H
 (try rw [(decide_eq_false c81)])
 (try simp only [Bool.not_true, Bool.not_false])
 refine wp_cond_true rfl ?_
 refine wp_seq_k fun K124 hK124 => ?_
 refine wl_region ?_
 refine mv_ rfl ?_
 refine as_ rfl ?_
 refine wl_end ?_
 (try simp only [ls0, ls1])
 refine hK124 _ _ ?_
 (try clear hK124 K124)
 refine wp_ret ?_
 (try simp only [Exit.inBlock, Exit.then, Exit.noGoto])
 (try simp only [ls0, ls1])
 simp only [Option.some.injEq, Prod.mk.injEq] at H
 obtain ⟨rfl, rfl, rfl, rfl, rfl, rfl, rfl⟩ := H
 refine bodyPost_ret (results_tmp rfl _ _ _) rfl ?_
 exact ⟨_, A1_14, c1_14, rfl, HS, HP1_14, HCP1_14, HP1⟩

/-! ### stmt_let: function 106 -/
def stmt_let.f (k : Nat) (l0_0 : List Int) (l0_1 : List (S28)) (a0_2 : Int) (a0_3 : Int) (a1_0 : Int) (a1_1 : Int) (a1_2 : ByteArray) (a1_3 : Int) (a1_4 : Bool) (a1_5 : Bool) (a1_6 : ByteArray) (a1_7 : Int) (a1_8 : Int) (a1_9 : Int) (a1_10 : Int) (a1_11 : Int) (a1_12 : ByteArray) (a1_13 : ByteArray) (l1_14 : List (S44)) (l1_15 : List (S89)) (l1_16 : List (S89)) : Option (Int × Int × ByteArray × Int × Bool × Bool × ByteArray × Int × Int × Int × Int × Int × ByteArray × ByteArray × (List (S44))) := (stmt_name_fp89_2.f k l0_0 l0_1 a0_2 a0_3 a1_0 a1_1 a1_2 a1_3 a1_4 a1_5 a1_6 a1_7 a1_8 a1_9 a1_10 a1_11 a1_12 a1_13 l1_14 l1_15 l1_16).bind fun bt100 => (if bt100.1 = 0 then ((some ([(⟨#[58]⟩ : ByteArray)] : List ByteArray)).bind fun y114 => ((stmt_must.f k l0_0 l0_1 bt100.2.1 a0_3 y114).bind fun bt123 => (if bt123.1 = 0 then ((stmt_Type.f l0_0 l0_1 bt123.2 a0_3).bind fun bt135 => (if bt135.2.1 = 0 then ((stmt_Mark.f k l0_0 l0_1 bt135.2.2 a0_3).bind fun bt151 => (if bt151.2.2.2.2.2.1 = 0 then ((stmt_set.f k l0_0 l0_1 bt151.2.2.2.2.2.2 a0_3 a1_0 a1_1 bt100.2.2 bt135.1 bt151.1 bt151.2.1 bt151.2.2.1 bt151.2.2.2.1 bt151.2.2.2.2.1 a1_9 a1_10 a1_11 a1_12 a1_13 l1_14 l1_15 l1_16).bind fun bt170 => (some (bt170.1, bt170.2.1, bt100.2.2, bt135.1, bt151.1, bt151.2.1, bt151.2.2.1, bt151.2.2.2.1, bt151.2.2.2.2.1, bt170.2.2.1, bt170.2.2.2.1, bt170.2.2.2.2.1, bt170.2.2.2.2.2.1, bt170.2.2.2.2.2.2.1, bt170.2.2.2.2.2.2.2))) else (some (bt151.2.2.2.2.2.1, bt151.2.2.2.2.2.2, bt100.2.2, bt135.1, bt151.1, bt151.2.1, bt151.2.2.1, bt151.2.2.2.1, bt151.2.2.2.2.1, a1_9, a1_10, a1_11, a1_12, a1_13, l1_14)))) else (some (bt135.2.1, bt135.2.2, bt100.2.2, bt135.1, a1_4, a1_5, a1_6, a1_7, a1_8, a1_9, a1_10, a1_11, a1_12, a1_13, l1_14)))) else (some (bt123.1, bt123.2, bt100.2.2, a1_3, a1_4, a1_5, a1_6, a1_7, a1_8, a1_9, a1_10, a1_11, a1_12, a1_13, l1_14))))) else (some (bt100.1, bt100.2.1, bt100.2.2, a1_3, a1_4, a1_5, a1_6, a1_7, a1_8, a1_9, a1_10, a1_11, a1_12, a1_13, l1_14)))

set_option maxHeartbeats 8000000 in
set_option maxRecDepth 100000 in
theorem stmt_let.calls (k : Nat) (g0 : Nat) (A0_0 : Option Addr) (c0_0 : Nat) (l0_0 : List Int) (A0_1 : Option Addr) (c0_1 : Nat) (l0_1 : List (S28)) (a0_2 : Int) (a0_3 : Int) (g1 : Nat) (a1_0 : Int) (a1_1 : Int) (a1_2 : ByteArray) (a1_3 : Int) (a1_4 : Bool) (a1_5 : Bool) (a1_6 : ByteArray) (a1_7 : Int) (a1_8 : Int) (a1_9 : Int) (a1_10 : Int) (a1_11 : Int) (a1_12 : ByteArray) (a1_13 : ByteArray) (A1_14 : Option Addr) (c1_14 : Nat) (l1_14 : List (S44)) (A1_15 : Option Addr) (c1_15 : Nat) (l1_15 : List (S89)) (A1_16 : Option Addr) (c1_16 : Nat) (l1_16 : List (S89)) (r1 : Int) (r2 : Int) (r3 : ByteArray) (r4 : Int) (r5 : Bool) (r6 : Bool) (r7 : ByteArray) (r8 : Int) (r9 : Int) (r10 : Int) (r11 : Int) (r12 : Int) (r13 : ByteArray) (r14 : ByteArray) (r15 : List (S44)) (c : Nat → Nat) (w : World) (hc : ∀ k, c k < 10) (HP0 : Bx c 2 w g0 111 ([.slice A0_0 l0_0.length c0_0, .slice A0_1 l0_1.length c0_1, .int .i64 a0_2, .int .i64 a0_3])) (HP0_0 : Ft c [0] w (fun w_ => (Kd.int .u8).C w_ A0_0 l0_0.length l0_0)) (HCP0_0 : l0_0.length ≤ c0_0) (HP0_1 : Ft c [0] w (fun w_ => k28.C w_ A0_1 l0_1.length l0_1)) (HCP0_1 : l0_1.length ≤ c0_1) (HP1 : Bx c 1 w g1 89 ([.int .i64 a1_0, .int .i64 a1_1, .string a1_2, .int .i64 a1_3, .bool a1_4, .bool a1_5, .string a1_6, .int .i64 a1_7, .int .i64 a1_8, .int .i64 a1_9, .int .i64 a1_10, .int .i64 a1_11, .string a1_12, .string a1_13, .slice A1_14 l1_14.length c1_14, .slice A1_15 l1_15.length c1_15, .slice A1_16 l1_16.length c1_16])) (HP1_14 : Ft c [0] w (fun w_ => k44.C w_ A1_14 l1_14.length l1_14)) (HCP1_14 : l1_14.length ≤ c1_14) (HP1_15 : Ft c [0] w (fun w_ => k89.C w_ A1_15 l1_15.length l1_15)) (HCP1_15 : l1_15.length ≤ c1_15) (HP1_16 : Ft c [0] w (fun w_ => k89.C w_ A1_16 l1_16.length l1_16)) (HCP1_16 : l1_16.length ≤ c1_16) (H : stmt_let.f k l0_0 l0_1 a0_2 a0_3 a1_0 a1_1 a1_2 a1_3 a1_4 a1_5 a1_6 a1_7 a1_8 a1_9 a1_10 a1_11 a1_12 a1_13 l1_14 l1_15 l1_16 = some (r1, r2, r3, r4, r5, r6, r7, r8, r9, r10, r11, r12, r13, r14, r15)) :
    Calls Try.prog 106 #[.pointer (some ⟨g0, 0, none⟩), .pointer (some ⟨g1, 0, none⟩)] w fun e w' => ∃ (c' : Nat → Nat) (A_r15 : Option Addr) (c_r15 : Nat), e = .returned (.int .i64 r1) ∧ Step c w c' w' [1, 2] ∧ Ft c' [0] w' (fun w_ => k44.C w_ A_r15 r15.length r15) ∧ r15.length ≤ c_r15 ∧ Bx c' 2 w' g0 111 ([.slice A0_0 l0_0.length c0_0, .slice A0_1 l0_1.length c0_1, .int .i64 r2, .int .i64 a0_3]) ∧ Bx c' 1 w' g1 89 ([.int .i64 a1_0, .int .i64 a1_1, .string r3, .int .i64 r4, .bool r5, .bool r6, .string r7, .int .i64 r8, .int .i64 r9, .int .i64 r10, .int .i64 r11, .int .i64 r12, .string r13, .string r14, .slice A_r15 r15.length c_r15, .slice A1_15 l1_15.length c1_15, .slice A1_16 l1_16.length c1_16]) := by
 unfold stmt_let.f at H
 have HS := Step.refl c w [1, 2]
 go_enter Try.func106, Try.ntmps106
 refine wp_seq_k fun K97 hK97 => ?_
 refine wl_region ?_
 refine st (.int .i64 0) rfl rfl (xr_assign _ rfl rfl) ?_
 refine wl_end ?_
 (try simp only [ls0, ls1])
 refine hK97 _ _ ?_
 (try clear hK97 K97)
 refine wp_seq_k fun K98 hK98 => ?_
 refine wp_seq_k fun K99 hK99 => ?_
 refine wl_region ?_
 refine mv_ rfl ?_
 refine mv_ rfl ?_
 refine st (.pointer (some ⟨g1, 0, none⟩)) rfl rfl (xr_nilCheck _ rfl rfl) ?_
 refine st (.pointer (some ⟨g1, 2, none⟩)) rfl rfl (xr_fieldAddr _ _ rfl rfl (bx_field2 Try.underlying89 rfl rfl (by kernel_rfl))) ?_
 simp only [ls0, ls1]
 obtain ⟨⟨t100, t101, t102⟩, A103, H⟩ := bnd H
 (try dsimp only at H)
 refine st_call #[.pointer (some ⟨g0, 0, none⟩), .pointer (some ⟨g1, 2, none⟩)] rfl rfl Try.func87 (by kernel_rfl) rfl rfl (mp_ rfl) ?_
 refine (stmt_name_fp89_2.calls k g0 A0_0 c0_0 l0_0 A0_1 c0_1 l0_1 a0_2 a0_3 g1 a1_0 a1_1 a1_2 a1_3 a1_4 a1_5 a1_6 a1_7 a1_8 a1_9 a1_10 a1_11 a1_12 a1_13 A1_14 c1_14 l1_14 A1_15 c1_15 l1_15 A1_16 c1_16 l1_16 t100 t101 t102  (fun z_ => pal [(0, 0), (1, 1), (2, 2)] (c z_)) w (fun _ => pal_lt rfl _) (Bx.arg HP0 rfl) (Ft.arg HP0_0 rfl) HCP0_0 (Ft.arg HP0_1 rfl) HCP0_1 (Bx.arg HP1 rfl) (Ft.arg HP1_14 rfl) HCP1_14 (Ft.arg HP1_15 rfl) HCP1_15 (Ft.arg HP1_16 rfl) HCP1_16 A103).mono ?_
 rintro _ w105 ⟨C106, rfl, hs107, HX108, HX109⟩
 refine ⟨_, rfl, ?_⟩
 replace HX108 := Bx.res (U := [(0, 0), (2, 2), (1, 1)]) (j := 2) HX108 hs107 (by rfl) (by decide) rfl
 replace HX109 := Bx.res (U := [(0, 0), (2, 2), (1, 1)]) (j := 1) HX109 hs107 (by rfl) (by decide) rfl
 replace hs107 := Step.lift (U := [(0, 0), (2, 2), (1, 1)]) hs107 [1, 2] rfl rfl
 generalize up c C106 w.heap.size [(0, 0), (2, 2), (1, 1)] = C106_ at HX108 HX109 hs107
 replace HP0_0 := HP0_0.thru hs107 rfl
 replace HP0_1 := HP0_1.thru hs107 rfl
 replace HP1_14 := HP1_14.thru hs107 rfl
 replace HP1_15 := HP1_15.thru hs107 rfl
 replace HP1_16 := HP1_16.thru hs107 rfl
 replace HS := HS.trans hs107 hc rfl
 (try simp only [ls0, ls1])
 refine as_ rfl ?_
 refine wl_end ?_
 (try simp only [ls0, ls1])
 refine hK99 _ _ ?_
 (try clear hK99 K99)
 refine wp_seq_k fun K110 hK110 => ?_
 refine wl_region ?_
 refine mv_ rfl ?_
 refine st (.bool (!decide (t100 = 0))) rfl rfl (xr_bin _ _ _ rfl rfl rfl (B.neq_i64 _ _)) ?_
 refine wl_end ?_
 (try simp only [ls0, ls1])
 refine hK110 _ _ ?_
 (try clear hK110 K110)
 by_cases c111 : t100 = 0
 ·rw [if_pos c111] at H
  (try rw [(decide_eq_true c111)])
  (try simp only [Bool.not_true, Bool.not_false])
  refine wp_cond_false rfl ?_
  refine wp_skip ?_
  (try simp only [ls0, ls1])
  refine hK98 _ _ ?_
  (try clear hK98 K98)
  refine wp_seq_k fun K112 hK112 => ?_
  refine wp_seq_k fun K113 hK113 => ?_
  refine wl_region ?_
  refine mv_ rfl ?_
  obtain ⟨y114, A115, H⟩ := bnd H
  refine Own.lit Kd.string (C := C106_) (i := 11) rfl 9 rfl (xs := [(⟨#[58]⟩ : ByteArray)]) (inner := [.string (⟨#[58]⟩ : ByteArray)]) (by first | (go_simp; done) | (go_simp; rfl)) (reps_cons (fk_str _ _ (⟨#[58]⟩ : ByteArray)) rfl (Reps.none _ _)) (by simp only [List.length_cons, List.length_nil]; omega) (Option.some.inj A115) ?_
  intro A116 cp117 w118 C119 HO120 HC121 hs122
  replace HX108 := HX108.thru hs122 rfl
  replace HP0_0 := HP0_0.thru hs122 rfl
  replace HP0_1 := HP0_1.thru hs122 rfl
  replace HX109 := HX109.thru hs122 rfl
  replace HP1_14 := HP1_14.thru hs122 rfl
  replace HP1_15 := HP1_15.thru hs122 rfl
  replace HP1_16 := HP1_16.thru hs122 rfl
  replace HS := HS.trans hs122 hc rfl
  (try simp only [ls0, ls1])
  obtain ⟨⟨t123, t124⟩, A125, H⟩ := bnd H
  (try dsimp only at H)
  refine st_call #[.pointer (some ⟨g0, 0, none⟩), .slice A116 y114.length cp117] rfl rfl Try.func109 (by kernel_rfl) rfl rfl (mp_ rfl) ?_
  refine (stmt_must.calls k g0 A0_0 c0_0 l0_0 A0_1 c0_1 l0_1 t101 a0_3 A116 cp117 y114 t123 t124  (fun z_ => pal [(0, 0), (2, 1), (11, 0)] (C119 z_)) w118 (fun _ => pal_lt rfl _) (Bx.arg HX108 rfl) (Ft.arg HP0_0 rfl) HCP0_0 (Ft.arg HP0_1 rfl) HCP0_1 (Ft.arg (HO120.ft) rfl) HC121 A125).mono ?_
  rintro _ w127 ⟨C128, rfl, hs129, HX130⟩
  refine ⟨_, rfl, ?_⟩
  replace HX130 := Bx.res (U := [(0, 0), (1, 2)]) (j := 2) HX130 hs129 (by rfl) (by decide) rfl
  replace hs129 := Step.lift (U := [(0, 0), (1, 2)]) hs129 [2] rfl rfl
  generalize up C119 C128 w118.heap.size [(0, 0), (1, 2)] = C128_ at HX130 hs129
  replace HP0_0 := HP0_0.thru hs129 rfl
  replace HP0_1 := HP0_1.thru hs129 rfl
  replace HX109 := HX109.thru hs129 rfl
  replace HP1_14 := HP1_14.thru hs129 rfl
  replace HP1_15 := HP1_15.thru hs129 rfl
  replace HP1_16 := HP1_16.thru hs129 rfl
  replace HS := HS.trans hs129 hc rfl
  (try simp only [ls0, ls1])
  refine as_ rfl ?_
  refine wl_end ?_
  (try simp only [ls0, ls1])
  refine hK113 _ _ ?_
  (try clear hK113 K113)
  refine wp_seq_k fun K131 hK131 => ?_
  refine wl_region ?_
  refine mv_ rfl ?_
  refine st (.bool (!decide (t123 = 0))) rfl rfl (xr_bin _ _ _ rfl rfl rfl (B.neq_i64 _ _)) ?_
  refine wl_end ?_
  (try simp only [ls0, ls1])
  refine hK131 _ _ ?_
  (try clear hK131 K131)
  by_cases c132 : t123 = 0
  ·rw [if_pos c132] at H
   (try rw [(decide_eq_true c132)])
   (try simp only [Bool.not_true, Bool.not_false])
   refine wp_cond_false rfl ?_
   refine wp_skip ?_
   (try simp only [ls0, ls1])
   refine hK112 _ _ ?_
   (try clear hK112 K112)
   refine wp_seq_k fun K133 hK133 => ?_
   refine wp_seq_k fun K134 hK134 => ?_
   refine wl_region ?_
   refine mv_ rfl ?_
   refine mv_ rfl ?_
   obtain ⟨⟨t135, t136, t137⟩, A138, H⟩ := bnd H
   (try dsimp only at H)
   refine st_call #[.pointer (some ⟨g0, 0, none⟩)] rfl rfl Try.func58 (by kernel_rfl) rfl rfl (mp_ rfl) ?_
   refine (stmt_Type.calls g0 A0_0 c0_0 l0_0 A0_1 c0_1 l0_1 t124 a0_3 t135 t136 t137  (fun z_ => pal [(0, 0), (2, 1)] (C128_ z_)) w127 (fun _ => pal_lt rfl _) (Bx.arg HX130 rfl) (Ft.arg HP0_0 rfl) HCP0_0 (Ft.arg HP0_1 rfl) HCP0_1 A138).mono ?_
   rintro _ w140 ⟨C141, rfl, hs142, HX143⟩
   refine ⟨_, rfl, ?_⟩
   replace HX143 := Bx.res (U := [(0, 0), (1, 2)]) (j := 2) HX143 hs142 (by rfl) (by decide) rfl
   replace hs142 := Step.lift (U := [(0, 0), (1, 2)]) hs142 [2] rfl rfl
   generalize up C128_ C141 w127.heap.size [(0, 0), (1, 2)] = C141_ at HX143 hs142
   replace HP0_0 := HP0_0.thru hs142 rfl
   replace HP0_1 := HP0_1.thru hs142 rfl
   replace HX109 := HX109.thru hs142 rfl
   replace HP1_14 := HP1_14.thru hs142 rfl
   replace HP1_15 := HP1_15.thru hs142 rfl
   replace HP1_16 := HP1_16.thru hs142 rfl
   replace HS := HS.trans hs142 hc rfl
   (try simp only [ls0, ls1])
   refine mv_ rfl ?_
   refine st (.int .i64 t135) rfl rfl (xr_extract (.tuple #[.int .i64 t135, .int .i64 t136]) _ rfl rfl rfl) ?_
   refine st (.int .i64 t136) rfl rfl (xr_extract (.tuple #[.int .i64 t135, .int .i64 t136]) _ rfl rfl rfl) ?_
   refine st (.pointer (some ⟨g1, 0, none⟩)) rfl rfl (xr_nilCheck _ rfl rfl) ?_
   simp only [ls0, ls1]
   refine st (.pointer (some ⟨g1, 3, none⟩)) rfl rfl (xr_fieldAddr _ _ rfl rfl (bx_field2 Try.underlying89 rfl rfl (by kernel_rfl))) ?_
   refine bx_store (C := C141_) (z := 1) (g := g1) (j := 3) (tb := 89) (u := .int .i64 t135) (seg := [.int .i64 t135]) (xs := [.int .i64 a1_0, .int .i64 a1_1, .string t102, .int .i64 a1_3, .bool a1_4, .bool a1_5, .string a1_6, .int .i64 a1_7, .int .i64 a1_8, .int .i64 a1_9, .int .i64 a1_10, .int .i64 a1_11, .string a1_12, .string a1_13, .slice A1_14 l1_14.length c1_14, .slice A1_15 l1_15.length c1_15, .slice A1_16 l1_16.length c1_16]) rfl rfl rfl rfl rfl rfl (by first | kernel_rfl | rfl) (by simp [Value.oneCell']) HX109 (by simp only [List.length_cons, List.length_nil]; omega) rfl ?_
   intro w144 HX145 hs146
   replace HX143 := HX143.thru hs146 rfl
   replace HP0_0 := HP0_0.thru hs146 rfl
   replace HP0_1 := HP0_1.thru hs146 rfl
   replace HP1_14 := HP1_14.thru hs146 rfl
   replace HP1_15 := HP1_15.thru hs146 rfl
   replace HP1_16 := HP1_16.thru hs146 rfl
   replace HS := HS.trans hs146 hc rfl
   (try simp only [ls0, ls1])
   refine as_ rfl ?_
   refine wl_end ?_
   (try simp only [ls0, ls1])
   refine hK134 _ _ ?_
   (try clear hK134 K134)
   refine wp_seq_k fun K147 hK147 => ?_
   refine wl_region ?_
   refine mv_ rfl ?_
   refine st (.bool (!decide (t136 = 0))) rfl rfl (xr_bin _ _ _ rfl rfl rfl (B.neq_i64 _ _)) ?_
   refine wl_end ?_
   (try simp only [ls0, ls1])
   refine hK147 _ _ ?_
   (try clear hK147 K147)
   by_cases c148 : t136 = 0
   ·rw [if_pos c148] at H
    (try rw [(decide_eq_true c148)])
    (try simp only [Bool.not_true, Bool.not_false])
    refine wp_cond_false rfl ?_
    refine wp_skip ?_
    (try simp only [ls0, ls1])
    refine hK133 _ _ ?_
    (try clear hK133 K133)
    refine wp_seq_k fun K149 hK149 => ?_
    refine wp_seq_k fun K150 hK150 => ?_
    refine wl_region ?_
    refine mv_ rfl ?_
    refine mv_ rfl ?_
    obtain ⟨⟨t151, t152, t153, t154, t155, t156, t157⟩, A158, H⟩ := bnd H
    (try dsimp only at H)
    refine st_call #[.pointer (some ⟨g0, 0, none⟩)] rfl rfl Try.func60 (by kernel_rfl) rfl rfl (mp_ rfl) ?_
    refine (stmt_Mark.calls k g0 A0_0 c0_0 l0_0 A0_1 c0_1 l0_1 t137 a0_3 t151 t152 t153 t154 t155 t156 t157  (fun z_ => pal [(0, 0), (2, 1)] (C141_ z_)) w144 (fun _ => pal_lt rfl _) (Bx.arg HX143 rfl) (Ft.arg HP0_0 rfl) HCP0_0 (Ft.arg HP0_1 rfl) HCP0_1 A158).mono ?_
    rintro _ w160 ⟨C161, rfl, hs162, HX163⟩
    refine ⟨_, rfl, ?_⟩
    replace HX163 := Bx.res (U := [(0, 0), (1, 2)]) (j := 2) HX163 hs162 (by rfl) (by decide) rfl
    replace hs162 := Step.lift (U := [(0, 0), (1, 2)]) hs162 [2] rfl rfl
    generalize up C141_ C161 w144.heap.size [(0, 0), (1, 2)] = C161_ at HX163 hs162
    replace HP0_0 := HP0_0.thru hs162 rfl
    replace HP0_1 := HP0_1.thru hs162 rfl
    replace HX145 := HX145.thru hs162 rfl
    replace HP1_14 := HP1_14.thru hs162 rfl
    replace HP1_15 := HP1_15.thru hs162 rfl
    replace HP1_16 := HP1_16.thru hs162 rfl
    replace HS := HS.trans hs162 hc rfl
    (try simp only [ls0, ls1])
    refine mv_ rfl ?_
    refine st (.agg #[.bool t151, .bool t152, .string t153, .int .i64 t154, .int .i64 t155]) rfl rfl (xr_extract (.tuple #[.agg #[.bool t151, .bool t152, .string t153, .int .i64 t154, .int .i64 t155], .int .i64 t156]) _ rfl rfl rfl) ?_
    refine st (.int .i64 t156) rfl rfl (xr_extract (.tuple #[.agg #[.bool t151, .bool t152, .string t153, .int .i64 t154, .int .i64 t155], .int .i64 t156]) _ rfl rfl rfl) ?_
    refine st (.pointer (some ⟨g1, 0, none⟩)) rfl rfl (xr_nilCheck _ rfl rfl) ?_
    simp only [ls0, ls1]
    refine st (.pointer (some ⟨g1, 4, none⟩)) rfl rfl (xr_fieldAddr _ _ rfl rfl (bx_field2 Try.underlying89 rfl rfl (by kernel_rfl))) ?_
    refine bx_store (C := C161_) (z := 1) (g := g1) (j := 4) (tb := 89) (u := .agg #[.bool t151, .bool t152, .string t153, .int .i64 t154, .int .i64 t155]) (seg := [.bool t151, .bool t152, .string t153, .int .i64 t154, .int .i64 t155]) (xs := [.int .i64 a1_0, .int .i64 a1_1, .string t102, .int .i64 t135, .bool a1_4, .bool a1_5, .string a1_6, .int .i64 a1_7, .int .i64 a1_8, .int .i64 a1_9, .int .i64 a1_10, .int .i64 a1_11, .string a1_12, .string a1_13, .slice A1_14 l1_14.length c1_14, .slice A1_15 l1_15.length c1_15, .slice A1_16 l1_16.length c1_16]) rfl rfl rfl rfl rfl rfl (by first | kernel_rfl | rfl) (by simp [Value.oneCell']) HX145 (by simp only [List.length_cons, List.length_nil]; omega) rfl ?_
    intro w164 HX165 hs166
    replace HX163 := HX163.thru hs166 rfl
    replace HP0_0 := HP0_0.thru hs166 rfl
    replace HP0_1 := HP0_1.thru hs166 rfl
    replace HP1_14 := HP1_14.thru hs166 rfl
    replace HP1_15 := HP1_15.thru hs166 rfl
    replace HP1_16 := HP1_16.thru hs166 rfl
    replace HS := HS.trans hs166 hc rfl
    (try simp only [ls0, ls1])
    refine as_ rfl ?_
    refine wl_end ?_
    (try simp only [ls0, ls1])
    refine hK150 _ _ ?_
    (try clear hK150 K150)
    refine wp_seq_k fun K167 hK167 => ?_
    refine wl_region ?_
    refine mv_ rfl ?_
    refine st (.bool (!decide (t156 = 0))) rfl rfl (xr_bin _ _ _ rfl rfl rfl (B.neq_i64 _ _)) ?_
    refine wl_end ?_
    (try simp only [ls0, ls1])
    refine hK167 _ _ ?_
    (try clear hK167 K167)
    by_cases c168 : t156 = 0
    ·rw [if_pos c168] at H
     (try rw [(decide_eq_true c168)])
     (try simp only [Bool.not_true, Bool.not_false])
     refine wp_cond_false rfl ?_
     refine wp_skip ?_
     (try simp only [ls0, ls1])
     refine hK149 _ _ ?_
     (try clear hK149 K149)
     refine wp_seq_k fun K169 hK169 => ?_
     refine wl_region ?_
     refine mv_ rfl ?_
     refine mv_ rfl ?_
     obtain ⟨⟨t170, t171, t172, t173, t174, t175, t176, t177⟩, A178, H⟩ := bnd H
     (try dsimp only at H)
     refine st_call #[.pointer (some ⟨g0, 0, none⟩), .pointer (some ⟨g1, 0, none⟩)] rfl rfl Try.func127 (by kernel_rfl) rfl rfl (mp_ rfl) ?_
     refine (stmt_set.calls k g0 A0_0 c0_0 l0_0 A0_1 c0_1 l0_1 t157 a0_3 g1 a1_0 a1_1 t102 t135 t151 t152 t153 t154 t155 a1_9 a1_10 a1_11 a1_12 a1_13 A1_14 c1_14 l1_14 A1_15 c1_15 l1_15 A1_16 c1_16 l1_16 t170 t171 t172 t173 t174 t175 t176 t177  (fun z_ => pal [(0, 0), (1, 1), (2, 2)] (C161_ z_)) w164 (fun _ => pal_lt rfl _) (Bx.arg HX163 rfl) (Ft.arg HP0_0 rfl) HCP0_0 (Ft.arg HP0_1 rfl) HCP0_1 (Bx.arg HX165 rfl) (Ft.arg HP1_14 rfl) HCP1_14 (Ft.arg HP1_15 rfl) HCP1_15 (Ft.arg HP1_16 rfl) HCP1_16 A178).mono ?_
     rintro _ w180 ⟨C181, A183, cp184, rfl, hs182, HO185, HC186, HX187, HX188⟩
     refine ⟨_, rfl, ?_⟩
     replace HO185 := Ft.res (U := [(0, 0), (2, 2), (1, 1)]) HO185 hs182 [0] rfl rfl rfl
     replace HX187 := Bx.res (U := [(0, 0), (2, 2), (1, 1)]) (j := 2) HX187 hs182 (by rfl) (by decide) rfl
     replace HX188 := Bx.res (U := [(0, 0), (2, 2), (1, 1)]) (j := 1) HX188 hs182 (by rfl) (by decide) rfl
     replace hs182 := Step.lift (U := [(0, 0), (2, 2), (1, 1)]) hs182 [1, 2] rfl rfl
     generalize up C161_ C181 w164.heap.size [(0, 0), (2, 2), (1, 1)] = C181_ at HO185 HX187 HX188 hs182
     replace HP0_0 := HP0_0.thru hs182 rfl
     replace HP0_1 := HP0_1.thru hs182 rfl
     replace HP1_15 := HP1_15.thru hs182 rfl
     replace HP1_16 := HP1_16.thru hs182 rfl
     replace HS := HS.trans hs182 hc rfl
     (try simp only [ls0, ls1])
     refine as_ rfl ?_
     refine wl_end ?_
     (try simp only [ls0, ls1])
     refine hK169 _ _ ?_
     (try clear hK169 K169)
     refine wp_ret ?_
     (try simp only [Exit.inBlock, Exit.then, Exit.noGoto])
     (try simp only [ls0, ls1])
     simp only [Option.some.injEq, Prod.mk.injEq] at H
     obtain ⟨rfl, rfl, rfl, rfl, rfl, rfl, rfl, rfl, rfl, rfl, rfl, rfl, rfl, rfl, rfl⟩ := H
     refine bodyPost_ret (results_tmp rfl _ _ _) rfl ?_
     exact ⟨_, A183, cp184, rfl, HS, HO185, HC186, HX187, HX188⟩
    rw [if_neg c168] at H
    (try rw [(decide_eq_false c168)])
    (try simp only [Bool.not_true, Bool.not_false])
    refine wp_cond_true rfl ?_
    refine wp_seq_k fun K189 hK189 => ?_
    refine wl_region ?_
    refine mv_ rfl ?_
    refine as_ rfl ?_
    refine wl_end ?_
    (try simp only [ls0, ls1])
    refine hK189 _ _ ?_
    (try clear hK189 K189)
    refine wp_ret ?_
    (try simp only [Exit.inBlock, Exit.then, Exit.noGoto])
    (try simp only [ls0, ls1])
    simp only [Option.some.injEq, Prod.mk.injEq] at H
    obtain ⟨rfl, rfl, rfl, rfl, rfl, rfl, rfl, rfl, rfl, rfl, rfl, rfl, rfl, rfl, rfl⟩ := H
    refine bodyPost_ret (results_tmp rfl _ _ _) rfl ?_
    exact ⟨_, A1_14, c1_14, rfl, HS, HP1_14, HCP1_14, HX163, HX165⟩
   rw [if_neg c148] at H
   (try rw [(decide_eq_false c148)])
   (try simp only [Bool.not_true, Bool.not_false])
   refine wp_cond_true rfl ?_
   refine wp_seq_k fun K190 hK190 => ?_
   refine wl_region ?_
   refine mv_ rfl ?_
   refine as_ rfl ?_
   refine wl_end ?_
   (try simp only [ls0, ls1])
   refine hK190 _ _ ?_
   (try clear hK190 K190)
   refine wp_ret ?_
   (try simp only [Exit.inBlock, Exit.then, Exit.noGoto])
   (try simp only [ls0, ls1])
   simp only [Option.some.injEq, Prod.mk.injEq] at H
   obtain ⟨rfl, rfl, rfl, rfl, rfl, rfl, rfl, rfl, rfl, rfl, rfl, rfl, rfl, rfl, rfl⟩ := H
   refine bodyPost_ret (results_tmp rfl _ _ _) rfl ?_
   exact ⟨_, A1_14, c1_14, rfl, HS, HP1_14, HCP1_14, HX143, HX145⟩
  rw [if_neg c132] at H
  (try rw [(decide_eq_false c132)])
  (try simp only [Bool.not_true, Bool.not_false])
  refine wp_cond_true rfl ?_
  refine wp_seq_k fun K191 hK191 => ?_
  refine wl_region ?_
  refine mv_ rfl ?_
  refine as_ rfl ?_
  refine wl_end ?_
  (try simp only [ls0, ls1])
  refine hK191 _ _ ?_
  (try clear hK191 K191)
  refine wp_ret ?_
  (try simp only [Exit.inBlock, Exit.then, Exit.noGoto])
  (try simp only [ls0, ls1])
  simp only [Option.some.injEq, Prod.mk.injEq] at H
  obtain ⟨rfl, rfl, rfl, rfl, rfl, rfl, rfl, rfl, rfl, rfl, rfl, rfl, rfl, rfl, rfl⟩ := H
  refine bodyPost_ret (results_tmp rfl _ _ _) rfl ?_
  exact ⟨_, A1_14, c1_14, rfl, HS, HP1_14, HCP1_14, HX130, HX109⟩
 rw [if_neg c111] at H
 (try rw [(decide_eq_false c111)])
 (try simp only [Bool.not_true, Bool.not_false])
 refine wp_cond_true rfl ?_
 refine wp_seq_k fun K192 hK192 => ?_
 refine wl_region ?_
 refine mv_ rfl ?_
 refine as_ rfl ?_
 refine wl_end ?_
 (try simp only [ls0, ls1])
 refine hK192 _ _ ?_
 (try clear hK192 K192)
 refine wp_ret ?_
 (try simp only [Exit.inBlock, Exit.then, Exit.noGoto])
 (try simp only [ls0, ls1])
 simp only [Option.some.injEq, Prod.mk.injEq] at H
 obtain ⟨rfl, rfl, rfl, rfl, rfl, rfl, rfl, rfl, rfl, rfl, rfl, rfl, rfl, rfl, rfl⟩ := H
 refine bodyPost_ret (results_tmp rfl _ _ _) rfl ?_
 exact ⟨_, A1_14, c1_14, rfl, HS, HP1_14, HCP1_14, HX108, HX109⟩

end Go.Proofs.Yteoccoklbmjiaaa.PStn
