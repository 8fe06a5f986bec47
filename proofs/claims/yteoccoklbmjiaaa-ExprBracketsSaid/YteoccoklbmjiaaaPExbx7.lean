-- By cprint.py, a program of this work. Lean checks it.
import Derived.Test.YteoccoklbmjiaaaPExbx0
import Derived.Test.YteoccoklbmjiaaaPExbx1
import Derived.Test.YteoccoklbmjiaaaPExbx2
import Derived.Test.YteoccoklbmjiaaaPExbx3
import Derived.Test.YteoccoklbmjiaaaPExbx4
import Derived.Test.YteoccoklbmjiaaaPExbx5
import Derived.Test.YteoccoklbmjiaaaPExbx6
namespace Go.Proofs.Yteoccoklbmjiaaa.PExb
open Go.RowKit Go.Proofs.YteoccoklbmjiaaaW.PrintWords Go.Proofs.YteoccoklbmjiaaaW.PrintLast Go.Proofs.YteoccoklbmjiaaaW.PrintMore
set_option linter.unusedVariables false
set_option linter.unusedSimpArgs false

def Rec_expr_Cursor_binary.at : Nat → Rec_expr_Cursor_binary
  | 0 => ⟨fun x0 x1 x2 x3 x4 => none, fun x0 x1 x2 x3 => none, fun x0 x1 x2 x3 => none, fun x0 x1 x2 x3 => none, fun x0 x1 x2 x3 => none, fun x0 x1 x2 x3 => none⟩
  | k + 1 => ⟨fun x0 x1 x2 x3 x4 => expr_Cursor_binary.g (Rec_expr_Cursor_binary.at k) k x0 x1 x2 x3 x4, fun x0 x1 x2 x3 => expr_Cursor_signed.g (Rec_expr_Cursor_binary.at k) k x0 x1 x2 x3, fun x0 x1 x2 x3 => expr_Cursor_primary.g (Rec_expr_Cursor_binary.at k) k x0 x1 x2 x3, fun x0 x1 x2 x3 => expr_Cursor_group.g (Rec_expr_Cursor_binary.at k) k x0 x1 x2 x3, fun x0 x1 x2 x3 => expr_Cursor_open.g (Rec_expr_Cursor_binary.at k) k x0 x1 x2 x3, fun x0 x1 x2 x3 => expr_Cursor_named.g (Rec_expr_Cursor_binary.at k) k x0 x1 x2 x3⟩
theorem Rec_expr_Cursor_binary.good : ∀ k, Rec_expr_Cursor_binary.Good (Rec_expr_Cursor_binary.at k)
  | 0 => ⟨(by intros; rename_i H; exact absurd H (by simp [Rec_expr_Cursor_binary.at])), (by intros; rename_i H; exact absurd H (by simp [Rec_expr_Cursor_binary.at])), (by intros; rename_i H; exact absurd H (by simp [Rec_expr_Cursor_binary.at])), (by intros; rename_i H; exact absurd H (by simp [Rec_expr_Cursor_binary.at])), (by intros; rename_i H; exact absurd H (by simp [Rec_expr_Cursor_binary.at])), (by intros; rename_i H; exact absurd H (by simp [Rec_expr_Cursor_binary.at]))⟩
  | k + 1 => ⟨expr_Cursor_binary.step (Rec_expr_Cursor_binary.at k) (Rec_expr_Cursor_binary.good k) k, expr_Cursor_signed.step (Rec_expr_Cursor_binary.at k) (Rec_expr_Cursor_binary.good k) k, expr_Cursor_primary.step (Rec_expr_Cursor_binary.at k) (Rec_expr_Cursor_binary.good k) k, expr_Cursor_group.step (Rec_expr_Cursor_binary.at k) (Rec_expr_Cursor_binary.good k) k, expr_Cursor_open.step (Rec_expr_Cursor_binary.at k) (Rec_expr_Cursor_binary.good k) k, expr_Cursor_named.step (Rec_expr_Cursor_binary.at k) (Rec_expr_Cursor_binary.good k) k⟩
def expr_Cursor_binary.f (k : Nat) (x0 : List Int) (x1 : List (S28)) (x2 : Int) (x3 : Int) (x4 : Int) : Option (Int × Int × Int × ByteArray × ByteArray × (List (S44)) × Int × Int × Int) := (Rec_expr_Cursor_binary.at k).expr_Cursor_binary x0 x1 x2 x3 x4
theorem expr_Cursor_binary.calls : ∀ (k : Nat) (g0 : Nat) (A0_0 : Option Addr) (c0_0 : Nat) (l0_0 : List Int) (A0_1 : Option Addr) (c0_1 : Nat) (l0_1 : List (S28)) (a0_2 : Int) (a0_3 : Int) (a1 : Int) (r1 : Int) (r2 : Int) (r3 : Int) (r4 : ByteArray) (r5 : ByteArray) (r6 : List (S44)) (r7 : Int) (r8 : Int) (r9 : Int) (c : Nat → Nat) (w : World) (hc : ∀ k, c k < 10) (HP0 : Bx c 1 w g0 111 ([.slice A0_0 l0_0.length c0_0, .slice A0_1 l0_1.length c0_1, .int .i64 a0_2, .int .i64 a0_3])) (HP0_0 : Ft c [0] w (fun w_ => (Kd.int .u8).C w_ A0_0 l0_0.length l0_0)) (HCP0_0 : l0_0.length ≤ c0_0) (HP0_1 : Ft c [0] w (fun w_ => k28.C w_ A0_1 l0_1.length l0_1)) (HCP0_1 : l0_1.length ≤ c0_1) (H : expr_Cursor_binary.f k l0_0 l0_1 a0_2 a0_3 a1 = some (r1, r2, r3, r4, r5, r6, r7, r8, r9)),
    Calls Try.prog 82 #[.pointer (some ⟨g0, 0, none⟩), .int .i64 a1] w fun e w' => ∃ (c' : Nat → Nat) (A_r6 : Option Addr) (c_r6 : Nat), e = .returned (.tuple #[.agg #[.int .i64 r1, .int .i64 r2, .int .i64 r3, .string r4, .string r5, .slice A_r6 r6.length c_r6], .int .i64 r7]) ∧ Step c w c' w' [1] ∧ Ft c' [0] w' (fun w_ => k44.C w_ A_r6 r6.length r6) ∧ r6.length ≤ c_r6 ∧ Bx c' 1 w' g0 111 ([.slice A0_0 l0_0.length c0_0, .slice A0_1 l0_1.length c0_1, .int .i64 r8, .int .i64 r9]) := fun k => (Rec_expr_Cursor_binary.good k).expr_Cursor_binary
def expr_Cursor_signed.f (k : Nat) (x0 : List Int) (x1 : List (S28)) (x2 : Int) (x3 : Int) : Option (Int × Int × Int × ByteArray × ByteArray × (List (S44)) × Int × Int × Int) := (Rec_expr_Cursor_binary.at k).expr_Cursor_signed x0 x1 x2 x3
theorem expr_Cursor_signed.calls : ∀ (k : Nat) (g0 : Nat) (A0_0 : Option Addr) (c0_0 : Nat) (l0_0 : List Int) (A0_1 : Option Addr) (c0_1 : Nat) (l0_1 : List (S28)) (a0_2 : Int) (a0_3 : Int) (r1 : Int) (r2 : Int) (r3 : Int) (r4 : ByteArray) (r5 : ByteArray) (r6 : List (S44)) (r7 : Int) (r8 : Int) (r9 : Int) (c : Nat → Nat) (w : World) (hc : ∀ k, c k < 10) (HP0 : Bx c 1 w g0 111 ([.slice A0_0 l0_0.length c0_0, .slice A0_1 l0_1.length c0_1, .int .i64 a0_2, .int .i64 a0_3])) (HP0_0 : Ft c [0] w (fun w_ => (Kd.int .u8).C w_ A0_0 l0_0.length l0_0)) (HCP0_0 : l0_0.length ≤ c0_0) (HP0_1 : Ft c [0] w (fun w_ => k28.C w_ A0_1 l0_1.length l0_1)) (HCP0_1 : l0_1.length ≤ c0_1) (H : expr_Cursor_signed.f k l0_0 l0_1 a0_2 a0_3 = some (r1, r2, r3, r4, r5, r6, r7, r8, r9)),
    Calls Try.prog 102 #[.pointer (some ⟨g0, 0, none⟩)] w fun e w' => ∃ (c' : Nat → Nat) (A_r6 : Option Addr) (c_r6 : Nat), e = .returned (.tuple #[.agg #[.int .i64 r1, .int .i64 r2, .int .i64 r3, .string r4, .string r5, .slice A_r6 r6.length c_r6], .int .i64 r7]) ∧ Step c w c' w' [1] ∧ Ft c' [0] w' (fun w_ => k44.C w_ A_r6 r6.length r6) ∧ r6.length ≤ c_r6 ∧ Bx c' 1 w' g0 111 ([.slice A0_0 l0_0.length c0_0, .slice A0_1 l0_1.length c0_1, .int .i64 r8, .int .i64 r9]) := fun k => (Rec_expr_Cursor_binary.good k).expr_Cursor_signed
def expr_Cursor_primary.f (k : Nat) (x0 : List Int) (x1 : List (S28)) (x2 : Int) (x3 : Int) : Option (Int × Int × Int × ByteArray × ByteArray × (List (S44)) × Int × Int × Int) := (Rec_expr_Cursor_binary.at k).expr_Cursor_primary x0 x1 x2 x3
theorem expr_Cursor_primary.calls : ∀ (k : Nat) (g0 : Nat) (A0_0 : Option Addr) (c0_0 : Nat) (l0_0 : List Int) (A0_1 : Option Addr) (c0_1 : Nat) (l0_1 : List (S28)) (a0_2 : Int) (a0_3 : Int) (r1 : Int) (r2 : Int) (r3 : Int) (r4 : ByteArray) (r5 : ByteArray) (r6 : List (S44)) (r7 : Int) (r8 : Int) (r9 : Int) (c : Nat → Nat) (w : World) (hc : ∀ k, c k < 10) (HP0 : Bx c 1 w g0 111 ([.slice A0_0 l0_0.length c0_0, .slice A0_1 l0_1.length c0_1, .int .i64 a0_2, .int .i64 a0_3])) (HP0_0 : Ft c [0] w (fun w_ => (Kd.int .u8).C w_ A0_0 l0_0.length l0_0)) (HCP0_0 : l0_0.length ≤ c0_0) (HP0_1 : Ft c [0] w (fun w_ => k28.C w_ A0_1 l0_1.length l0_1)) (HCP0_1 : l0_1.length ≤ c0_1) (H : expr_Cursor_primary.f k l0_0 l0_1 a0_2 a0_3 = some (r1, r2, r3, r4, r5, r6, r7, r8, r9)),
    Calls Try.prog 120 #[.pointer (some ⟨g0, 0, none⟩)] w fun e w' => ∃ (c' : Nat → Nat) (A_r6 : Option Addr) (c_r6 : Nat), e = .returned (.tuple #[.agg #[.int .i64 r1, .int .i64 r2, .int .i64 r3, .string r4, .string r5, .slice A_r6 r6.length c_r6], .int .i64 r7]) ∧ Step c w c' w' [1] ∧ Ft c' [0] w' (fun w_ => k44.C w_ A_r6 r6.length r6) ∧ r6.length ≤ c_r6 ∧ Bx c' 1 w' g0 111 ([.slice A0_0 l0_0.length c0_0, .slice A0_1 l0_1.length c0_1, .int .i64 r8, .int .i64 r9]) := fun k => (Rec_expr_Cursor_binary.good k).expr_Cursor_primary
def expr_Cursor_group.f (k : Nat) (x0 : List Int) (x1 : List (S28)) (x2 : Int) (x3 : Int) : Option (Int × Int × Int × ByteArray × ByteArray × (List (S44)) × Int × Int × Int) := (Rec_expr_Cursor_binary.at k).expr_Cursor_group x0 x1 x2 x3
theorem expr_Cursor_group.calls : ∀ (k : Nat) (g0 : Nat) (A0_0 : Option Addr) (c0_0 : Nat) (l0_0 : List Int) (A0_1 : Option Addr) (c0_1 : Nat) (l0_1 : List (S28)) (a0_2 : Int) (a0_3 : Int) (r1 : Int) (r2 : Int) (r3 : Int) (r4 : ByteArray) (r5 : ByteArray) (r6 : List (S44)) (r7 : Int) (r8 : Int) (r9 : Int) (c : Nat → Nat) (w : World) (hc : ∀ k, c k < 10) (HP0 : Bx c 1 w g0 111 ([.slice A0_0 l0_0.length c0_0, .slice A0_1 l0_1.length c0_1, .int .i64 a0_2, .int .i64 a0_3])) (HP0_0 : Ft c [0] w (fun w_ => (Kd.int .u8).C w_ A0_0 l0_0.length l0_0)) (HCP0_0 : l0_0.length ≤ c0_0) (HP0_1 : Ft c [0] w (fun w_ => k28.C w_ A0_1 l0_1.length l0_1)) (HCP0_1 : l0_1.length ≤ c0_1) (H : expr_Cursor_group.f k l0_0 l0_1 a0_2 a0_3 = some (r1, r2, r3, r4, r5, r6, r7, r8, r9)),
    Calls Try.prog 132 #[.pointer (some ⟨g0, 0, none⟩)] w fun e w' => ∃ (c' : Nat → Nat) (A_r6 : Option Addr) (c_r6 : Nat), e = .returned (.tuple #[.agg #[.int .i64 r1, .int .i64 r2, .int .i64 r3, .string r4, .string r5, .slice A_r6 r6.length c_r6], .int .i64 r7]) ∧ Step c w c' w' [1] ∧ Ft c' [0] w' (fun w_ => k44.C w_ A_r6 r6.length r6) ∧ r6.length ≤ c_r6 ∧ Bx c' 1 w' g0 111 ([.slice A0_0 l0_0.length c0_0, .slice A0_1 l0_1.length c0_1, .int .i64 r8, .int .i64 r9]) := fun k => (Rec_expr_Cursor_binary.good k).expr_Cursor_group
def expr_Cursor_open.f (k : Nat) (x0 : List Int) (x1 : List (S28)) (x2 : Int) (x3 : Int) : Option (Int × Int × Int × ByteArray × ByteArray × (List (S44)) × Int × Int × Int) := (Rec_expr_Cursor_binary.at k).expr_Cursor_open x0 x1 x2 x3
theorem expr_Cursor_open.calls : ∀ (k : Nat) (g0 : Nat) (A0_0 : Option Addr) (c0_0 : Nat) (l0_0 : List Int) (A0_1 : Option Addr) (c0_1 : Nat) (l0_1 : List (S28)) (a0_2 : Int) (a0_3 : Int) (r1 : Int) (r2 : Int) (r3 : Int) (r4 : ByteArray) (r5 : ByteArray) (r6 : List (S44)) (r7 : Int) (r8 : Int) (r9 : Int) (c : Nat → Nat) (w : World) (hc : ∀ k, c k < 10) (HP0 : Bx c 1 w g0 111 ([.slice A0_0 l0_0.length c0_0, .slice A0_1 l0_1.length c0_1, .int .i64 a0_2, .int .i64 a0_3])) (HP0_0 : Ft c [0] w (fun w_ => (Kd.int .u8).C w_ A0_0 l0_0.length l0_0)) (HCP0_0 : l0_0.length ≤ c0_0) (HP0_1 : Ft c [0] w (fun w_ => k28.C w_ A0_1 l0_1.length l0_1)) (HCP0_1 : l0_1.length ≤ c0_1) (H : expr_Cursor_open.f k l0_0 l0_1 a0_2 a0_3 = some (r1, r2, r3, r4, r5, r6, r7, r8, r9)),
    Calls Try.prog 133 #[.pointer (some ⟨g0, 0, none⟩)] w fun e w' => ∃ (c' : Nat → Nat) (A_r6 : Option Addr) (c_r6 : Nat), e = .returned (.tuple #[.agg #[.int .i64 r1, .int .i64 r2, .int .i64 r3, .string r4, .string r5, .slice A_r6 r6.length c_r6], .int .i64 r7]) ∧ Step c w c' w' [1] ∧ Ft c' [0] w' (fun w_ => k44.C w_ A_r6 r6.length r6) ∧ r6.length ≤ c_r6 ∧ Bx c' 1 w' g0 111 ([.slice A0_0 l0_0.length c0_0, .slice A0_1 l0_1.length c0_1, .int .i64 r8, .int .i64 r9]) := fun k => (Rec_expr_Cursor_binary.good k).expr_Cursor_open
def expr_Cursor_named.f (k : Nat) (x0 : List Int) (x1 : List (S28)) (x2 : Int) (x3 : Int) : Option (Int × Int × Int × ByteArray × ByteArray × (List (S44)) × Int × Int × Int) := (Rec_expr_Cursor_binary.at k).expr_Cursor_named x0 x1 x2 x3
theorem expr_Cursor_named.calls : ∀ (k : Nat) (g0 : Nat) (A0_0 : Option Addr) (c0_0 : Nat) (l0_0 : List Int) (A0_1 : Option Addr) (c0_1 : Nat) (l0_1 : List (S28)) (a0_2 : Int) (a0_3 : Int) (r1 : Int) (r2 : Int) (r3 : Int) (r4 : ByteArray) (r5 : ByteArray) (r6 : List (S44)) (r7 : Int) (r8 : Int) (r9 : Int) (c : Nat → Nat) (w : World) (hc : ∀ k, c k < 10) (HP0 : Bx c 1 w g0 111 ([.slice A0_0 l0_0.length c0_0, .slice A0_1 l0_1.length c0_1, .int .i64 a0_2, .int .i64 a0_3])) (HP0_0 : Ft c [0] w (fun w_ => (Kd.int .u8).C w_ A0_0 l0_0.length l0_0)) (HCP0_0 : l0_0.length ≤ c0_0) (HP0_1 : Ft c [0] w (fun w_ => k28.C w_ A0_1 l0_1.length l0_1)) (HCP0_1 : l0_1.length ≤ c0_1) (H : expr_Cursor_named.f k l0_0 l0_1 a0_2 a0_3 = some (r1, r2, r3, r4, r5, r6, r7, r8, r9)),
    Calls Try.prog 134 #[.pointer (some ⟨g0, 0, none⟩)] w fun e w' => ∃ (c' : Nat → Nat) (A_r6 : Option Addr) (c_r6 : Nat), e = .returned (.tuple #[.agg #[.int .i64 r1, .int .i64 r2, .int .i64 r3, .string r4, .string r5, .slice A_r6 r6.length c_r6], .int .i64 r7]) ∧ Step c w c' w' [1] ∧ Ft c' [0] w' (fun w_ => k44.C w_ A_r6 r6.length r6) ∧ r6.length ≤ c_r6 ∧ Bx c' 1 w' g0 111 ([.slice A0_0 l0_0.length c0_0, .slice A0_1 l0_1.length c0_1, .int .i64 r8, .int .i64 r9]) := fun k => (Rec_expr_Cursor_binary.good k).expr_Cursor_named

/-! ### expr_Cursor_Expr: function 51 -/
def expr_Cursor_Expr.f (k : Nat) (l0_0 : List Int) (l0_1 : List (S28)) (a0_2 : Int) (a0_3 : Int) : Option (Int × Int × Int × ByteArray × ByteArray × (List (S44)) × Int × Int) := (expr_Cursor_binary.f k l0_0 l0_1 a0_2 a0_3 1).bind fun bt56 => (some (bt56.1, bt56.2.1, bt56.2.2.1, bt56.2.2.2.1, bt56.2.2.2.2.1, bt56.2.2.2.2.2.1, bt56.2.2.2.2.2.2.1, bt56.2.2.2.2.2.2.2.1))

set_option maxHeartbeats 8000000 in
set_option maxRecDepth 100000 in
theorem expr_Cursor_Expr.calls (k : Nat) (g0 : Nat) (A0_0 : Option Addr) (c0_0 : Nat) (l0_0 : List Int) (A0_1 : Option Addr) (c0_1 : Nat) (l0_1 : List (S28)) (a0_2 : Int) (a0_3 : Int) (r1 : Int) (r2 : Int) (r3 : Int) (r4 : ByteArray) (r5 : ByteArray) (r6 : List (S44)) (r7 : Int) (r8 : Int) (c : Nat → Nat) (w : World) (hc : ∀ k, c k < 10) (HP0 : Bx c 1 w g0 111 ([.slice A0_0 l0_0.length c0_0, .slice A0_1 l0_1.length c0_1, .int .i64 a0_2, .int .i64 a0_3])) (HP0_0 : Ft c [0] w (fun w_ => (Kd.int .u8).C w_ A0_0 l0_0.length l0_0)) (HCP0_0 : l0_0.length ≤ c0_0) (HP0_1 : Ft c [0] w (fun w_ => k28.C w_ A0_1 l0_1.length l0_1)) (HCP0_1 : l0_1.length ≤ c0_1) (H : expr_Cursor_Expr.f k l0_0 l0_1 a0_2 a0_3 = some (r1, r2, r3, r4, r5, r6, r7, r8)) :
    Calls Try.prog 51 #[.pointer (some ⟨g0, 0, none⟩)] w fun e w' => ∃ (c' : Nat → Nat) (A_r6 : Option Addr) (c_r6 : Nat), e = .returned (.tuple #[.agg #[.int .i64 r1, .int .i64 r2, .int .i64 r3, .string r4, .string r5, .slice A_r6 r6.length c_r6], .int .i64 r7]) ∧ Step c w c' w' [1] ∧ Ft c' [0] w' (fun w_ => k44.C w_ A_r6 r6.length r6) ∧ r6.length ≤ c_r6 ∧ Bx c' 1 w' g0 111 ([.slice A0_0 l0_0.length c0_0, .slice A0_1 l0_1.length c0_1, .int .i64 r8, .int .i64 a0_3]) := by
 unfold expr_Cursor_Expr.f at H
 have HS := Step.refl c w [1]
 go_enter Try.func51, Try.ntmps51
 refine wp_seq_k fun K46 hK46 => ?_
 refine wl_region ?_
 refine bx_new (C := c) 44 ([.int .i64 0, .int .i64 0, .int .i64 0, .string (⟨#[]⟩ : ByteArray), .string (⟨#[]⟩ : ByteArray), .slice none 0 0]) 11 rfl rfl (by first | (go_simp; done) | (go_simp; rfl)) ?_
 intro g47 w48 C49 HX50 hs51
 replace HP0 := HP0.thru hs51 rfl
 replace HP0_0 := HP0_0.thru hs51 rfl
 replace HP0_1 := HP0_1.thru hs51 rfl
 replace HS := HS.trans hs51 hc rfl
 (try simp only [ls0, ls1])
 refine st (.int .i64 0) rfl rfl (xr_assign _ rfl rfl) ?_
 refine wl_end ?_
 (try simp only [ls0, ls1])
 refine hK46 _ _ ?_
 (try clear hK46 K46)
 refine wp_seq_k fun K52 hK52 => ?_
 refine wp_seq_k fun K53 hK53 => ?_
 refine wl_region ?_
 refine mv_ rfl ?_
 refine st (.bool false) rfl rfl (xr_bin (.pointer (some ⟨g0, 0, none⟩)) (.pointer none) (.bool false) rfl rfl rfl (B.eql_pn ⟨_, Try.underlying57⟩ ⟨g0, 0, none⟩)) ?_
 refine wl_end ?_
 (try simp only [ls0, ls1])
 refine hK53 _ _ ?_
 (try clear hK53 K53)
 refine wp_cond_false rfl ?_
 refine wp_skip ?_
 (try simp only [ls0, ls1])
 refine hK52 _ _ ?_
 (try clear hK52 K52)
 refine wp_seq_k fun K54 hK54 => ?_
 refine wl_region ?_
 refine mv_ rfl ?_
 refine st (.pointer (some ⟨g0, 0, none⟩)) rfl rfl (xr_nilCheck _ rfl rfl) ?_
 refine st (.pointer (some ⟨g0, 3, none⟩)) rfl rfl (xr_fieldAddr _ _ rfl rfl (bx_field2 Try.underlying111 rfl rfl (by kernel_rfl))) ?_
 refine st (.int .i64 a0_3) rfl rfl (xr_load _ _ rfl rfl (load_cell Try.underlying3 rfl (bx_cell (HP0).2 3 rfl))) ?_
 simp only [ls0, ls1]
 refine as_ rfl ?_
 refine wl_end ?_
 (try simp only [ls0, ls1])
 refine hK54 _ _ ?_
 (try clear hK54 K54)
 refine wp_seq_k fun K55 hK55 => ?_
 refine wl_region ?_
 refine mv_ rfl ?_
 obtain ⟨⟨t56, t57, t58, t59, t60, t61, t62, t63, t64⟩, A65, H⟩ := bnd H
 (try dsimp only at H)
 refine st_call #[.pointer (some ⟨g0, 0, none⟩), .int .i64 1] rfl rfl Try.func82 (by kernel_rfl) rfl rfl (mp_ rfl) ?_
 refine (expr_Cursor_binary.calls k g0 A0_0 c0_0 l0_0 A0_1 c0_1 l0_1 a0_2 a0_3 1 t56 t57 t58 t59 t60 t61 t62 t63 t64  (fun z_ => pal [(0, 0), (1, 1)] (C49 z_)) w48 (fun _ => pal_lt rfl _) (Bx.arg HP0 rfl) (Ft.arg HP0_0 rfl) HCP0_0 (Ft.arg HP0_1 rfl) HCP0_1 A65).mono ?_
 rintro _ w67 ⟨C68, A70, cp71, rfl, hs69, HO72, HC73, HX74⟩
 refine ⟨_, rfl, ?_⟩
 replace HO72 := Ft.res (U := [(0, 0), (1, 1)]) HO72 hs69 [0] rfl rfl rfl
 replace HX74 := Bx.res (U := [(0, 0), (1, 1)]) (j := 1) HX74 hs69 (by rfl) (by decide) rfl
 replace hs69 := Step.lift (U := [(0, 0), (1, 1)]) hs69 [1] rfl rfl
 generalize up C49 C68 w48.heap.size [(0, 0), (1, 1)] = C68_ at HO72 HX74 hs69
 replace HP0_0 := HP0_0.thru hs69 rfl
 replace HP0_1 := HP0_1.thru hs69 rfl
 replace HX50 := HX50.thru hs69 rfl
 replace HS := HS.trans hs69 hc rfl
 (try simp only [ls0, ls1])
 refine mv_ rfl ?_
 refine st (.agg #[.int .i64 t56, .int .i64 t57, .int .i64 t58, .string t59, .string t60, .slice A70 t61.length cp71]) rfl rfl (xr_extract (.tuple #[.agg #[.int .i64 t56, .int .i64 t57, .int .i64 t58, .string t59, .string t60, .slice A70 t61.length cp71], .int .i64 t62]) _ rfl rfl rfl) ?_
 refine st (.int .i64 t62) rfl rfl (xr_extract (.tuple #[.agg #[.int .i64 t56, .int .i64 t57, .int .i64 t58, .string t59, .string t60, .slice A70 t61.length cp71], .int .i64 t62]) _ rfl rfl rfl) ?_
 refine bx_new (C := C68_) 44 ([.int .i64 0, .int .i64 0, .int .i64 0, .string (⟨#[]⟩ : ByteArray), .string (⟨#[]⟩ : ByteArray), .slice none 0 0]) 12 rfl rfl (by first | (go_simp; done) | (go_simp; rfl)) ?_
 intro g75 w76 C77 HX78 hs79
 replace HX74 := HX74.thru hs79 rfl
 replace HP0_0 := HP0_0.thru hs79 rfl
 replace HP0_1 := HP0_1.thru hs79 rfl
 replace HX50 := HX50.thru hs79 rfl
 replace HO72 := HO72.thru hs79 rfl
 replace HS := HS.trans hs79 hc rfl
 (try simp only [ls0, ls1])
 refine bx_store (C := C77) (z := 12) (g := g75) (j := 0) (tb := 44) (u := .agg #[.int .i64 t56, .int .i64 t57, .int .i64 t58, .string t59, .string t60, .slice A70 t61.length cp71]) (seg := [.int .i64 t56, .int .i64 t57, .int .i64 t58, .string t59, .string t60, .slice A70 t61.length cp71]) (xs := [.int .i64 0, .int .i64 0, .int .i64 0, .string (⟨#[]⟩ : ByteArray), .string (⟨#[]⟩ : ByteArray), .slice none 0 0]) rfl rfl rfl rfl rfl rfl (by first | kernel_rfl | rfl) (by simp [Value.oneCell']) HX78 (by simp only [List.length_cons, List.length_nil]; omega) rfl ?_
 intro w80 HX81 hs82
 replace HX74 := HX74.thru hs82 rfl
 replace HP0_0 := HP0_0.thru hs82 rfl
 replace HP0_1 := HP0_1.thru hs82 rfl
 replace HX50 := HX50.thru hs82 rfl
 replace HO72 := HO72.thru hs82 rfl
 replace HS := HS.trans hs82 hc rfl
 (try simp only [ls0, ls1])
 refine as_ rfl ?_
 refine wl_end ?_
 (try simp only [ls0, ls1])
 refine hK55 _ _ ?_
 (try clear hK55 K55)
 refine wp_seq_k fun K83 hK83 => ?_
 refine wl_region ?_
 refine mv_ rfl ?_
 refine mv_ rfl ?_
 refine st (.pointer (some ⟨g0, 0, none⟩)) rfl rfl (xr_nilCheck _ rfl rfl) ?_
 refine st (.pointer (some ⟨g0, 3, none⟩)) rfl rfl (xr_fieldAddr _ _ rfl rfl (bx_field2 Try.underlying111 rfl rfl (by kernel_rfl))) ?_
 simp only [ls0, ls1]
 refine bx_store (C := C77) (z := 1) (g := g0) (j := 3) (tb := 111) (u := .int .i64 a0_3) (seg := [.int .i64 a0_3]) (xs := [.slice A0_0 l0_0.length c0_0, .slice A0_1 l0_1.length c0_1, .int .i64 t63, .int .i64 t64]) rfl rfl rfl rfl rfl rfl (by first | kernel_rfl | rfl) (by simp [Value.oneCell']) HX74 (by simp only [List.length_cons, List.length_nil]; omega) rfl ?_
 intro w84 HX85 hs86
 replace HP0_0 := HP0_0.thru hs86 rfl
 replace HP0_1 := HP0_1.thru hs86 rfl
 replace HX50 := HX50.thru hs86 rfl
 replace HO72 := HO72.thru hs86 rfl
 replace HX81 := HX81.thru hs86 rfl
 replace HS := HS.trans hs86 hc rfl
 (try simp only [ls0, ls1])
 refine wl_end ?_
 (try simp only [ls0, ls1])
 refine hK83 _ _ ?_
 (try clear hK83 K83)
 refine wp_seq_k fun K87 hK87 => ?_
 refine wl_region ?_
 refine st (.agg #[.int .i64 t56, .int .i64 t57, .int .i64 t58, .string t59, .string t60, .slice A70 t61.length cp71]) rfl rfl (xr_load _ _ rfl rfl (load_agg (cs := [.int .i64 t56, .int .i64 t57, .int .i64 t58, .string t59, .string t60, .slice A70 t61.length cp71]) Try.underlying44 rfl (by kernel_rfl) (bx_cells (HX81).2 0 rfl))) ?_
 refine mv_ rfl ?_
 refine bx_store (C := C77) (z := 11) (g := g47) (j := 0) (tb := 44) (u := .agg #[.int .i64 t56, .int .i64 t57, .int .i64 t58, .string t59, .string t60, .slice A70 t61.length cp71]) (seg := [.int .i64 t56, .int .i64 t57, .int .i64 t58, .string t59, .string t60, .slice A70 t61.length cp71]) (xs := [.int .i64 0, .int .i64 0, .int .i64 0, .string (⟨#[]⟩ : ByteArray), .string (⟨#[]⟩ : ByteArray), .slice none 0 0]) rfl rfl rfl rfl rfl rfl (by first | kernel_rfl | rfl) (by simp [Value.oneCell']) HX50 (by simp only [List.length_cons, List.length_nil]; omega) rfl ?_
 intro w88 HX89 hs90
 replace HX85 := HX85.thru hs90 rfl
 replace HP0_0 := HP0_0.thru hs90 rfl
 replace HP0_1 := HP0_1.thru hs90 rfl
 replace HO72 := HO72.thru hs90 rfl
 replace HX81 := HX81.thru hs90 rfl
 replace HS := HS.trans hs90 hc rfl
 (try simp only [ls0, ls1])
 refine as_ rfl ?_
 refine wl_end ?_
 (try simp only [ls0, ls1])
 refine hK87 _ _ ?_
 (try clear hK87 K87)
 refine wp_ret ?_
 (try simp only [Exit.inBlock, Exit.then, Exit.noGoto])
 (try simp only [ls0, ls1])
 simp only [Option.some.injEq, Prod.mk.injEq] at H
 obtain ⟨rfl, rfl, rfl, rfl, rfl, rfl, rfl, rfl⟩ := H
 refine bodyPost_ret (res_ct rfl rfl (load_of (load_agg (cs := [.int .i64 t56, .int .i64 t57, .int .i64 t58, .string t59, .string t60, .slice A70 t61.length cp71]) Try.underlying44 rfl (by kernel_rfl) (bx_cells (HX89).2 0 rfl)))) rfl ?_
 exact ⟨_, A70, cp71, rfl, HS, HO72, HC73, HX85⟩

/-! ### expr_Parse: function 33 -/
mutual
def expr_Parse.j0 : Nat → (List Int) → (List Int) → (List (S28)) → Int → Int → Int → Int → ByteArray → ByteArray → (List (S44)) → Int → Int → Option (Int × Int × Int × ByteArray × ByteArray × (List (S44)) × Int × Int)
  | 0, _, _, _, _, _, _, _, _, _, _, _, _ => none
  | k + 1, l0, t229, t230, t232, t250, t251, t252, t253, t254, t255, t257, x310 => if x310 = 0 then (some (t250, t251, t252, t253, t254, t255, (l0.length : Int), 0)) else ((expr_Cursor_Pos.f (some (⟨t229, t230, t257, t232⟩ : S111) : Option S111)).bind fun t329 => (some (0, 0, 0, (⟨#[]⟩ : ByteArray), (⟨#[]⟩ : ByteArray), ([] : List (S44)), t329, x310)))
def expr_Parse.j1 : Nat → (List Int) → (List Int) → (List (S28)) → Int → Int → Int → Int → ByteArray → ByteArray → (List (S44)) → Int → Int → Bool → Option (Int × Int × Int × ByteArray × ByteArray × (List (S44)) × Int × Int)
  | 0, _, _, _, _, _, _, _, _, _, _, _, _, _ => none
  | k + 1, l0, t229, t230, t232, t250, t251, t252, t253, t254, t255, t256, t257, x352 => if x352 = true then (expr_Parse.j0 k l0 t229 t230 t232 t250 t251 t252 t253 t254 t255 t257 11) else (expr_Parse.j0 k l0 t229 t230 t232 t250 t251 t252 t253 t254 t255 t257 t256)
end
def expr_Parse.f (k : Nat) (l0 : List Int) : Option (Int × Int × Int × ByteArray × ByteArray × (List (S44)) × Int × Int) := (lex_All.f k l0).bind fun t194 => ((lex_Bad.f k t194).bind fun bt204 => (if bt204.2.2.2 = true then (some (0, 0, 0, (⟨#[]⟩ : ByteArray), (⟨#[]⟩ : ByteArray), ([] : List (S44)), bt204.2.1, 10)) else ((expr_New.f k l0).bind fun bt229 => ((expr_Cursor_Expr.f k bt229.1 bt229.2.1 bt229.2.2.1 bt229.2.2.2).bind fun bt250 => (if bt250.2.2.2.2.2.2.1 = 0 then ((expr_Cursor_Done.f (some (⟨bt229.1, bt229.2.1, bt250.2.2.2.2.2.2.2, bt229.2.2.2⟩ : S111) : Option S111)).bind fun t365 => (expr_Parse.j1 k l0 bt229.1 bt229.2.1 bt229.2.2.2 bt250.1 bt250.2.1 bt250.2.2.1 bt250.2.2.2.1 bt250.2.2.2.2.1 bt250.2.2.2.2.2.1 bt250.2.2.2.2.2.2.1 bt250.2.2.2.2.2.2.2 (!t365))) else (expr_Parse.j1 k l0 bt229.1 bt229.2.1 bt229.2.2.2 bt250.1 bt250.2.1 bt250.2.2.1 bt250.2.2.2.1 bt250.2.2.2.2.1 bt250.2.2.2.2.2.1 bt250.2.2.2.2.2.2.1 bt250.2.2.2.2.2.2.2 false))))))

set_option maxHeartbeats 8000000 in
set_option maxRecDepth 100000 in
theorem expr_Parse.calls (k : Nat) (A0 : Option Addr) (c0 : Nat) (l0 : List Int) (r1 : Int) (r2 : Int) (r3 : Int) (r4 : ByteArray) (r5 : ByteArray) (r6 : List (S44)) (r7 : Int) (r8 : Int) (c : Nat → Nat) (w : World) (hc : ∀ k, c k < 10) (HP0 : Ft c [0] w (fun w_ => (Kd.int .u8).C w_ A0 l0.length l0)) (HCP0 : l0.length ≤ c0) (H : expr_Parse.f k l0 = some (r1, r2, r3, r4, r5, r6, r7, r8)) :
    Calls Try.prog 33 #[.slice A0 l0.length c0] w fun e w' => ∃ (c' : Nat → Nat) (A_r6 : Option Addr) (c_r6 : Nat), e = .returned (.tuple #[.agg #[.int .i64 r1, .int .i64 r2, .int .i64 r3, .string r4, .string r5, .slice A_r6 r6.length c_r6], .int .i64 r7, .int .i64 r8]) ∧ Step c w c' w' [] ∧ Ft c' [0] w' (fun w_ => k44.C w_ A_r6 r6.length r6) ∧ r6.length ≤ c_r6 := by
 unfold expr_Parse.f at H
 have HS := Step.refl c w []
 go_enter Try.func33, Try.ntmps33
 refine wp_seq_k fun K186 hK186 => ?_
 refine wl_region ?_
 refine bx_new (C := c) 44 ([.int .i64 0, .int .i64 0, .int .i64 0, .string (⟨#[]⟩ : ByteArray), .string (⟨#[]⟩ : ByteArray), .slice none 0 0]) 11 rfl rfl (by first | (go_simp; done) | (go_simp; rfl)) ?_
 intro g187 w188 C189 HX190 hs191
 replace HP0 := HP0.thru hs191 rfl
 replace HS := HS.trans hs191 hc rfl
 (try simp only [ls0, ls1])
 refine st (.int .i64 0) rfl rfl (xr_assign _ rfl rfl) ?_
 refine st (.int .i64 0) rfl rfl (xr_assign _ rfl rfl) ?_
 refine wl_end ?_
 (try simp only [ls0, ls1])
 refine hK186 _ _ ?_
 (try clear hK186 K186)
 refine wp_seq_k fun K192 hK192 => ?_
 refine wp_seq_k fun K193 hK193 => ?_
 refine wl_region ?_
 refine mv_ rfl ?_
 obtain ⟨t194, A195, H⟩ := bnd H
 refine st_call #[.slice A0 l0.length c0] rfl rfl Try.func18 (by kernel_rfl) rfl rfl (mp_ rfl) ?_
 refine (lex_All.calls k A0 c0 l0 t194  (fun z_ => pal [(0, 0)] (C189 z_)) w188 (fun _ => pal_lt rfl _) (Ft.arg HP0 rfl) HCP0 A195).mono ?_
 rintro _ w197 ⟨C198, A200, cp201, rfl, hs199, HO202, HC203⟩
 refine ⟨_, rfl, ?_⟩
 replace HO202 := Own.res (U := [(0, 0), (5, 12)]) (j := 12) HO202 hs199 (by rfl) (by decide) rfl rfl
 replace hs199 := Step.lift (U := [(0, 0), (5, 12)]) hs199 [] rfl rfl
 generalize up C189 C198 w188.heap.size [(0, 0), (5, 12)] = C198_ at HO202 hs199
 replace HP0 := HP0.thru hs199 rfl
 replace HX190 := HX190.thru hs199 rfl
 replace HS := HS.trans hs199 hc rfl
 (try simp only [ls0, ls1])
 obtain ⟨⟨t204, t205, t206, t207⟩, A208, H⟩ := bnd H
 (try dsimp only at H)
 refine st_call #[.slice A200 t194.length cp201] rfl rfl Try.func26 (by kernel_rfl) rfl rfl (mp_ rfl) ?_
 refine (lex_Bad.calls k A200 cp201 t194 t204 t205 t206 t207  (fun z_ => pal [(0, 0), (12, 0)] (C198_ z_)) w197 (fun _ => pal_lt rfl _) (Ft.arg (HO202.ft) rfl) HC203 A208).mono ?_
 rintro _ w210 ⟨C211, rfl, hs212⟩
 refine ⟨_, rfl, ?_⟩
 replace hs212 := Step.lift (U := [(0, 0)]) hs212 [] rfl rfl
 generalize up C198_ C211 w197.heap.size [(0, 0)] = C211_ at hs212
 replace HP0 := HP0.thru hs212 rfl
 replace HX190 := HX190.thru hs212 rfl
 replace HS := HS.trans hs212 hc rfl
 (try simp only [ls0, ls1])
 refine mv_ rfl ?_
 refine st (.agg #[.int .i64 t204, .int .i64 t205, .int .i64 t206]) rfl rfl (xr_extract (.tuple #[.agg #[.int .i64 t204, .int .i64 t205, .int .i64 t206], .bool t207]) _ rfl rfl rfl) ?_
 refine st (.bool t207) rfl rfl (xr_extract (.tuple #[.agg #[.int .i64 t204, .int .i64 t205, .int .i64 t206], .bool t207]) _ rfl rfl rfl) ?_
 refine bx_new (C := C211_) 28 ([.int .i64 0, .int .i64 0, .int .i64 0]) 13 rfl rfl (by first | (go_simp; done) | (go_simp; rfl)) ?_
 intro g213 w214 C215 HX216 hs217
 replace HP0 := HP0.thru hs217 rfl
 replace HX190 := HX190.thru hs217 rfl
 replace HS := HS.trans hs217 hc rfl
 (try simp only [ls0, ls1])
 refine bx_store (C := C215) (z := 13) (g := g213) (j := 0) (tb := 28) (u := .agg #[.int .i64 t204, .int .i64 t205, .int .i64 t206]) (seg := [.int .i64 t204, .int .i64 t205, .int .i64 t206]) (xs := [.int .i64 0, .int .i64 0, .int .i64 0]) rfl rfl rfl rfl rfl rfl (by first | kernel_rfl | rfl) (by simp [Value.oneCell']) HX216 (by simp only [List.length_cons, List.length_nil]; omega) rfl ?_
 intro w218 HX219 hs220
 replace HP0 := HP0.thru hs220 rfl
 replace HX190 := HX190.thru hs220 rfl
 replace HS := HS.trans hs220 hc rfl
 (try simp only [ls0, ls1])
 refine as_ rfl ?_
 refine wl_end ?_
 (try simp only [ls0, ls1])
 refine hK193 _ _ ?_
 (try clear hK193 K193)
 refine wp_seq_k fun K221 hK221 => ?_
 refine wl_region ?_
 refine mv_ rfl ?_
 refine wl_end ?_
 (try simp only [ls0, ls1])
 refine hK221 _ _ ?_
 (try clear hK221 K221)
 by_cases c222 : t207 = true
 ·rw [if_pos c222] at H
  (try rw [c222])
  refine wp_cond_true rfl ?_
  refine wp_seq_k fun K223 hK223 => ?_
  (try simp only [ls0, ls1])
  refine al_start (lb 6 0) rfl rfl rfl (fun w_ => w_.heap[g213]? = some (.cells (List.toArray ([.int .i64 t204, .int .i64 t205, .int .i64 t206])) 28 (0, 0))) (HX219.drew).2 [] ?_
  replace HP0 := HP0.drew
  replace HX190 := HX190.drew
  replace HX219 := HX219.drew
  replace HS := Step.ofDrew HS
  generalize w218.drew = w224 at *
  refine al_pure 0 15 (.agg #[.int .i64 0, .int .i64 0, .int .i64 0, .string (⟨#[]⟩ : ByteArray), .string (⟨#[]⟩ : ByteArray), .slice none 0 0]) (lb 6 1) rfl rfl (by kernel_rfl) (fun _ _ _ => id) rfl (fun w_ => xr_build #[] (.agg #[.int .i64 0, .int .i64 0, .int .i64 0, .string (⟨#[]⟩ : ByteArray), .string (⟨#[]⟩ : ByteArray), .slice none 0 0]) rfl (mp_ rfl) (by first | rfl | (go_simp; done) | (go_simp; rfl) | (go_simp; exact i64_w _) | (go_simp; exact i32_w _))) ?_
  refine al_pure 1 16 (.pointer (some ⟨g213, 1, none⟩)) (lb 6 3) rfl rfl (by kernel_rfl) (fun _ _ _ => id) rfl (fun w_ => xr_fieldAddr _ _ rfl rfl (bx_field2 Try.underlying28 rfl rfl (by kernel_rfl))) ?_
  refine al_take 2 17 (.int .i64 t205) (lb 6 7) rfl rfl (by kernel_rfl) (fun _ _ _ => id) rfl (fun w_ hS_ => xr_load _ _ rfl rfl (load_cell Try.underlying3 rfl (bx_cell hS_ 1 rfl))) (HX219).2 ?_
  refine al_one 3 (lb 6 15) rfl rfl (by kernel_rfl) rfl (fun K_ hK_ => ?_)
  refine bx_store_step (C := C215) (z := 11) (g := g187) (j := 0) (tb := 44) (u := .agg #[.int .i64 0, .int .i64 0, .int .i64 0, .string (⟨#[]⟩ : ByteArray), .string (⟨#[]⟩ : ByteArray), .slice none 0 0]) (seg := [.int .i64 0, .int .i64 0, .int .i64 0, .string (⟨#[]⟩ : ByteArray), .string (⟨#[]⟩ : ByteArray), .slice none 0 0]) (xs := [.int .i64 0, .int .i64 0, .int .i64 0, .string (⟨#[]⟩ : ByteArray), .string (⟨#[]⟩ : ByteArray), .slice none 0 0]) rfl rfl rfl rfl rfl rfl (by first | kernel_rfl | rfl) (by simp [Value.oneCell']) HX190 (by simp only [List.length_cons, List.length_nil]; omega) rfl ?_
  intro w225 HX226 hs227
  replace HX219 := HX219.thru hs227 rfl
  replace HS := HS.trans hs227 hc rfl
  refine hK_ _ _ (HX219).2 ?_
  clear hK_ K_
  (try simp only [Act.put, List.setIfInBounds_toArray, ls0, ls1])
  refine al_as 4 (lb 6 31) rfl rfl (by kernel_rfl) (fun _ _ _ => id) rfl ?_
  refine al_pure 5 4 (.int .i64 10) (lb 6 63) rfl rfl (by kernel_rfl) (fun _ _ _ => id) rfl (fun w_ => xr_assign _ rfl rfl) ?_
  refine al_end (by kernel_rfl) ?_
  (try simp only [ls0, ls1])
  refine hK223 _ _ ?_
  (try clear hK223 K223)
  refine wp_ret ?_
  (try simp only [Exit.inBlock, Exit.then, Exit.noGoto])
  (try simp only [ls0, ls1])
  simp only [Option.some.injEq, Prod.mk.injEq] at H
  obtain ⟨rfl, rfl, rfl, rfl, rfl, rfl, rfl, rfl⟩ := H
  refine bodyPost_ret (res_ctt rfl rfl (load_of (load_agg (cs := [.int .i64 0, .int .i64 0, .int .i64 0, .string (⟨#[]⟩ : ByteArray), .string (⟨#[]⟩ : ByteArray), .slice none 0 0]) Try.underlying44 rfl (by kernel_rfl) (bx_cells (HX226).2 0 rfl)))) rfl ?_
  exact ⟨_, none, 0, rfl, HS, (Kd.F_nil _ _ _), (Nat.le_refl 0)⟩
 rw [if_neg c222] at H
 (try rw [(Bool.eq_false_iff.mpr c222)])
 refine wp_cond_false rfl ?_
 refine wp_skip ?_
 (try simp only [ls0, ls1])
 refine hK192 _ _ ?_
 (try clear hK192 K192)
 refine wp_seq_k fun K228 hK228 => ?_
 refine wl_region ?_
 refine mv_ rfl ?_
 obtain ⟨⟨t229, t230, t231, t232⟩, A233, H⟩ := bnd H
 (try dsimp only at H)
 refine st_call #[.slice A0 l0.length c0] rfl rfl Try.func40 (by kernel_rfl) rfl rfl (mp_ rfl) ?_
 refine (expr_New.calls k A0 c0 l0 t229 t230 t231 t232  (fun z_ => pal [(0, 0)] (C215 z_)) w218 (fun _ => pal_lt rfl _) (Ft.arg HP0 rfl) HCP0 A233).mono ?_
 rintro _ w235 ⟨C236, g238, A239, cp240, A243, cp244, rfl, hs237, HO241, HC242, HO245, HC246, HX247⟩
 refine ⟨_, rfl, ?_⟩
 replace HO241 := Ft.res (U := [(0, 0), (6, 14), (7, 15)]) HO241 hs237 [0] rfl rfl rfl
 replace HO245 := Own.res (U := [(0, 0), (6, 14), (7, 15)]) (j := 14) HO245 hs237 (by rfl) (by decide) rfl rfl
 replace HX247 := Bx.res (U := [(0, 0), (6, 14), (7, 15)]) (j := 15) HX247 hs237 (by rfl) (by decide) rfl
 replace hs237 := Step.lift (U := [(0, 0), (6, 14), (7, 15)]) hs237 [] rfl rfl
 generalize up C215 C236 w218.heap.size [(0, 0), (6, 14), (7, 15)] = C236_ at HO241 HO245 HX247 hs237
 replace HP0 := HP0.thru hs237 rfl
 replace HX190 := HX190.thru hs237 rfl
 replace HX219 := HX219.thru hs237 rfl
 replace HS := HS.trans hs237 hc rfl
 (try simp only [ls0, ls1])
 refine as_ rfl ?_
 refine wl_end ?_
 (try simp only [ls0, ls1])
 refine hK228 _ _ ?_
 (try clear hK228 K228)
 refine wp_seq_k fun K248 hK248 => ?_
 refine wl_region ?_
 refine mv_ rfl ?_
 replace HP0 := Ft.recol (a := 14) (b := 0) HP0 (.inl rfl)
 replace HX190 := Bx.recol (a := 14) (b := 0) HX190 (by decide)
 replace HX219 := Bx.recol (a := 14) (b := 0) HX219 (by decide)
 replace HX247 := Bx.recol (a := 14) (b := 0) HX247 (by decide)
 replace HO241 := Ft.recol (a := 14) (b := 0) HO241 (.inl rfl)
 have HR249 := Ft.recolor (a := 14) (b := 0) (HO245.ft) [0] rfl
 replace HS := Step.recol (a := 14) (b := 0) HS hc (by decide)
 obtain ⟨⟨t250, t251, t252, t253, t254, t255, t256, t257⟩, A258, H⟩ := bnd H
 (try dsimp only at H)
 refine st_call #[.pointer (some ⟨g238, 0, none⟩)] rfl rfl Try.func51 (by kernel_rfl) rfl rfl (mp_ rfl) ?_
 refine (expr_Cursor_Expr.calls k g238 A239 cp240 t229 A243 cp244 t230 t231 t232 t250 t251 t252 t253 t254 t255 t256 t257  (fun z_ => pal [(0, 0), (15, 1)] ((recol C236_ 14 0) z_)) w235 (fun _ => pal_lt rfl _) (Bx.arg HX247 rfl) (Ft.arg HO241 rfl) HC242 (Ft.arg HR249 rfl) HC246 A258).mono ?_
 rintro _ w260 ⟨C261, A263, cp264, rfl, hs262, HO265, HC266, HX267⟩
 refine ⟨_, rfl, ?_⟩
 replace HO265 := Ft.res (U := [(0, 0), (1, 15)]) HO265 hs262 [0] rfl rfl rfl
 replace HX267 := Bx.res (U := [(0, 0), (1, 15)]) (j := 15) HX267 hs262 (by rfl) (by decide) rfl
 replace hs262 := Step.lift (U := [(0, 0), (1, 15)]) hs262 [15] rfl rfl
 generalize up (recol C236_ 14 0) C261 w235.heap.size [(0, 0), (1, 15)] = C261_ at HO265 HX267 hs262
 replace HP0 := HP0.thru hs262 rfl
 replace HX190 := HX190.thru hs262 rfl
 replace HX219 := HX219.thru hs262 rfl
 replace HO241 := HO241.thru hs262 rfl
 replace HR249 := HR249.thru hs262 rfl
 replace HS := HS.trans hs262 hc rfl
 (try simp only [ls0, ls1])
 refine mv_ rfl ?_
 refine st (.agg #[.int .i64 t250, .int .i64 t251, .int .i64 t252, .string t253, .string t254, .slice A263 t255.length cp264]) rfl rfl (xr_extract (.tuple #[.agg #[.int .i64 t250, .int .i64 t251, .int .i64 t252, .string t253, .string t254, .slice A263 t255.length cp264], .int .i64 t256]) _ rfl rfl rfl) ?_
 refine st (.int .i64 t256) rfl rfl (xr_extract (.tuple #[.agg #[.int .i64 t250, .int .i64 t251, .int .i64 t252, .string t253, .string t254, .slice A263 t255.length cp264], .int .i64 t256]) _ rfl rfl rfl) ?_
 refine bx_store (C := C261_) (z := 11) (g := g187) (j := 0) (tb := 44) (u := .agg #[.int .i64 t250, .int .i64 t251, .int .i64 t252, .string t253, .string t254, .slice A263 t255.length cp264]) (seg := [.int .i64 t250, .int .i64 t251, .int .i64 t252, .string t253, .string t254, .slice A263 t255.length cp264]) (xs := [.int .i64 0, .int .i64 0, .int .i64 0, .string (⟨#[]⟩ : ByteArray), .string (⟨#[]⟩ : ByteArray), .slice none 0 0]) rfl rfl rfl rfl rfl rfl (by first | kernel_rfl | rfl) (by simp [Value.oneCell']) HX190 (by simp only [List.length_cons, List.length_nil]; omega) rfl ?_
 intro w268 HX269 hs270
 replace HP0 := HP0.thru hs270 rfl
 replace HO265 := HO265.thru hs270 rfl
 replace HX219 := HX219.thru hs270 rfl
 replace HX267 := HX267.thru hs270 rfl
 replace HO241 := HO241.thru hs270 rfl
 replace HR249 := HR249.thru hs270 rfl
 replace HS := HS.trans hs270 hc rfl
 (try simp only [ls0, ls1])
 refine as_ rfl ?_
 refine wl_end ?_
 (try simp only [ls0, ls1])
 refine hK248 _ _ ?_
 (try clear hK248 K248)
 refine wp_seq_k fun K271 hK271 => ?_
 have hj305 : ∀ (kq317 : Nat) (C306 : Nat → Nat) (w307 : World) (x310 : Int) (g_ : Nat → Value), Step c w C306 w307 [] → kq317 ≤ k → (Ft C306 [0] w307 (fun w_ => (Kd.int .u8).C w_ A0 l0.length l0)) → (Ft C306 [0] w307 (fun w_ => k44.C w_ A263 t255.length t255)) → (Bx C306 11 w307 g187 44 ([.int .i64 t250, .int .i64 t251, .int .i64 t252, .string t253, .string t254, .slice A263 t255.length cp264])) → (Bx C306 13 w307 g213 28 ([.int .i64 t204, .int .i64 t205, .int .i64 t206])) → (Ft C306 [0] w307 (fun w_ => (Kd.int .u8).C w_ A239 t229.length t229)) → (Ft C306 [0] w307 (fun w_ => k28.C w_ A243 t230.length t230)) → (Bx C306 15 w307 g238 111 ([.slice A239 t229.length cp240, .slice A243 t230.length cp244, .int .i64 t257, .int .i64 t232])) → expr_Parse.j0 kq317 l0 t229 t230 t232 t250 t251 t252 t253 t254 t255 t257 x310 = some (r1, r2, r3, r4, r5, r6, r7, r8) → K271 ⟨#[.slice A0 l0.length c0, (g_ 1), .pointer (some ⟨g187, 0, none⟩), (g_ 3), .int .i64 x310, (g_ 5), (g_ 6), .pointer (some ⟨g238, 0, none⟩), (g_ 8), (g_ 9), (g_ 10), (g_ 11), (g_ 12), (g_ 13), (g_ 14), (g_ 15), (g_ 16), (g_ 17), (g_ 18), (g_ 19), (g_ 20), (g_ 21), (g_ 22), (g_ 23), (g_ 24), (g_ 25), (g_ 26), (g_ 27), (g_ 28), (g_ 29), (g_ 30), (g_ 31), (g_ 32), (g_ 33), (g_ 34), (g_ 35), (g_ 36), (g_ 37), (g_ 38), (g_ 39), (g_ 40)], []⟩ w307 := by
  intro kq317 C306 w307 x310 g_ HS308 hk318 HJ309 HJ311 HJ312 HJ313 HJ314 HJ315 HJ316 H
  cases kq317 with
  | zero => exact absurd H (by simp [expr_Parse.j0])
  | succ k319 =>
   simp only [expr_Parse.j0] at H
   refine hK271 _ _ ?_
   (try clear hK271)
   refine wp_seq_k fun K320 hK320 => ?_
   refine wp_seq_k fun K321 hK321 => ?_
   refine wl_region ?_
   refine mv_ rfl ?_
   refine st (.bool (!decide (x310 = 0))) rfl rfl (xr_bin _ _ _ rfl rfl rfl (B.neq_i64 _ _)) ?_
   refine wl_end ?_
   (try simp only [ls0, ls1])
   refine hK321 _ _ ?_
   (try clear hK321 K321)
   by_cases c322 : x310 = 0
   ·rw [if_pos c322] at H
    (try rw [(decide_eq_true c322)])
    (try simp only [Bool.not_true, Bool.not_false])
    refine wp_cond_false rfl ?_
    refine wp_skip ?_
    (try simp only [ls0, ls1])
    refine hK320 _ _ ?_
    (try clear hK320 K320)
    refine wp_seq_k fun K323 hK323 => ?_
    refine wl_region ?_
    refine st (.agg #[.int .i64 t250, .int .i64 t251, .int .i64 t252, .string t253, .string t254, .slice A263 t255.length cp264]) rfl rfl (xr_load _ _ rfl rfl (load_agg (cs := [.int .i64 t250, .int .i64 t251, .int .i64 t252, .string t253, .string t254, .slice A263 t255.length cp264]) Try.underlying44 rfl (by kernel_rfl) (bx_cells (HJ312).2 0 rfl))) ?_
    refine mv_ rfl ?_
    refine st (.int .i64 (l0.length : Int)) rfl rfl (xr_builtin #[.slice A0 l0.length c0] (.int .i64 (l0.length : Int)) rfl (mp_ rfl) (by first | rfl | (go_simp; done) | (go_simp; rfl) | (go_simp; exact i64_w _) | (go_simp; exact i32_w _))) ?_
    refine bx_store (C := C306) (z := 11) (g := g187) (j := 0) (tb := 44) (u := .agg #[.int .i64 t250, .int .i64 t251, .int .i64 t252, .string t253, .string t254, .slice A263 t255.length cp264]) (seg := [.int .i64 t250, .int .i64 t251, .int .i64 t252, .string t253, .string t254, .slice A263 t255.length cp264]) (xs := [.int .i64 t250, .int .i64 t251, .int .i64 t252, .string t253, .string t254, .slice A263 t255.length cp264]) rfl rfl rfl rfl rfl rfl (by first | kernel_rfl | rfl) (by simp [Value.oneCell']) HJ312 (by simp only [List.length_cons, List.length_nil]; omega) rfl ?_
    intro w324 HX325 hs326
    replace HJ311 := HJ311.thru hs326 rfl
    replace HJ313 := HJ313.thru hs326 rfl
    replace HJ316 := HJ316.thru hs326 rfl
    replace HJ314 := HJ314.thru hs326 rfl
    replace HJ315 := HJ315.thru hs326 rfl
    replace HS308 := HS308.trans hs326 hc rfl
    (try simp only [ls0, ls1])
    refine as_ rfl ?_
    refine st (.int .i64 0) rfl rfl (xr_assign _ rfl rfl) ?_
    refine wl_end ?_
    (try simp only [ls0, ls1])
    refine hK323 _ _ ?_
    (try clear hK323 K323)
    refine wp_ret ?_
    (try simp only [Exit.inBlock, Exit.then, Exit.noGoto])
    (try simp only [ls0, ls1])
    simp only [Option.some.injEq, Prod.mk.injEq] at H
    obtain ⟨rfl, rfl, rfl, rfl, rfl, rfl, rfl, rfl⟩ := H
    refine bodyPost_ret (res_ctt rfl rfl (load_of (load_agg (cs := [.int .i64 t250, .int .i64 t251, .int .i64 t252, .string t253, .string t254, .slice A263 t255.length cp264]) Try.underlying44 rfl (by kernel_rfl) (bx_cells (HX325).2 0 rfl)))) rfl ?_
    exact ⟨_, A263, cp264, rfl, HS308, HJ311, HC266⟩
   rw [if_neg c322] at H
   (try rw [(decide_eq_false c322)])
   (try simp only [Bool.not_true, Bool.not_false])
   refine wp_cond_true rfl ?_
   refine wp_seq_k fun K327 hK327 => ?_
   refine wl_region ?_
   refine st (.agg #[.int .i64 0, .int .i64 0, .int .i64 0, .string (⟨#[]⟩ : ByteArray), .string (⟨#[]⟩ : ByteArray), .slice none 0 0]) rfl rfl (xr_build #[] (.agg #[.int .i64 0, .int .i64 0, .int .i64 0, .string (⟨#[]⟩ : ByteArray), .string (⟨#[]⟩ : ByteArray), .slice none 0 0]) rfl (mp_ rfl) (by first | rfl | (go_simp; done) | (go_simp; rfl) | (go_simp; exact i64_w _) | (go_simp; exact i32_w _))) ?_
   refine mv_ rfl ?_
   have HP328 : Ft C306 [0, 15] w307 (fun w_ => (Kd.ptr 111 k111).K w_ (some (⟨t229, t230, t257, t232⟩ : S111)) [.pointer (some ⟨g238, 0, none⟩)]) := ptr_mk (Ft.more (HJ316.ft) rfl) (k111_mkF _ _ (⟨t229, t230, t257, t232⟩ : S111) HC242 (Ft.more HJ314 rfl) HC246 (Ft.more HJ315 rfl))
   obtain ⟨t329, A330, H⟩ := bnd H
   refine st_call #[.pointer (some ⟨g238, 0, none⟩)] rfl rfl Try.func44 (by kernel_rfl) rfl rfl (mp_ rfl) ?_
   refine (expr_Cursor_Pos.calls (.pointer (some ⟨g238, 0, none⟩)) (some (⟨t229, t230, t257, t232⟩ : S111) : Option S111) t329  (fun z_ => pal [(0, 0), (15, 0)] (C306 z_)) w307 (fun _ => pal_lt rfl _) (Ft.arg HP328 rfl) A330).mono ?_
   rintro _ w332 ⟨C333, rfl, hs334⟩
   refine ⟨_, rfl, ?_⟩
   replace hs334 := Step.lift (U := [(0, 0)]) hs334 [] rfl rfl
   generalize up C306 C333 w307.heap.size [(0, 0)] = C333_ at hs334
   replace HJ312 := HJ312.thru hs334 rfl
   replace HJ311 := HJ311.thru hs334 rfl
   replace HJ313 := HJ313.thru hs334 rfl
   replace HJ316 := HJ316.thru hs334 rfl
   replace HJ314 := HJ314.thru hs334 rfl
   replace HJ315 := HJ315.thru hs334 rfl
   replace HS308 := HS308.trans hs334 hc rfl
   (try simp only [ls0, ls1])
   refine mv_ rfl ?_
   refine bx_store (C := C333_) (z := 11) (g := g187) (j := 0) (tb := 44) (u := .agg #[.int .i64 0, .int .i64 0, .int .i64 0, .string (⟨#[]⟩ : ByteArray), .string (⟨#[]⟩ : ByteArray), .slice none 0 0]) (seg := [.int .i64 0, .int .i64 0, .int .i64 0, .string (⟨#[]⟩ : ByteArray), .string (⟨#[]⟩ : ByteArray), .slice none 0 0]) (xs := [.int .i64 t250, .int .i64 t251, .int .i64 t252, .string t253, .string t254, .slice A263 t255.length cp264]) rfl rfl rfl rfl rfl rfl (by first | kernel_rfl | rfl) (by simp [Value.oneCell']) HJ312 (by simp only [List.length_cons, List.length_nil]; omega) rfl ?_
   intro w335 HX336 hs337
   replace HJ313 := HJ313.thru hs337 rfl
   replace HJ316 := HJ316.thru hs337 rfl
   replace HJ314 := HJ314.thru hs337 rfl
   replace HJ315 := HJ315.thru hs337 rfl
   replace HS308 := HS308.trans hs337 hc rfl
   (try simp only [ls0, ls1])
   refine as_ rfl ?_
   refine as_ rfl ?_
   refine wl_end ?_
   (try simp only [ls0, ls1])
   refine hK327 _ _ ?_
   (try clear hK327 K327)
   refine wp_ret ?_
   (try simp only [Exit.inBlock, Exit.then, Exit.noGoto])
   (try simp only [ls0, ls1])
   simp only [Option.some.injEq, Prod.mk.injEq] at H
   obtain ⟨rfl, rfl, rfl, rfl, rfl, rfl, rfl, rfl⟩ := H
   refine bodyPost_ret (res_ctt rfl rfl (load_of (load_agg (cs := [.int .i64 0, .int .i64 0, .int .i64 0, .string (⟨#[]⟩ : ByteArray), .string (⟨#[]⟩ : ByteArray), .slice none 0 0]) Try.underlying44 rfl (by kernel_rfl) (bx_cells (HX336).2 0 rfl)))) rfl ?_
   exact ⟨_, none, 0, rfl, HS308, (Kd.F_nil _ _ _), (Nat.le_refl 0)⟩
 refine wp_seq_k fun K338 hK338 => ?_
 have hj347 : ∀ (kq359 : Nat) (C348 : Nat → Nat) (w349 : World) (x352 : Bool) (g_ : Nat → Value), Step c w C348 w349 [] → kq359 ≤ k → (Ft C348 [0] w349 (fun w_ => (Kd.int .u8).C w_ A0 l0.length l0)) → (Ft C348 [0] w349 (fun w_ => k44.C w_ A263 t255.length t255)) → (Bx C348 11 w349 g187 44 ([.int .i64 t250, .int .i64 t251, .int .i64 t252, .string t253, .string t254, .slice A263 t255.length cp264])) → (Bx C348 13 w349 g213 28 ([.int .i64 t204, .int .i64 t205, .int .i64 t206])) → (Ft C348 [0] w349 (fun w_ => (Kd.int .u8).C w_ A239 t229.length t229)) → (Ft C348 [0] w349 (fun w_ => k28.C w_ A243 t230.length t230)) → (Bx C348 15 w349 g238 111 ([.slice A239 t229.length cp240, .slice A243 t230.length cp244, .int .i64 t257, .int .i64 t232])) → expr_Parse.j1 kq359 l0 t229 t230 t232 t250 t251 t252 t253 t254 t255 t256 t257 x352 = some (r1, r2, r3, r4, r5, r6, r7, r8) → K338 ⟨#[.slice A0 l0.length c0, (g_ 1), .pointer (some ⟨g187, 0, none⟩), (g_ 3), .int .i64 t256, (g_ 5), (g_ 6), .pointer (some ⟨g238, 0, none⟩), (g_ 8), (g_ 9), (g_ 10), (g_ 11), (g_ 12), (g_ 13), (g_ 14), (g_ 15), (g_ 16), (g_ 17), (g_ 18), (g_ 19), (g_ 20), (g_ 21), (g_ 22), (g_ 23), (g_ 24), (g_ 25), (g_ 26), (g_ 27), (g_ 28), (g_ 29), (g_ 30), .bool x352, (g_ 32), (g_ 33), (g_ 34), (g_ 35), (g_ 36), (g_ 37), (g_ 38), (g_ 39), (g_ 40)], []⟩ w349 := by
  intro kq359 C348 w349 x352 g_ HS350 hk360 HJ351 HJ353 HJ354 HJ355 HJ356 HJ357 HJ358 H
  cases kq359 with
  | zero => exact absurd H (by simp [expr_Parse.j1])
  | succ k361 =>
   simp only [expr_Parse.j1] at H
   refine hK338 _ _ ?_
   (try clear hK338)
   by_cases c362 : x352 = true
   ·rw [if_pos c362] at H
    (try rw [c362])
    refine wp_cond_true rfl ?_
    refine wl_region ?_
    refine st (.int .i64 11) rfl rfl (xr_assign _ rfl rfl) ?_
    refine wl_end ?_
    (try simp only [ls0, ls1])
    exact jmp (fun g_ => hj305 _ _ _ (11) g_ HS350 (by omega) HJ351 HJ353 HJ354 HJ355 HJ356 HJ357 HJ358 H) rfl
   rw [if_neg c362] at H
   (try rw [(Bool.eq_false_iff.mpr c362)])
   refine wp_cond_false rfl ?_
   refine wp_skip ?_
   (try simp only [ls0, ls1])
   exact jmp (fun g_ => hj305 _ _ _ (t256) g_ HS350 (by omega) HJ351 HJ353 HJ354 HJ355 HJ356 HJ357 HJ358 H) rfl
 refine wl_region ?_
 refine mv_ rfl ?_
 refine st (.bool (decide (t256 = 0))) rfl rfl (xr_bin _ _ _ rfl rfl rfl (B.eql_i64 _ _)) ?_
 refine mv_ rfl ?_
 by_cases c363 : t256 = 0
 ·rw [if_pos c363] at H
  (try rw [(decide_eq_true c363)])
  refine on_guard (guard_on 2 true 27 rfl rfl rfl) ?_
  refine mv_ rfl ?_
  simp only [ls0, ls1]
  refine on_guard (guard_on 2 true 27 rfl rfl rfl) ?_
  have HP364 : Ft C261_ [0, 15] w268 (fun w_ => (Kd.ptr 111 k111).K w_ (some (⟨t229, t230, t257, t232⟩ : S111)) [.pointer (some ⟨g238, 0, none⟩)]) := ptr_mk (Ft.more (HX267.ft) rfl) (k111_mkF _ _ (⟨t229, t230, t257, t232⟩ : S111) HC242 (Ft.more HO241 rfl) HC246 (Ft.more HR249 rfl))
  obtain ⟨t365, A366, H⟩ := bnd H
  refine st_call #[.pointer (some ⟨g238, 0, none⟩)] rfl rfl Try.func47 (by kernel_rfl) rfl rfl (mp_ rfl) ?_
  refine (expr_Cursor_Done.calls (.pointer (some ⟨g238, 0, none⟩)) (some (⟨t229, t230, t257, t232⟩ : S111) : Option S111) t365  (fun z_ => pal [(0, 0), (15, 0)] (C261_ z_)) w268 (fun _ => pal_lt rfl _) (Ft.arg HP364 rfl) A366).mono ?_
  rintro _ w368 ⟨C369, rfl, hs370⟩
  refine ⟨_, rfl, ?_⟩
  replace hs370 := Step.lift (U := [(0, 0)]) hs370 [] rfl rfl
  generalize up C261_ C369 w268.heap.size [(0, 0)] = C369_ at hs370
  replace HP0 := HP0.thru hs370 rfl
  replace HX269 := HX269.thru hs370 rfl
  replace HO265 := HO265.thru hs370 rfl
  replace HX219 := HX219.thru hs370 rfl
  replace HX267 := HX267.thru hs370 rfl
  replace HO241 := HO241.thru hs370 rfl
  replace HR249 := HR249.thru hs370 rfl
  replace HS := HS.trans hs370 hc rfl
  (try simp only [ls0, ls1])
  refine on_guard (guard_on 2 true 27 rfl rfl rfl) ?_
  refine st (.bool (!t365)) rfl rfl (xr_un (.bool t365) _ rfl rfl (by first | rfl | (go_simp; done) | (go_simp; rfl) | (go_simp; exact i64_w _) | (go_simp; exact i32_w _))) ?_
  refine st (.bool (!t365)) rfl rfl (xr_pick true _ rfl rfl rfl) ?_
  refine wl_end ?_
  (try simp only [ls0, ls1])
  exact jmp (fun g_ => hj347 _ _ _ (!t365) g_ HS (by omega) HP0 HO265 HX269 HX219 HO241 HR249 HX267 H) rfl
 rw [if_neg c363] at H
 (try rw [(decide_eq_false c363)])
 refine sk_guard (guard_off 2 true 27 rfl rfl false (by decide) rfl) rfl ?_
 refine sk_guard (guard_off 2 true 27 rfl rfl false (by decide) rfl) rfl ?_
 refine sk_guard (guard_off 2 true 27 rfl rfl false (by decide) rfl) rfl ?_
 refine st (.bool false) rfl rfl (xr_pick false _ rfl rfl rfl) ?_
 simp only [ls0, ls1]
 refine wl_end ?_
 (try simp only [ls0, ls1])
 exact jmp (fun g_ => hj347 _ _ _ (false) g_ HS (by omega) HP0 HO265 HX269 HX219 HO241 HR249 HX267 H) rfl

/-! ### blazonlaw08_awake: function 32 -/
def blazonlaw08_awake.f (k : Nat)  : Option (Bool) := (some ([49, 43, 50, 42, 120] : List Int)).bind fun y85 => ((expr_Parse.f k y85).bind fun bt94 => ((some ([102, 40] : List Int)).bind fun y120 => ((expr_Parse.f k y120).bind fun bt129 => (if bt94.2.2.2.2.2.2.2 = 0 then (if bt94.2.2.2.1 = (⟨#[43]⟩ : ByteArray) then (if (bt94.2.2.2.2.2.1.length : Int) = 2 then (if 1 < (bt94.2.2.2.2.2.1.length : Int) then (if ((rd_T44 bt94.2.2.2.2.2.1 1).f3) = (⟨#[42]⟩ : ByteArray) then (if bt129.2.2.2.2.2.2.2 = 11 then (some (decide (bt129.2.2.2.2.2.2.1 = 2))) else (some false)) else (some false)) else (none)) else (some false)) else (some false)) else (some false)))))

set_option maxHeartbeats 8000000 in
set_option maxRecDepth 100000 in
theorem blazonlaw08_awake.calls (k : Nat)  (r : Bool) (c : Nat → Nat) (w : World) (hc : ∀ k, c k < 10)  (H : blazonlaw08_awake.f k = some r) :
    Calls Try.prog 32 #[] w fun e w' => ∃ (c' : Nat → Nat) , e = .returned (.bool r) ∧ Step c w c' w' [] := by
 unfold blazonlaw08_awake.f at H
 have HS := Step.refl c w []
 go_enter Try.func32, Try.ntmps32
 refine wp_seq_k fun K83 hK83 => ?_
 refine wl_region ?_
 refine st (.bool false) rfl rfl (xr_assign _ rfl rfl) ?_
 refine wl_end ?_
 (try simp only [ls0, ls1])
 refine hK83 _ _ ?_
 (try clear hK83 K83)
 refine wp_seq_k fun K84 hK84 => ?_
 refine wl_region ?_
 obtain ⟨y85, A86, H⟩ := bnd H
 refine own_litconv (C := c) 5 rfl rfl (xs := [49, 43, 50, 42, 120]) (inner := [.int .u8 49, .int .u8 43, .int .u8 50, .int .u8 42, .int .u8 120]) (by first | (go_simp; done) | (go_simp; rfl)) rfl 22 rfl _ rfl rfl Try.underlying22 Try.underlying5 (by simp only [List.length_cons, List.length_nil]; omega) 11 (Option.some.inj A86) ?_
 intro A87 cp88 w89 C90 HO91 HC92 hs93
 replace HS := HS.trans hs93 hc rfl
 (try simp only [Act.put, List.setIfInBounds_toArray, ls0, ls1])
 (try simp only [ls0, ls1])
 replace HO91 := Ft.recolor (a := 11) (b := 0) HO91 [0] rfl
 replace HS := Step.recol (a := 11) (b := 0) HS hc (by decide)
 obtain ⟨⟨t94, t95, t96, t97, t98, t99, t100, t101⟩, A102, H⟩ := bnd H
 (try dsimp only at H)
 refine st_call #[.slice A87 y85.length cp88] rfl rfl Try.func33 (by kernel_rfl) rfl rfl (mp_ rfl) ?_
 refine (expr_Parse.calls k A87 cp88 y85 t94 t95 t96 t97 t98 t99 t100 t101  (fun z_ => pal [(0, 0)] ((recol C90 11 0) z_)) w89 (fun _ => pal_lt rfl _) (Ft.arg HO91 rfl) HC92 A102).mono ?_
 rintro _ w104 ⟨C105, A107, cp108, rfl, hs106, HO109, HC110⟩
 refine ⟨_, rfl, ?_⟩
 replace HO109 := Ft.res (U := [(0, 0)]) HO109 hs106 [0] rfl rfl rfl
 replace hs106 := Step.lift (U := [(0, 0)]) hs106 [] rfl rfl
 generalize up (recol C90 11 0) C105 w89.heap.size [(0, 0)] = C105_ at HO109 hs106
 replace HS := HS.trans hs106 hc rfl
 (try simp only [ls0, ls1])
 refine mv_ rfl ?_
 refine st (.agg #[.int .i64 t94, .int .i64 t95, .int .i64 t96, .string t97, .string t98, .slice A107 t99.length cp108]) rfl rfl (xr_extract (.tuple #[.agg #[.int .i64 t94, .int .i64 t95, .int .i64 t96, .string t97, .string t98, .slice A107 t99.length cp108], .int .i64 t100, .int .i64 t101]) _ rfl rfl rfl) ?_
 refine st (.int .i64 t100) rfl rfl (xr_extract (.tuple #[.agg #[.int .i64 t94, .int .i64 t95, .int .i64 t96, .string t97, .string t98, .slice A107 t99.length cp108], .int .i64 t100, .int .i64 t101]) _ rfl rfl rfl) ?_
 refine st (.int .i64 t101) rfl rfl (xr_extract (.tuple #[.agg #[.int .i64 t94, .int .i64 t95, .int .i64 t96, .string t97, .string t98, .slice A107 t99.length cp108], .int .i64 t100, .int .i64 t101]) _ rfl rfl rfl) ?_
 simp only [ls0, ls1]
 refine bx_new (C := C105_) 44 ([.int .i64 0, .int .i64 0, .int .i64 0, .string (⟨#[]⟩ : ByteArray), .string (⟨#[]⟩ : ByteArray), .slice none 0 0]) 12 rfl rfl (by first | (go_simp; done) | (go_simp; rfl)) ?_
 intro g111 w112 C113 HX114 hs115
 replace HO109 := HO109.thru hs115 rfl
 replace HS := HS.trans hs115 hc rfl
 (try simp only [ls0, ls1])
 refine bx_store (C := C113) (z := 12) (g := g111) (j := 0) (tb := 44) (u := .agg #[.int .i64 t94, .int .i64 t95, .int .i64 t96, .string t97, .string t98, .slice A107 t99.length cp108]) (seg := [.int .i64 t94, .int .i64 t95, .int .i64 t96, .string t97, .string t98, .slice A107 t99.length cp108]) (xs := [.int .i64 0, .int .i64 0, .int .i64 0, .string (⟨#[]⟩ : ByteArray), .string (⟨#[]⟩ : ByteArray), .slice none 0 0]) rfl rfl rfl rfl rfl rfl (by first | kernel_rfl | rfl) (by simp [Value.oneCell']) HX114 (by simp only [List.length_cons, List.length_nil]; omega) rfl ?_
 intro w116 HX117 hs118
 replace HO109 := HO109.thru hs118 rfl
 replace HS := HS.trans hs118 hc rfl
 (try simp only [ls0, ls1])
 refine as_ rfl ?_
 refine as_ rfl ?_
 refine wl_end ?_
 (try simp only [ls0, ls1])
 refine hK84 _ _ ?_
 (try clear hK84 K84)
 refine wp_seq_k fun K119 hK119 => ?_
 refine wl_region ?_
 obtain ⟨y120, A121, H⟩ := bnd H
 refine own_litconv (C := C113) 5 rfl rfl (xs := [102, 40]) (inner := [.int .u8 102, .int .u8 40]) (by first | (go_simp; done) | (go_simp; rfl)) rfl 22 rfl _ rfl rfl Try.underlying22 Try.underlying5 (by simp only [List.length_cons, List.length_nil]; omega) 13 (Option.some.inj A121) ?_
 intro A122 cp123 w124 C125 HO126 HC127 hs128
 replace HO109 := HO109.thru hs128 rfl
 replace HX117 := HX117.thru hs128 rfl
 replace HS := HS.trans hs128 hc rfl
 (try simp only [Act.put, List.setIfInBounds_toArray, ls0, ls1])
 (try simp only [ls0, ls1])
 replace HO109 := Ft.recol (a := 13) (b := 0) HO109 (.inl rfl)
 replace HX117 := Bx.recol (a := 13) (b := 0) HX117 (by decide)
 replace HO126 := Ft.recolor (a := 13) (b := 0) HO126 [0] rfl
 replace HS := Step.recol (a := 13) (b := 0) HS hc (by decide)
 obtain ⟨⟨t129, t130, t131, t132, t133, t134, t135, t136⟩, A137, H⟩ := bnd H
 (try dsimp only at H)
 refine st_call #[.slice A122 y120.length cp123] rfl rfl Try.func33 (by kernel_rfl) rfl rfl (mp_ rfl) ?_
 refine (expr_Parse.calls k A122 cp123 y120 t129 t130 t131 t132 t133 t134 t135 t136  (fun z_ => pal [(0, 0)] ((recol C125 13 0) z_)) w124 (fun _ => pal_lt rfl _) (Ft.arg HO126 rfl) HC127 A137).mono ?_
 rintro _ w139 ⟨C140, A142, cp143, rfl, hs141, HO144, HC145⟩
 refine ⟨_, rfl, ?_⟩
 replace HO144 := Ft.res (U := [(0, 0)]) HO144 hs141 [0] rfl rfl rfl
 replace hs141 := Step.lift (U := [(0, 0)]) hs141 [] rfl rfl
 generalize up (recol C125 13 0) C140 w124.heap.size [(0, 0)] = C140_ at HO144 hs141
 replace HO109 := HO109.thru hs141 rfl
 replace HX117 := HX117.thru hs141 rfl
 replace HS := HS.trans hs141 hc rfl
 (try simp only [ls0, ls1])
 refine mv_ rfl ?_
 refine st (.agg #[.int .i64 t129, .int .i64 t130, .int .i64 t131, .string t132, .string t133, .slice A142 t134.length cp143]) rfl rfl (xr_extract (.tuple #[.agg #[.int .i64 t129, .int .i64 t130, .int .i64 t131, .string t132, .string t133, .slice A142 t134.length cp143], .int .i64 t135, .int .i64 t136]) _ rfl rfl rfl) ?_
 refine st (.int .i64 t135) rfl rfl (xr_extract (.tuple #[.agg #[.int .i64 t129, .int .i64 t130, .int .i64 t131, .string t132, .string t133, .slice A142 t134.length cp143], .int .i64 t135, .int .i64 t136]) _ rfl rfl rfl) ?_
 refine st (.int .i64 t136) rfl rfl (xr_extract (.tuple #[.agg #[.int .i64 t129, .int .i64 t130, .int .i64 t131, .string t132, .string t133, .slice A142 t134.length cp143], .int .i64 t135, .int .i64 t136]) _ rfl rfl rfl) ?_
 simp only [ls0, ls1]
 refine bx_new (C := C140_) 44 ([.int .i64 0, .int .i64 0, .int .i64 0, .string (⟨#[]⟩ : ByteArray), .string (⟨#[]⟩ : ByteArray), .slice none 0 0]) 14 rfl rfl (by first | (go_simp; done) | (go_simp; rfl)) ?_
 intro g146 w147 C148 HX149 hs150
 replace HO109 := HO109.thru hs150 rfl
 replace HX117 := HX117.thru hs150 rfl
 replace HO144 := HO144.thru hs150 rfl
 replace HS := HS.trans hs150 hc rfl
 (try simp only [ls0, ls1])
 refine bx_store (C := C148) (z := 14) (g := g146) (j := 0) (tb := 44) (u := .agg #[.int .i64 t129, .int .i64 t130, .int .i64 t131, .string t132, .string t133, .slice A142 t134.length cp143]) (seg := [.int .i64 t129, .int .i64 t130, .int .i64 t131, .string t132, .string t133, .slice A142 t134.length cp143]) (xs := [.int .i64 0, .int .i64 0, .int .i64 0, .string (⟨#[]⟩ : ByteArray), .string (⟨#[]⟩ : ByteArray), .slice none 0 0]) rfl rfl rfl rfl rfl rfl (by first | kernel_rfl | rfl) (by simp [Value.oneCell']) HX149 (by simp only [List.length_cons, List.length_nil]; omega) rfl ?_
 intro w151 HX152 hs153
 replace HO109 := HO109.thru hs153 rfl
 replace HX117 := HX117.thru hs153 rfl
 replace HO144 := HO144.thru hs153 rfl
 replace HS := HS.trans hs153 hc rfl
 (try simp only [ls0, ls1])
 refine as_ rfl ?_
 refine as_ rfl ?_
 refine wl_end ?_
 (try simp only [ls0, ls1])
 refine hK119 _ _ ?_
 (try clear hK119 K119)
 refine wp_seq_k fun K154 hK154 => ?_
 refine wl_region ?_
 refine mv_ rfl ?_
 refine st (.bool (decide (t101 = 0))) rfl rfl (xr_bin _ _ _ rfl rfl rfl (B.eql_i64 _ _)) ?_
 refine mv_ rfl ?_
 by_cases c155 : t101 = 0
 ·rw [if_pos c155] at H
  (try rw [(decide_eq_true c155)])
  refine on_guard (guard_on 2 true 23 rfl rfl rfl) ?_
  refine st (.pointer (some ⟨g111, 3, none⟩)) rfl rfl (xr_fieldAddr _ _ rfl rfl (bx_field2 Try.underlying44 rfl rfl (by kernel_rfl))) ?_
  simp only [ls0, ls1]
  refine on_guard (guard_on 2 true 23 rfl rfl rfl) ?_
  refine st (.string t97) rfl rfl (xr_load _ _ rfl rfl (load_cell Try.underlying9 rfl (bx_cell (HX117).2 3 rfl))) ?_
  refine on_guard (guard_on 2 true 23 rfl rfl rfl) ?_
  refine st (.bool (decide (t97 = (⟨#[43]⟩ : ByteArray)))) rfl rfl (xr_bin _ _ _ rfl rfl rfl (B.eql_str _ _)) ?_
  refine st (.bool (decide (t97 = (⟨#[43]⟩ : ByteArray)))) rfl rfl (xr_pick true _ rfl rfl rfl) ?_
  refine mv_ rfl ?_
  simp only [ls0, ls1]
  by_cases c156 : t97 = (⟨#[43]⟩ : ByteArray)
  ·rw [if_pos c156] at H
   (try rw [(decide_eq_true c156)])
   refine on_guard (guard_on 7 true 28 rfl rfl rfl) ?_
   refine st (.pointer (some ⟨g111, 5, none⟩)) rfl rfl (xr_fieldAddr _ _ rfl rfl (bx_field2 Try.underlying44 rfl rfl (by kernel_rfl))) ?_
   refine on_guard (guard_on 7 true 28 rfl rfl rfl) ?_
   refine st (.slice A107 t99.length cp108) rfl rfl (xr_load _ _ rfl rfl (load_cell Try.underlying42 rfl (bx_cell (HX117).2 5 rfl))) ?_
   refine on_guard (guard_on 7 true 28 rfl rfl rfl) ?_
   refine st (.int .i64 (t99.length : Int)) rfl rfl (xr_builtin #[.slice A107 t99.length cp108] (.int .i64 (t99.length : Int)) rfl (mp_ rfl) (by first | rfl | (go_simp; done) | (go_simp; rfl) | (go_simp; exact i64_w _) | (go_simp; exact i32_w _))) ?_
   refine on_guard (guard_on 7 true 28 rfl rfl rfl) ?_
   refine st (.bool (decide ((t99.length : Int) = 2))) rfl rfl (xr_bin _ _ _ rfl rfl rfl (B.eql_i64 _ _)) ?_
   simp only [ls0, ls1]
   refine st (.bool (decide ((t99.length : Int) = 2))) rfl rfl (xr_pick true _ rfl rfl rfl) ?_
   refine mv_ rfl ?_
   by_cases c157 : (t99.length : Int) = 2
   ·rw [if_pos c157] at H
    (try rw [(decide_eq_true c157)])
    refine on_guard (guard_on 13 true 34 rfl rfl rfl) ?_
    refine st (.pointer (some ⟨g111, 5, none⟩)) rfl rfl (xr_fieldAddr _ _ rfl rfl (bx_field2 Try.underlying44 rfl rfl (by kernel_rfl))) ?_
    refine on_guard (guard_on 13 true 34 rfl rfl rfl) ?_
    refine st (.slice A107 t99.length cp108) rfl rfl (xr_load _ _ rfl rfl (load_cell Try.underlying42 rfl (bx_cell (HX117).2 5 rfl))) ?_
    simp only [ls0, ls1]
    refine on_guard (guard_on 13 true 34 rfl rfl rfl) ?_
    obtain ⟨c158, H⟩ := if_some H
    obtain ⟨ad159, hA160⟩ := c_addr (Ft.now HO109) (pos_of (j := 1) (by first | assumption | decide) (by first | assumption | omega))
    refine st (.pointer (some (ad159.add ((1 : Int).toNat * 6)))) rfl rfl (xr_indexAddr _ _ _ rfl rfl rfl (index_at Try.underlying42 info44 hA160 (by first | assumption | decide | omega) (by first | assumption | decide | omega))) ?_
    refine on_guard (guard_on 13 true 34 rfl rfl rfl) ?_
    refine st (.pointer (some ((ad159.add ((1 : Int).toNat * 6)).add 3))) rfl rfl (xr_fieldAddr _ _ rfl rfl (field_at2 Try.underlying44 rfl rfl (by kernel_rfl))) ?_
    refine on_guard (guard_on 13 true 34 rfl rfl rfl) ?_
    obtain ⟨csq162, _, hKq162, hcq162, hinq162⟩ := Ft.elem HO109 hA160 z44 1 (by first | assumption | decide | omega) (by first | assumption | decide | omega) (by decide)
    obtain ⟨Aq162_5, cpq162_5, rfl, HCq162_5, HRq162_5⟩ := k44_openF hKq162
    replace HRq162_5 : Ft C148 [0] w151 (fun w_ => k44.C w_ Aq162_5 (rd_T44 t99 1).f5.length (rd_T44 t99 1).f5) := HRq162_5
    refine st (.string ((rd_T44 t99 1).f3)) rfl rfl (xr_load (.pointer (some ((ad159.add ((1 : Int).toNat * 6)).add 3))) (.string ((rd_T44 t99 1).f3)) rfl rfl (load_cell Try.underlying9 rfl (hcq162 3 _ rfl))) ?_
    refine on_guard (guard_on 13 true 34 rfl rfl rfl) ?_
    refine st (.bool (decide (((rd_T44 t99 1).f3) = (⟨#[42]⟩ : ByteArray)))) rfl rfl (xr_bin _ _ _ rfl rfl rfl (B.eql_str _ _)) ?_
    simp only [ls0, ls1]
    refine st (.bool (decide (((rd_T44 t99 1).f3) = (⟨#[42]⟩ : ByteArray)))) rfl rfl (xr_pick true _ rfl rfl rfl) ?_
    refine mv_ rfl ?_
    by_cases c163 : ((rd_T44 t99 1).f3) = (⟨#[42]⟩ : ByteArray)
    ·rw [if_pos c163] at H
     (try rw [(decide_eq_true c163)])
     refine on_guard (guard_on 21 true 42 rfl rfl rfl) ?_
     refine mv_ rfl ?_
     refine on_guard (guard_on 21 true 42 rfl rfl rfl) ?_
     refine st (.bool (decide (t136 = 11))) rfl rfl (xr_bin _ _ _ rfl rfl rfl (B.eql_i64 _ _)) ?_
     simp only [ls0, ls1]
     refine st (.bool (decide (t136 = 11))) rfl rfl (xr_pick true _ rfl rfl rfl) ?_
     refine mv_ rfl ?_
     by_cases c164 : t136 = 11
     ·rw [if_pos c164] at H
      (try rw [(decide_eq_true c164)])
      refine on_guard (guard_on 25 true 46 rfl rfl rfl) ?_
      refine mv_ rfl ?_
      refine on_guard (guard_on 25 true 46 rfl rfl rfl) ?_
      refine st (.bool (decide (t135 = 2))) rfl rfl (xr_bin _ _ _ rfl rfl rfl (B.eql_i64 _ _)) ?_
      simp only [ls0, ls1]
      refine st (.bool (decide (t135 = 2))) rfl rfl (xr_pick true _ rfl rfl rfl) ?_
      refine as_ rfl ?_
      refine wl_end ?_
      (try simp only [ls0, ls1])
      refine hK154 _ _ ?_
      (try clear hK154 K154)
      refine wp_ret ?_
      (try simp only [Exit.inBlock, Exit.then, Exit.noGoto])
      (try simp only [ls0, ls1])
      obtain rfl := Option.some.inj H
      refine bodyPost_ret (results_tmp rfl _ _ _) rfl ?_
      exact ⟨_, rfl, HS⟩
     rw [if_neg c164] at H
     (try rw [(decide_eq_false c164)])
     refine sk_guard (guard_off 25 true 46 rfl rfl false (by decide) rfl) rfl ?_
     refine sk_guard (guard_off 25 true 46 rfl rfl false (by decide) rfl) rfl ?_
     refine st (.bool false) rfl rfl (xr_pick false _ rfl rfl rfl) ?_
     refine as_ rfl ?_
     simp only [ls0, ls1]
     refine wl_end ?_
     (try simp only [ls0, ls1])
     refine hK154 _ _ ?_
     (try clear hK154 K154)
     refine wp_ret ?_
     (try simp only [Exit.inBlock, Exit.then, Exit.noGoto])
     (try simp only [ls0, ls1])
     obtain rfl := Option.some.inj H
     refine bodyPost_ret (results_tmp rfl _ _ _) rfl ?_
     exact ⟨_, rfl, HS⟩
    rw [if_neg c163] at H
    (try rw [(decide_eq_false c163)])
    refine sk_guard (guard_off 21 true 42 rfl rfl false (by decide) rfl) rfl ?_
    refine sk_guard (guard_off 21 true 42 rfl rfl false (by decide) rfl) rfl ?_
    refine st (.bool false) rfl rfl (xr_pick false _ rfl rfl rfl) ?_
    refine mv_ rfl ?_
    simp only [ls0, ls1]
    refine sk_guard (guard_off 25 true 46 rfl rfl false (by decide) rfl) rfl ?_
    refine sk_guard (guard_off 25 true 46 rfl rfl false (by decide) rfl) rfl ?_
    refine st (.bool false) rfl rfl (xr_pick false _ rfl rfl rfl) ?_
    refine as_ rfl ?_
    simp only [ls0, ls1]
    refine wl_end ?_
    (try simp only [ls0, ls1])
    refine hK154 _ _ ?_
    (try clear hK154 K154)
    refine wp_ret ?_
    (try simp only [Exit.inBlock, Exit.then, Exit.noGoto])
    (try simp only [ls0, ls1])
    obtain rfl := Option.some.inj H
    refine bodyPost_ret (results_tmp rfl _ _ _) rfl ?_
    exact ⟨_, rfl, HS⟩
   rw [if_neg c157] at H
   (try rw [(decide_eq_false c157)])
   refine sk_guard (guard_off 13 true 34 rfl rfl false (by decide) rfl) rfl ?_
   refine sk_guard (guard_off 13 true 34 rfl rfl false (by decide) rfl) rfl ?_
   refine sk_guard (guard_off 13 true 34 rfl rfl false (by decide) rfl) rfl ?_
   refine sk_guard (guard_off 13 true 34 rfl rfl false (by decide) rfl) rfl ?_
   simp only [ls0, ls1]
   refine sk_guard (guard_off 13 true 34 rfl rfl false (by decide) rfl) rfl ?_
   refine sk_guard (guard_off 13 true 34 rfl rfl false (by decide) rfl) rfl ?_
   refine st (.bool false) rfl rfl (xr_pick false _ rfl rfl rfl) ?_
   refine mv_ rfl ?_
   simp only [ls0, ls1]
   refine sk_guard (guard_off 21 true 42 rfl rfl false (by decide) rfl) rfl ?_
   refine sk_guard (guard_off 21 true 42 rfl rfl false (by decide) rfl) rfl ?_
   refine st (.bool false) rfl rfl (xr_pick false _ rfl rfl rfl) ?_
   refine mv_ rfl ?_
   simp only [ls0, ls1]
   refine sk_guard (guard_off 25 true 46 rfl rfl false (by decide) rfl) rfl ?_
   refine sk_guard (guard_off 25 true 46 rfl rfl false (by decide) rfl) rfl ?_
   refine st (.bool false) rfl rfl (xr_pick false _ rfl rfl rfl) ?_
   refine as_ rfl ?_
   simp only [ls0, ls1]
   refine wl_end ?_
   (try simp only [ls0, ls1])
   refine hK154 _ _ ?_
   (try clear hK154 K154)
   refine wp_ret ?_
   (try simp only [Exit.inBlock, Exit.then, Exit.noGoto])
   (try simp only [ls0, ls1])
   obtain rfl := Option.some.inj H
   refine bodyPost_ret (results_tmp rfl _ _ _) rfl ?_
   exact ⟨_, rfl, HS⟩
  rw [if_neg c156] at H
  (try rw [(decide_eq_false c156)])
  refine sk_guard (guard_off 7 true 28 rfl rfl false (by decide) rfl) rfl ?_
  refine sk_guard (guard_off 7 true 28 rfl rfl false (by decide) rfl) rfl ?_
  refine sk_guard (guard_off 7 true 28 rfl rfl false (by decide) rfl) rfl ?_
  refine sk_guard (guard_off 7 true 28 rfl rfl false (by decide) rfl) rfl ?_
  simp only [ls0, ls1]
  refine st (.bool false) rfl rfl (xr_pick false _ rfl rfl rfl) ?_
  refine mv_ rfl ?_
  refine sk_guard (guard_off 13 true 34 rfl rfl false (by decide) rfl) rfl ?_
  refine sk_guard (guard_off 13 true 34 rfl rfl false (by decide) rfl) rfl ?_
  simp only [ls0, ls1]
  refine sk_guard (guard_off 13 true 34 rfl rfl false (by decide) rfl) rfl ?_
  refine sk_guard (guard_off 13 true 34 rfl rfl false (by decide) rfl) rfl ?_
  refine sk_guard (guard_off 13 true 34 rfl rfl false (by decide) rfl) rfl ?_
  refine sk_guard (guard_off 13 true 34 rfl rfl false (by decide) rfl) rfl ?_
  simp only [ls0, ls1]
  refine st (.bool false) rfl rfl (xr_pick false _ rfl rfl rfl) ?_
  refine mv_ rfl ?_
  refine sk_guard (guard_off 21 true 42 rfl rfl false (by decide) rfl) rfl ?_
  refine sk_guard (guard_off 21 true 42 rfl rfl false (by decide) rfl) rfl ?_
  simp only [ls0, ls1]
  refine st (.bool false) rfl rfl (xr_pick false _ rfl rfl rfl) ?_
  refine mv_ rfl ?_
  refine sk_guard (guard_off 25 true 46 rfl rfl false (by decide) rfl) rfl ?_
  refine sk_guard (guard_off 25 true 46 rfl rfl false (by decide) rfl) rfl ?_
  simp only [ls0, ls1]
  refine st (.bool false) rfl rfl (xr_pick false _ rfl rfl rfl) ?_
  refine as_ rfl ?_
  refine wl_end ?_
  (try simp only [ls0, ls1])
  refine hK154 _ _ ?_
  (try clear hK154 K154)
  refine wp_ret ?_
  (try simp only [Exit.inBlock, Exit.then, Exit.noGoto])
  (try simp only [ls0, ls1])
  obtain rfl := Option.some.inj H
  refine bodyPost_ret (results_tmp rfl _ _ _) rfl ?_
  exact ⟨_, rfl, HS⟩
 rw [if_neg c155] at H
 (try rw [(decide_eq_false c155)])
 refine sk_guard (guard_off 2 true 23 rfl rfl false (by decide) rfl) rfl ?_
 refine sk_guard (guard_off 2 true 23 rfl rfl false (by decide) rfl) rfl ?_
 refine sk_guard (guard_off 2 true 23 rfl rfl false (by decide) rfl) rfl ?_
 refine st (.bool false) rfl rfl (xr_pick false _ rfl rfl rfl) ?_
 simp only [ls0, ls1]
 refine mv_ rfl ?_
 refine sk_guard (guard_off 7 true 28 rfl rfl false (by decide) rfl) rfl ?_
 refine sk_guard (guard_off 7 true 28 rfl rfl false (by decide) rfl) rfl ?_
 refine sk_guard (guard_off 7 true 28 rfl rfl false (by decide) rfl) rfl ?_
 simp only [ls0, ls1]
 refine sk_guard (guard_off 7 true 28 rfl rfl false (by decide) rfl) rfl ?_
 refine st (.bool false) rfl rfl (xr_pick false _ rfl rfl rfl) ?_
 refine mv_ rfl ?_
 refine sk_guard (guard_off 13 true 34 rfl rfl false (by decide) rfl) rfl ?_
 simp only [ls0, ls1]
 refine sk_guard (guard_off 13 true 34 rfl rfl false (by decide) rfl) rfl ?_
 refine sk_guard (guard_off 13 true 34 rfl rfl false (by decide) rfl) rfl ?_
 refine sk_guard (guard_off 13 true 34 rfl rfl false (by decide) rfl) rfl ?_
 refine sk_guard (guard_off 13 true 34 rfl rfl false (by decide) rfl) rfl ?_
 simp only [ls0, ls1]
 refine sk_guard (guard_off 13 true 34 rfl rfl false (by decide) rfl) rfl ?_
 refine st (.bool false) rfl rfl (xr_pick false _ rfl rfl rfl) ?_
 refine mv_ rfl ?_
 refine sk_guard (guard_off 21 true 42 rfl rfl false (by decide) rfl) rfl ?_
 simp only [ls0, ls1]
 refine sk_guard (guard_off 21 true 42 rfl rfl false (by decide) rfl) rfl ?_
 refine st (.bool false) rfl rfl (xr_pick false _ rfl rfl rfl) ?_
 refine mv_ rfl ?_
 refine sk_guard (guard_off 25 true 46 rfl rfl false (by decide) rfl) rfl ?_
 simp only [ls0, ls1]
 refine sk_guard (guard_off 25 true 46 rfl rfl false (by decide) rfl) rfl ?_
 refine st (.bool false) rfl rfl (xr_pick false _ rfl rfl rfl) ?_
 refine as_ rfl ?_
 refine wl_end ?_
 (try simp only [ls0, ls1])
 refine hK154 _ _ ?_
 (try clear hK154 K154)
 refine wp_ret ?_
 (try simp only [Exit.inBlock, Exit.then, Exit.noGoto])
 (try simp only [ls0, ls1])
 obtain rfl := Option.some.inj H
 refine bodyPost_ret (results_tmp rfl _ _ _) rfl ?_
 exact ⟨_, rfl, HS⟩

structure Rec_blazonref08_Same where
  blazonref08_Same : Int → Int → Int → ByteArray → ByteArray → (List (S44)) → Int → Int → Int → ByteArray → ByteArray → (List (S44)) → Option (Bool)
  blazonref08_SameAll : (List (S44)) → (List (S44)) → Option (Bool)
structure Rec_blazonref08_Same.Good (r_ : Rec_blazonref08_Same) : Prop where
  blazonref08_Same : ∀ (a0_0 : Int) (a0_1 : Int) (a0_2 : Int) (a0_3 : ByteArray) (a0_4 : ByteArray) (A0_5 : Option Addr) (c0_5 : Nat) (l0_5 : List (S44)) (a1_0 : Int) (a1_1 : Int) (a1_2 : Int) (a1_3 : ByteArray) (a1_4 : ByteArray) (A1_5 : Option Addr) (c1_5 : Nat) (l1_5 : List (S44)) (r : Bool) (c : Nat → Nat) (w : World) (hc : ∀ k, c k < 10) (HP0_5 : Ft c [0] w (fun w_ => k44.C w_ A0_5 l0_5.length l0_5)) (HCP0_5 : l0_5.length ≤ c0_5) (HP1_5 : Ft c [0] w (fun w_ => k44.C w_ A1_5 l1_5.length l1_5)) (HCP1_5 : l1_5.length ≤ c1_5) (H : r_.blazonref08_Same a0_0 a0_1 a0_2 a0_3 a0_4 l0_5 a1_0 a1_1 a1_2 a1_3 a1_4 l1_5 = some r),
    Calls Try.prog 35 #[.agg #[.int .i64 a0_0, .int .i64 a0_1, .int .i64 a0_2, .string a0_3, .string a0_4, .slice A0_5 l0_5.length c0_5], .agg #[.int .i64 a1_0, .int .i64 a1_1, .int .i64 a1_2, .string a1_3, .string a1_4, .slice A1_5 l1_5.length c1_5]] w fun e w' => ∃ (c' : Nat → Nat) , e = .returned (.bool r) ∧ Step c w c' w' []
  blazonref08_SameAll : ∀ (A0 : Option Addr) (c0 : Nat) (l0 : List (S44)) (A1 : Option Addr) (c1 : Nat) (l1 : List (S44)) (r : Bool) (c : Nat → Nat) (w : World) (hc : ∀ k, c k < 10) (HP0 : Ft c [0] w (fun w_ => k44.C w_ A0 l0.length l0)) (HCP0 : l0.length ≤ c0) (HP1 : Ft c [0] w (fun w_ => k44.C w_ A1 l1.length l1)) (HCP1 : l1.length ≤ c1) (H : r_.blazonref08_SameAll l0 l1 = some r),
    Calls Try.prog 80 #[.slice A0 l0.length c0, .slice A1 l1.length c1] w fun e w' => ∃ (c' : Nat → Nat) , e = .returned (.bool r) ∧ Step c w c' w' []

/-! ### blazonref08_Same: function 35 -/
def blazonref08_Same.j0 (r_ : Rec_blazonref08_Same) : Nat → (List (S44)) → (List (S44)) → Bool → Option (Bool)
  | 0, _, _, _ => none
  | k + 1, l0_5, l1_5, x64 => if x64 = true then (some false) else ((r_.blazonref08_SameAll l0_5 l1_5).bind fun t75 => (some t75))
def blazonref08_Same.g (r_ : Rec_blazonref08_Same) (k : Nat) (a0_0 : Int) (a0_1 : Int) (a0_2 : Int) (a0_3 : ByteArray) (a0_4 : ByteArray) (l0_5 : List (S44)) (a1_0 : Int) (a1_1 : Int) (a1_2 : Int) (a1_3 : ByteArray) (a1_4 : ByteArray) (l1_5 : List (S44)) : Option (Bool) := if a0_0 = a1_0 then (if a0_1 = a1_1 then (if a0_2 = a1_2 then (if a0_3 = a1_3 then (blazonref08_Same.j0 r_ k l0_5 l1_5 (!decide (a0_4 = a1_4))) else (blazonref08_Same.j0 r_ k l0_5 l1_5 true)) else (blazonref08_Same.j0 r_ k l0_5 l1_5 true)) else (blazonref08_Same.j0 r_ k l0_5 l1_5 true)) else (blazonref08_Same.j0 r_ k l0_5 l1_5 true)

set_option maxHeartbeats 8000000 in
set_option maxRecDepth 100000 in
theorem blazonref08_Same.step (r_ : Rec_blazonref08_Same) (IH : Rec_blazonref08_Same.Good r_) (k : Nat) (a0_0 : Int) (a0_1 : Int) (a0_2 : Int) (a0_3 : ByteArray) (a0_4 : ByteArray) (A0_5 : Option Addr) (c0_5 : Nat) (l0_5 : List (S44)) (a1_0 : Int) (a1_1 : Int) (a1_2 : Int) (a1_3 : ByteArray) (a1_4 : ByteArray) (A1_5 : Option Addr) (c1_5 : Nat) (l1_5 : List (S44)) (r : Bool) (c : Nat → Nat) (w : World) (hc : ∀ k, c k < 10) (HP0_5 : Ft c [0] w (fun w_ => k44.C w_ A0_5 l0_5.length l0_5)) (HCP0_5 : l0_5.length ≤ c0_5) (HP1_5 : Ft c [0] w (fun w_ => k44.C w_ A1_5 l1_5.length l1_5)) (HCP1_5 : l1_5.length ≤ c1_5) (H : blazonref08_Same.g r_ k a0_0 a0_1 a0_2 a0_3 a0_4 l0_5 a1_0 a1_1 a1_2 a1_3 a1_4 l1_5 = some r) :
    Calls Try.prog 35 #[.agg #[.int .i64 a0_0, .int .i64 a0_1, .int .i64 a0_2, .string a0_3, .string a0_4, .slice A0_5 l0_5.length c0_5], .agg #[.int .i64 a1_0, .int .i64 a1_1, .int .i64 a1_2, .string a1_3, .string a1_4, .slice A1_5 l1_5.length c1_5]] w fun e w' => ∃ (c' : Nat → Nat) , e = .returned (.bool r) ∧ Step c w c' w' [] := by
 unfold blazonref08_Same.g at H
 have HS := Step.refl c w []
 go_enter Try.func35, Try.ntmps35
 refine wp_seq_k fun K43 hK43 => ?_
 refine wl_region ?_
 refine bx_new (C := c) 44 ([.int .i64 a0_0, .int .i64 a0_1, .int .i64 a0_2, .string a0_3, .string a0_4, .slice A0_5 l0_5.length c0_5]) 11 rfl rfl (by first | (go_simp; done) | (go_simp; rfl)) ?_
 intro g44 w45 C46 HX47 hs48
 replace HP0_5 := HP0_5.thru hs48 rfl
 replace HP1_5 := HP1_5.thru hs48 rfl
 replace HS := HS.trans hs48 hc rfl
 (try simp only [ls0, ls1])
 refine bx_new (C := C46) 44 ([.int .i64 a1_0, .int .i64 a1_1, .int .i64 a1_2, .string a1_3, .string a1_4, .slice A1_5 l1_5.length c1_5]) 12 rfl rfl (by first | (go_simp; done) | (go_simp; rfl)) ?_
 intro g49 w50 C51 HX52 hs53
 replace HP0_5 := HP0_5.thru hs53 rfl
 replace HP1_5 := HP1_5.thru hs53 rfl
 replace HX47 := HX47.thru hs53 rfl
 replace HS := HS.trans hs53 hc rfl
 (try simp only [ls0, ls1])
 refine st (.bool false) rfl rfl (xr_assign _ rfl rfl) ?_
 refine wl_end ?_
 (try simp only [ls0, ls1])
 refine hK43 _ _ ?_
 (try clear hK43 K43)
 refine wp_seq_k fun K54 hK54 => ?_
 refine wp_seq_k fun K55 hK55 => ?_
 have hj60 : ∀ (kq69 : Nat) (C61 : Nat → Nat) (w62 : World) (x64 : Bool) (g_ : Nat → Value), Step c w C61 w62 [] → kq69 ≤ k → (Ft C61 [0] w62 (fun w_ => k44.C w_ A0_5 l0_5.length l0_5)) → (Bx C61 11 w62 g44 44 ([.int .i64 a0_0, .int .i64 a0_1, .int .i64 a0_2, .string a0_3, .string a0_4, .slice A0_5 l0_5.length c0_5])) → (Ft C61 [0] w62 (fun w_ => k44.C w_ A1_5 l1_5.length l1_5)) → (Bx C61 12 w62 g49 44 ([.int .i64 a1_0, .int .i64 a1_1, .int .i64 a1_2, .string a1_3, .string a1_4, .slice A1_5 l1_5.length c1_5])) → blazonref08_Same.j0 r_ kq69 l0_5 l1_5 x64 = some r → K55 ⟨#[(g_ 0), (g_ 1), .pointer (some ⟨g44, 0, none⟩), .pointer (some ⟨g49, 0, none⟩), (g_ 4), (g_ 5), (g_ 6), (g_ 7), (g_ 8), (g_ 9), (g_ 10), (g_ 11), (g_ 12), (g_ 13), (g_ 14), (g_ 15), (g_ 16), (g_ 17), (g_ 18), (g_ 19), (g_ 20), (g_ 21), (g_ 22), (g_ 23), (g_ 24), (g_ 25), (g_ 26), (g_ 27), (g_ 28), (g_ 29), (g_ 30), (g_ 31), (g_ 32), (g_ 33), (g_ 34), (g_ 35), (g_ 36), .bool x64, (g_ 38), (g_ 39), (g_ 40), (g_ 41), (g_ 42)], []⟩ w62 := by
  intro kq69 C61 w62 x64 g_ HS63 hk70 HJ65 HJ66 HJ67 HJ68 H
  cases kq69 with
  | zero => exact absurd H (by simp [blazonref08_Same.j0])
  | succ k71 =>
   simp only [blazonref08_Same.j0] at H
   refine hK55 _ _ ?_
   (try clear hK55)
   by_cases c72 : x64 = true
   ·rw [if_pos c72] at H
    (try rw [c72])
    refine wp_cond_true rfl ?_
    refine wp_seq_k fun K73 hK73 => ?_
    refine wl_region ?_
    refine st (.bool false) rfl rfl (xr_assign _ rfl rfl) ?_
    simp only [ls0, ls1]
    refine wl_end ?_
    (try simp only [ls0, ls1])
    refine hK73 _ _ ?_
    (try clear hK73 K73)
    refine wp_ret ?_
    (try simp only [Exit.inBlock, Exit.then, Exit.noGoto])
    (try simp only [ls0, ls1])
    obtain rfl := Option.some.inj H
    refine bodyPost_ret (results_tmp rfl _ _ _) rfl ?_
    exact ⟨_, rfl, HS63⟩
   rw [if_neg c72] at H
   (try rw [(Bool.eq_false_iff.mpr c72)])
   refine wp_cond_false rfl ?_
   refine wp_skip ?_
   (try simp only [ls0, ls1])
   refine hK54 _ _ ?_
   (try clear hK54 K54)
   refine wp_seq_k fun K74 hK74 => ?_
   refine wl_region ?_
   refine st (.pointer (some ⟨g44, 5, none⟩)) rfl rfl (xr_fieldAddr _ _ rfl rfl (bx_field2 Try.underlying44 rfl rfl (by kernel_rfl))) ?_
   refine st (.slice A0_5 l0_5.length c0_5) rfl rfl (xr_load _ _ rfl rfl (load_cell Try.underlying42 rfl (bx_cell (HJ66).2 5 rfl))) ?_
   refine st (.pointer (some ⟨g49, 5, none⟩)) rfl rfl (xr_fieldAddr _ _ rfl rfl (bx_field2 Try.underlying44 rfl rfl (by kernel_rfl))) ?_
   refine st (.slice A1_5 l1_5.length c1_5) rfl rfl (xr_load _ _ rfl rfl (load_cell Try.underlying42 rfl (bx_cell (HJ68).2 5 rfl))) ?_
   simp only [ls0, ls1]
   obtain ⟨t75, A76, H⟩ := bnd H
   refine st_call #[.slice A0_5 l0_5.length c0_5, .slice A1_5 l1_5.length c1_5] rfl rfl Try.func80 (by kernel_rfl) rfl rfl (mp_ rfl) ?_
   refine (IH.blazonref08_SameAll A0_5 c0_5 l0_5 A1_5 c1_5 l1_5 t75  (fun z_ => pal [(0, 0)] (C61 z_)) w62 (fun _ => pal_lt rfl _) (Ft.arg HJ65 rfl) HCP0_5 (Ft.arg HJ67 rfl) HCP1_5 A76).mono ?_
   rintro _ w78 ⟨C79, rfl, hs80⟩
   refine ⟨_, rfl, ?_⟩
   replace hs80 := Step.lift (U := [(0, 0)]) hs80 [] rfl rfl
   generalize up C61 C79 w62.heap.size [(0, 0)] = C79_ at hs80
   replace HJ66 := HJ66.thru hs80 rfl
   replace HJ65 := HJ65.thru hs80 rfl
   replace HJ68 := HJ68.thru hs80 rfl
   replace HJ67 := HJ67.thru hs80 rfl
   replace HS63 := HS63.trans hs80 hc rfl
   (try simp only [ls0, ls1])
   refine as_ rfl ?_
   refine wl_end ?_
   (try simp only [ls0, ls1])
   refine hK74 _ _ ?_
   (try clear hK74 K74)
   refine wp_ret ?_
   (try simp only [Exit.inBlock, Exit.then, Exit.noGoto])
   (try simp only [ls0, ls1])
   obtain rfl := Option.some.inj H
   refine bodyPost_ret (results_tmp rfl _ _ _) rfl ?_
   exact ⟨_, rfl, HS63⟩
 refine wl_region ?_
 refine st (.pointer (some ⟨g44, 0, none⟩)) rfl rfl (xr_fieldAddr _ _ rfl rfl (bx_field2 Try.underlying44 rfl rfl (by kernel_rfl))) ?_
 refine st (.int .i64 a0_0) rfl rfl (xr_load _ _ rfl rfl (load_cell Try.underlying3 rfl (bx_cell (HX47).2 0 rfl))) ?_
 refine st (.pointer (some ⟨g49, 0, none⟩)) rfl rfl (xr_fieldAddr _ _ rfl rfl (bx_field2 Try.underlying44 rfl rfl (by kernel_rfl))) ?_
 refine st (.int .i64 a1_0) rfl rfl (xr_load _ _ rfl rfl (load_cell Try.underlying3 rfl (bx_cell (HX52).2 0 rfl))) ?_
 simp only [ls0, ls1]
 refine st (.bool (!decide (a0_0 = a1_0))) rfl rfl (xr_bin _ _ _ rfl rfl rfl (B.neq_i64 _ _)) ?_
 refine mv_ rfl ?_
 by_cases c81 : a0_0 = a1_0
 ·rw [if_pos c81] at H
  (try rw [(decide_eq_true c81)])
  (try simp only [Bool.not_true, Bool.not_false])
  refine on_guard (guard_on 5 false 10 rfl rfl rfl) ?_
  refine st (.pointer (some ⟨g44, 1, none⟩)) rfl rfl (xr_fieldAddr _ _ rfl rfl (bx_field2 Try.underlying44 rfl rfl (by kernel_rfl))) ?_
  refine on_guard (guard_on 5 false 10 rfl rfl rfl) ?_
  refine st (.int .i64 a0_1) rfl rfl (xr_load _ _ rfl rfl (load_cell Try.underlying3 rfl (bx_cell (HX47).2 1 rfl))) ?_
  simp only [ls0, ls1]
  refine on_guard (guard_on 5 false 10 rfl rfl rfl) ?_
  refine st (.pointer (some ⟨g49, 1, none⟩)) rfl rfl (xr_fieldAddr _ _ rfl rfl (bx_field2 Try.underlying44 rfl rfl (by kernel_rfl))) ?_
  refine on_guard (guard_on 5 false 10 rfl rfl rfl) ?_
  refine st (.int .i64 a1_1) rfl rfl (xr_load _ _ rfl rfl (load_cell Try.underlying3 rfl (bx_cell (HX52).2 1 rfl))) ?_
  refine on_guard (guard_on 5 false 10 rfl rfl rfl) ?_
  refine st (.bool (!decide (a0_1 = a1_1))) rfl rfl (xr_bin _ _ _ rfl rfl rfl (B.neq_i64 _ _)) ?_
  refine st (.bool (!decide (a0_1 = a1_1))) rfl rfl (xr_pick false _ rfl rfl rfl) ?_
  simp only [ls0, ls1]
  refine mv_ rfl ?_
  by_cases c82 : a0_1 = a1_1
  ·rw [if_pos c82] at H
   (try rw [(decide_eq_true c82)])
   (try simp only [Bool.not_true, Bool.not_false])
   refine on_guard (guard_on 12 false 17 rfl rfl rfl) ?_
   refine st (.pointer (some ⟨g44, 2, none⟩)) rfl rfl (xr_fieldAddr _ _ rfl rfl (bx_field2 Try.underlying44 rfl rfl (by kernel_rfl))) ?_
   refine on_guard (guard_on 12 false 17 rfl rfl rfl) ?_
   refine st (.int .i64 a0_2) rfl rfl (xr_load _ _ rfl rfl (load_cell Try.underlying2 rfl (bx_cell (HX47).2 2 rfl))) ?_
   refine on_guard (guard_on 12 false 17 rfl rfl rfl) ?_
   refine st (.pointer (some ⟨g49, 2, none⟩)) rfl rfl (xr_fieldAddr _ _ rfl rfl (bx_field2 Try.underlying44 rfl rfl (by kernel_rfl))) ?_
   simp only [ls0, ls1]
   refine on_guard (guard_on 12 false 17 rfl rfl rfl) ?_
   refine st (.int .i64 a1_2) rfl rfl (xr_load _ _ rfl rfl (load_cell Try.underlying2 rfl (bx_cell (HX52).2 2 rfl))) ?_
   refine on_guard (guard_on 12 false 17 rfl rfl rfl) ?_
   refine st (.bool (!decide (a0_2 = a1_2))) rfl rfl (xr_bin _ _ _ rfl rfl rfl (B.neq_i64 _ _)) ?_
   refine st (.bool (!decide (a0_2 = a1_2))) rfl rfl (xr_pick false _ rfl rfl rfl) ?_
   refine mv_ rfl ?_
   simp only [ls0, ls1]
   by_cases c83 : a0_2 = a1_2
   ·rw [if_pos c83] at H
    (try rw [(decide_eq_true c83)])
    (try simp only [Bool.not_true, Bool.not_false])
    refine on_guard (guard_on 19 false 24 rfl rfl rfl) ?_
    refine st (.pointer (some ⟨g44, 3, none⟩)) rfl rfl (xr_fieldAddr _ _ rfl rfl (bx_field2 Try.underlying44 rfl rfl (by kernel_rfl))) ?_
    refine on_guard (guard_on 19 false 24 rfl rfl rfl) ?_
    refine st (.string a0_3) rfl rfl (xr_load _ _ rfl rfl (load_cell Try.underlying9 rfl (bx_cell (HX47).2 3 rfl))) ?_
    refine on_guard (guard_on 19 false 24 rfl rfl rfl) ?_
    refine st (.pointer (some ⟨g49, 3, none⟩)) rfl rfl (xr_fieldAddr _ _ rfl rfl (bx_field2 Try.underlying44 rfl rfl (by kernel_rfl))) ?_
    refine on_guard (guard_on 19 false 24 rfl rfl rfl) ?_
    refine st (.string a1_3) rfl rfl (xr_load _ _ rfl rfl (load_cell Try.underlying9 rfl (bx_cell (HX52).2 3 rfl))) ?_
    simp only [ls0, ls1]
    refine on_guard (guard_on 19 false 24 rfl rfl rfl) ?_
    refine st (.bool (!decide (a0_3 = a1_3))) rfl rfl (xr_bin _ _ _ rfl rfl rfl (B.neq_str _ _)) ?_
    refine st (.bool (!decide (a0_3 = a1_3))) rfl rfl (xr_pick false _ rfl rfl rfl) ?_
    refine mv_ rfl ?_
    by_cases c84 : a0_3 = a1_3
    ·rw [if_pos c84] at H
     (try rw [(decide_eq_true c84)])
     (try simp only [Bool.not_true, Bool.not_false])
     refine on_guard (guard_on 26 false 31 rfl rfl rfl) ?_
     refine st (.pointer (some ⟨g44, 4, none⟩)) rfl rfl (xr_fieldAddr _ _ rfl rfl (bx_field2 Try.underlying44 rfl rfl (by kernel_rfl))) ?_
     simp only [ls0, ls1]
     refine on_guard (guard_on 26 false 31 rfl rfl rfl) ?_
     refine st (.string a0_4) rfl rfl (xr_load _ _ rfl rfl (load_cell Try.underlying9 rfl (bx_cell (HX47).2 4 rfl))) ?_
     refine on_guard (guard_on 26 false 31 rfl rfl rfl) ?_
     refine st (.pointer (some ⟨g49, 4, none⟩)) rfl rfl (xr_fieldAddr _ _ rfl rfl (bx_field2 Try.underlying44 rfl rfl (by kernel_rfl))) ?_
     refine on_guard (guard_on 26 false 31 rfl rfl rfl) ?_
     refine st (.string a1_4) rfl rfl (xr_load _ _ rfl rfl (load_cell Try.underlying9 rfl (bx_cell (HX52).2 4 rfl))) ?_
     refine on_guard (guard_on 26 false 31 rfl rfl rfl) ?_
     refine st (.bool (!decide (a0_4 = a1_4))) rfl rfl (xr_bin _ _ _ rfl rfl rfl (B.neq_str _ _)) ?_
     simp only [ls0, ls1]
     refine st (.bool (!decide (a0_4 = a1_4))) rfl rfl (xr_pick false _ rfl rfl rfl) ?_
     refine wl_end ?_
     (try simp only [ls0, ls1])
     exact jmp (fun g_ => hj60 _ _ _ (!decide (a0_4 = a1_4)) g_ HS (by omega) HP0_5 HX47 HP1_5 HX52 H) rfl
    rw [if_neg c84] at H
    (try rw [(decide_eq_false c84)])
    (try simp only [Bool.not_true, Bool.not_false])
    refine sk_guard (guard_off 26 false 31 rfl rfl true (by decide) rfl) rfl ?_
    refine sk_guard (guard_off 26 false 31 rfl rfl true (by decide) rfl) rfl ?_
    refine sk_guard (guard_off 26 false 31 rfl rfl true (by decide) rfl) rfl ?_
    refine sk_guard (guard_off 26 false 31 rfl rfl true (by decide) rfl) rfl ?_
    simp only [ls0, ls1]
    refine sk_guard (guard_off 26 false 31 rfl rfl true (by decide) rfl) rfl ?_
    refine st (.bool true) rfl rfl (xr_pick true _ rfl rfl rfl) ?_
    refine wl_end ?_
    (try simp only [ls0, ls1])
    exact jmp (fun g_ => hj60 _ _ _ (true) g_ HS (by omega) HP0_5 HX47 HP1_5 HX52 H) rfl
   rw [if_neg c83] at H
   (try rw [(decide_eq_false c83)])
   (try simp only [Bool.not_true, Bool.not_false])
   refine sk_guard (guard_off 19 false 24 rfl rfl true (by decide) rfl) rfl ?_
   refine sk_guard (guard_off 19 false 24 rfl rfl true (by decide) rfl) rfl ?_
   refine sk_guard (guard_off 19 false 24 rfl rfl true (by decide) rfl) rfl ?_
   refine sk_guard (guard_off 19 false 24 rfl rfl true (by decide) rfl) rfl ?_
   simp only [ls0, ls1]
   refine sk_guard (guard_off 19 false 24 rfl rfl true (by decide) rfl) rfl ?_
   refine st (.bool true) rfl rfl (xr_pick true _ rfl rfl rfl) ?_
   refine mv_ rfl ?_
   refine sk_guard (guard_off 26 false 31 rfl rfl true (by decide) rfl) rfl ?_
   simp only [ls0, ls1]
   refine sk_guard (guard_off 26 false 31 rfl rfl true (by decide) rfl) rfl ?_
   refine sk_guard (guard_off 26 false 31 rfl rfl true (by decide) rfl) rfl ?_
   refine sk_guard (guard_off 26 false 31 rfl rfl true (by decide) rfl) rfl ?_
   refine sk_guard (guard_off 26 false 31 rfl rfl true (by decide) rfl) rfl ?_
   simp only [ls0, ls1]
   refine st (.bool true) rfl rfl (xr_pick true _ rfl rfl rfl) ?_
   refine wl_end ?_
   (try simp only [ls0, ls1])
   exact jmp (fun g_ => hj60 _ _ _ (true) g_ HS (by omega) HP0_5 HX47 HP1_5 HX52 H) rfl
  rw [if_neg c82] at H
  (try rw [(decide_eq_false c82)])
  (try simp only [Bool.not_true, Bool.not_false])
  refine sk_guard (guard_off 12 false 17 rfl rfl true (by decide) rfl) rfl ?_
  refine sk_guard (guard_off 12 false 17 rfl rfl true (by decide) rfl) rfl ?_
  refine sk_guard (guard_off 12 false 17 rfl rfl true (by decide) rfl) rfl ?_
  refine sk_guard (guard_off 12 false 17 rfl rfl true (by decide) rfl) rfl ?_
  simp only [ls0, ls1]
  refine sk_guard (guard_off 12 false 17 rfl rfl true (by decide) rfl) rfl ?_
  refine st (.bool true) rfl rfl (xr_pick true _ rfl rfl rfl) ?_
  refine mv_ rfl ?_
  refine sk_guard (guard_off 19 false 24 rfl rfl true (by decide) rfl) rfl ?_
  simp only [ls0, ls1]
  refine sk_guard (guard_off 19 false 24 rfl rfl true (by decide) rfl) rfl ?_
  refine sk_guard (guard_off 19 false 24 rfl rfl true (by decide) rfl) rfl ?_
  refine sk_guard (guard_off 19 false 24 rfl rfl true (by decide) rfl) rfl ?_
  refine sk_guard (guard_off 19 false 24 rfl rfl true (by decide) rfl) rfl ?_
  simp only [ls0, ls1]
  refine st (.bool true) rfl rfl (xr_pick true _ rfl rfl rfl) ?_
  refine mv_ rfl ?_
  refine sk_guard (guard_off 26 false 31 rfl rfl true (by decide) rfl) rfl ?_
  refine sk_guard (guard_off 26 false 31 rfl rfl true (by decide) rfl) rfl ?_
  simp only [ls0, ls1]
  refine sk_guard (guard_off 26 false 31 rfl rfl true (by decide) rfl) rfl ?_
  refine sk_guard (guard_off 26 false 31 rfl rfl true (by decide) rfl) rfl ?_
  refine sk_guard (guard_off 26 false 31 rfl rfl true (by decide) rfl) rfl ?_
  refine st (.bool true) rfl rfl (xr_pick true _ rfl rfl rfl) ?_
  simp only [ls0, ls1]
  refine wl_end ?_
  (try simp only [ls0, ls1])
  exact jmp (fun g_ => hj60 _ _ _ (true) g_ HS (by omega) HP0_5 HX47 HP1_5 HX52 H) rfl
 rw [if_neg c81] at H
 (try rw [(decide_eq_false c81)])
 (try simp only [Bool.not_true, Bool.not_false])
 refine sk_guard (guard_off 5 false 10 rfl rfl true (by decide) rfl) rfl ?_
 refine sk_guard (guard_off 5 false 10 rfl rfl true (by decide) rfl) rfl ?_
 refine sk_guard (guard_off 5 false 10 rfl rfl true (by decide) rfl) rfl ?_
 refine sk_guard (guard_off 5 false 10 rfl rfl true (by decide) rfl) rfl ?_
 simp only [ls0, ls1]
 refine sk_guard (guard_off 5 false 10 rfl rfl true (by decide) rfl) rfl ?_
 refine st (.bool true) rfl rfl (xr_pick true _ rfl rfl rfl) ?_
 refine mv_ rfl ?_
 refine sk_guard (guard_off 12 false 17 rfl rfl true (by decide) rfl) rfl ?_
 simp only [ls0, ls1]
 refine sk_guard (guard_off 12 false 17 rfl rfl true (by decide) rfl) rfl ?_
 refine sk_guard (guard_off 12 false 17 rfl rfl true (by decide) rfl) rfl ?_
 refine sk_guard (guard_off 12 false 17 rfl rfl true (by decide) rfl) rfl ?_
 refine sk_guard (guard_off 12 false 17 rfl rfl true (by decide) rfl) rfl ?_
 simp only [ls0, ls1]
 refine st (.bool true) rfl rfl (xr_pick true _ rfl rfl rfl) ?_
 refine mv_ rfl ?_
 refine sk_guard (guard_off 19 false 24 rfl rfl true (by decide) rfl) rfl ?_
 refine sk_guard (guard_off 19 false 24 rfl rfl true (by decide) rfl) rfl ?_
 simp only [ls0, ls1]
 refine sk_guard (guard_off 19 false 24 rfl rfl true (by decide) rfl) rfl ?_
 refine sk_guard (guard_off 19 false 24 rfl rfl true (by decide) rfl) rfl ?_
 refine sk_guard (guard_off 19 false 24 rfl rfl true (by decide) rfl) rfl ?_
 refine st (.bool true) rfl rfl (xr_pick true _ rfl rfl rfl) ?_
 simp only [ls0, ls1]
 refine mv_ rfl ?_
 refine sk_guard (guard_off 26 false 31 rfl rfl true (by decide) rfl) rfl ?_
 refine sk_guard (guard_off 26 false 31 rfl rfl true (by decide) rfl) rfl ?_
 refine sk_guard (guard_off 26 false 31 rfl rfl true (by decide) rfl) rfl ?_
 simp only [ls0, ls1]
 refine sk_guard (guard_off 26 false 31 rfl rfl true (by decide) rfl) rfl ?_
 refine sk_guard (guard_off 26 false 31 rfl rfl true (by decide) rfl) rfl ?_
 refine st (.bool true) rfl rfl (xr_pick true _ rfl rfl rfl) ?_
 refine wl_end ?_
 (try simp only [ls0, ls1])
 exact jmp (fun g_ => hj60 _ _ _ (true) g_ HS (by omega) HP0_5 HX47 HP1_5 HX52 H) rfl

/-! ### blazonref08_SameAll: function 80 -/
def blazonref08_SameAll.l0 (r_ : Rec_blazonref08_Same) : Nat → (List (S44)) → (List (S44)) → Int → Option (Bool)
  | 0, _, _, _ => none
  | k + 1, l0, l1, x179 => if x179 < (l0.length : Int) then (if 0 ≤ x179 then (if x179 < (l1.length : Int) then ((r_.blazonref08_Same ((rd_T44 l0 x179).f0) ((rd_T44 l0 x179).f1) ((rd_T44 l0 x179).f2) ((rd_T44 l0 x179).f3) ((rd_T44 l0 x179).f4) ((rd_T44 l0 x179).f5) ((rd_T44 l1 x179).f0) ((rd_T44 l1 x179).f1) ((rd_T44 l1 x179).f2) ((rd_T44 l1 x179).f3) ((rd_T44 l1 x179).f4) ((rd_T44 l1 x179).f5)).bind fun t209 => (if t209 = true then (blazonref08_SameAll.l0 r_ k l0 l1 (wrap64 (x179 + 1))) else (some false))) else (none)) else (none)) else (some true)
def blazonref08_SameAll.g (r_ : Rec_blazonref08_Same) (k : Nat) (l0 : List (S44)) (l1 : List (S44)) : Option (Bool) := if (l0.length : Int) = (l1.length : Int) then (blazonref08_SameAll.l0 r_ k l0 l1 0) else (some false)

set_option maxHeartbeats 8000000 in
set_option maxRecDepth 100000 in
theorem blazonref08_SameAll.step (r_ : Rec_blazonref08_Same) (IH : Rec_blazonref08_Same.Good r_) (k : Nat) (A0 : Option Addr) (c0 : Nat) (l0 : List (S44)) (A1 : Option Addr) (c1 : Nat) (l1 : List (S44)) (r : Bool) (c : Nat → Nat) (w : World) (hc : ∀ k, c k < 10) (HP0 : Ft c [0] w (fun w_ => k44.C w_ A0 l0.length l0)) (HCP0 : l0.length ≤ c0) (HP1 : Ft c [0] w (fun w_ => k44.C w_ A1 l1.length l1)) (HCP1 : l1.length ≤ c1) (H : blazonref08_SameAll.g r_ k l0 l1 = some r) :
    Calls Try.prog 80 #[.slice A0 l0.length c0, .slice A1 l1.length c1] w fun e w' => ∃ (c' : Nat → Nat) , e = .returned (.bool r) ∧ Step c w c' w' [] := by
 unfold blazonref08_SameAll.g at H
 have HS := Step.refl c w []
 go_enter Try.func80, Try.ntmps80
 refine wp_seq_k fun K110 hK110 => ?_
 refine wl_region ?_
 refine st (.bool false) rfl rfl (xr_assign _ rfl rfl) ?_
 refine wl_end ?_
 (try simp only [ls0, ls1])
 refine hK110 _ _ ?_
 (try clear hK110 K110)
 refine wp_seq_k fun K111 hK111 => ?_
 refine wp_seq_k fun K112 hK112 => ?_
 refine wl_region ?_
 refine mv_ rfl ?_
 refine st (.int .i64 (l0.length : Int)) rfl rfl (xr_builtin #[.slice A0 l0.length c0] (.int .i64 (l0.length : Int)) rfl (mp_ rfl) (by first | rfl | (go_simp; done) | (go_simp; rfl) | (go_simp; exact i64_w _) | (go_simp; exact i32_w _))) ?_
 refine mv_ rfl ?_
 refine st (.int .i64 (l1.length : Int)) rfl rfl (xr_builtin #[.slice A1 l1.length c1] (.int .i64 (l1.length : Int)) rfl (mp_ rfl) (by first | rfl | (go_simp; done) | (go_simp; rfl) | (go_simp; exact i64_w _) | (go_simp; exact i32_w _))) ?_
 simp only [ls0, ls1]
 refine st (.bool (!decide ((l0.length : Int) = (l1.length : Int)))) rfl rfl (xr_bin _ _ _ rfl rfl rfl (B.neq_i64 _ _)) ?_
 refine wl_end ?_
 (try simp only [ls0, ls1])
 refine hK112 _ _ ?_
 (try clear hK112 K112)
 by_cases c113 : (l0.length : Int) = (l1.length : Int)
 ·rw [if_pos c113] at H
  (try rw [(decide_eq_true c113)])
  (try simp only [Bool.not_true, Bool.not_false])
  refine wp_cond_false rfl ?_
  refine wp_skip ?_
  (try simp only [ls0, ls1])
  refine hK111 _ _ ?_
  (try clear hK111 K111)
  refine wp_seq_k fun K114 hK114 => ?_
  refine wp_seq_k fun K115 hK115 => ?_
  refine wl_region ?_
  refine st (.int .i64 0) rfl rfl (xr_assign _ rfl rfl) ?_
  refine wl_end ?_
  (try simp only [ls0, ls1])
  refine hK115 _ _ ?_
  (try clear hK115 K115)
  refine wp_block ?_
  (try simp only [ls0, ls1])
  refine wp_looped (looped_fin (fun kq182 a_ w181 => ∃ (C180 : Nat → Nat) (x179 : Int) (g_ : Nat → Value), a_ = ⟨#[.slice A0 l0.length c0, .slice A1 l1.length c1, (g_ 2), (g_ 3), (g_ 4), .int .i64 x179, (g_ 6), (g_ 7), (g_ 8), (g_ 9), (g_ 10), (g_ 11), (g_ 12), (g_ 13), (g_ 14), (g_ 15), (g_ 16), (g_ 17), (g_ 18), (g_ 19), (g_ 20), (g_ 21), (g_ 22), (g_ 23), (g_ 24), (g_ 25), (g_ 26)], []⟩ ∧ Step c w C180 w181 [] ∧ kq182 ≤ k ∧ (Ft C180 [0] w181 (fun w_ => k44.C w_ A0 l0.length l0)) ∧ (Ft C180 [0] w181 (fun w_ => k44.C w_ A1 l1.length l1)) ∧ blazonref08_SameAll.l0 r_ kq182 l0 l1 x179 = some r) ?step fun hL_ => ?init)
  case init =>
   exact jmpL (fun a_ h_ => hL_ k a_ _ h_) (fun g_ => ⟨_, 0, g_, rfl, HS, Nat.le_refl _, HP0, HP1, H⟩) rfl
  case step =>
   intro kq182 ih185 a186 w181 hr187
   obtain ⟨C180, x179, g_, rfl, HS183, hk184, HJ177, HJ178, H⟩ := hr187
   refine looped_round ?_
   cases kq182 with
   | zero => exact absurd H (by simp [blazonref08_SameAll.l0])
   | succ k188 =>
    simp only [blazonref08_SameAll.l0] at H
    refine wp_seq_k fun K189 hK189 => ?_
    refine wp_seq_k fun K190 hK190 => ?_
    refine wl_region ?_
    refine mv_ rfl ?_
    refine mv_ rfl ?_
    refine st (.int .i64 (l0.length : Int)) rfl rfl (xr_builtin #[.slice A0 l0.length c0] (.int .i64 (l0.length : Int)) rfl (mp_ rfl) (by first | rfl | (go_simp; done) | (go_simp; rfl) | (go_simp; exact i64_w _) | (go_simp; exact i32_w _))) ?_
    refine st (.bool (decide (x179 < (l0.length : Int)))) rfl rfl (xr_bin _ _ _ rfl rfl rfl (B.lss_i64 _ _)) ?_
    simp only [ls0, ls1]
    refine wl_end ?_
    (try simp only [ls0, ls1])
    refine hK190 _ _ ?_
    (try clear hK190 K190)
    by_cases c191 : x179 < (l0.length : Int)
    ·rw [if_pos c191] at H
     (try rw [(decide_eq_true c191)])
     refine wp_cond_true rfl ?_
     refine wp_skip ?_
     (try simp only [ls0, ls1])
     refine hK189 _ _ ?_
     (try clear hK189 K189)
     refine wp_seq_k fun K192 hK192 => ?_
     refine wp_block ?_
     refine wp_seq_k fun K193 hK193 => ?_
     have HQ194 := Ft.same C180 [0] w181
     have HQ195 := Ft.same C180 [0] w181
     (try simp only [ls0, ls1])
     refine al_start (lb 10 0) rfl rfl rfl (fun w_ => k44.C w_ A0 l0.length l0 ∧ k44.C w_ A1 l1.length l1 ∧ (∀ k_, C180 k_ ∈ [0] → k_ < (w181).drew.heap.size → w_.heap[k_]? = (w181).drew.heap[k_]?) ∧ (∀ k_, C180 k_ ∈ [0] → k_ < (w181).drew.heap.size → w_.heap[k_]? = (w181).drew.heap[k_]?)) ⟨(Ft.now ((HJ177).drew)), (Ft.now ((HJ178).drew)), (Ft.now (HQ194.drew)), (Ft.now (HQ195.drew))⟩ [] ?_
     replace HJ177 := HJ177.drew
     replace HJ178 := HJ178.drew
     replace HQ194 := HQ194.drew
     replace HQ195 := HQ195.drew
     replace HS183 := Step.ofDrew HS183
     replace HQ194 := Ft.same C180 [0] (w181.drew)
     replace HQ195 := Ft.same C180 [0] (w181.drew)
     generalize w181.drew = w196 at *
     have HZ197 := HJ177
     have HZ198 := HJ178
     refine al_mv 0 (lb 10 1) rfl rfl (by kernel_rfl) (fun _ _ _ => id) rfl ?_
     refine al_mv 1 (lb 10 3) rfl rfl (by kernel_rfl) (fun _ _ _ => id) rfl ?_
     obtain ⟨c199, H⟩ := if_some H
     obtain ⟨ad200, hA201⟩ := c_addr (Ft.now HJ177) (pos_of (j := x179) (by first | assumption | decide) (by first | assumption | omega))
     refine al_pure 2 19 (.pointer (some (ad200.add ((x179 : Int).toNat * 6)))) (lb 10 7) rfl rfl (by kernel_rfl) (fun _ _ _ => id) rfl (fun w_ => xr_indexAddr _ _ _ rfl rfl rfl (index_at Try.underlying42 info44 hA201 (by first | assumption | decide | omega) (by first | assumption | decide | omega))) ?_
     refine al_mv 4 (lb 10 23) rfl rfl (by kernel_rfl) (fun _ _ _ => id) rfl ?_
     simp only [ls0, ls1]
     refine al_mv 5 (lb 10 55) rfl rfl (by kernel_rfl) (fun _ _ _ => id) rfl ?_
     obtain ⟨c202, H⟩ := if_some H
     obtain ⟨ad203, hA204⟩ := c_addr (Ft.now HJ178) (pos_of (j := x179) (by first | assumption | decide) (by first | assumption | omega))
     refine al_pure 6 23 (.pointer (some (ad203.add ((x179 : Int).toNat * 6)))) (lb 10 119) rfl rfl (by kernel_rfl) (fun _ _ _ => id) rfl (fun w_ => xr_indexAddr _ _ _ rfl rfl rfl (index_at Try.underlying42 info44 hA204 (by first | assumption | decide | omega) (by first | assumption | decide | omega))) ?_
     obtain ⟨csq206, _, hKq206, hcq206, hinq206⟩ := Ft.elem HJ177 hA201 z44 x179 (by first | assumption | decide | omega) (by first | assumption | decide | omega) (by decide)
     obtain ⟨Aq206_5, cpq206_5, rfl, HCq206_5, HRq206_5⟩ := k44_openF hKq206
     replace HRq206_5 : Ft C180 [0] w196 (fun w_ => k44.C w_ Aq206_5 (rd_T44 l0 x179).f5.length (rd_T44 l0 x179).f5) := HRq206_5
     refine al_take 3 20 (.agg #[.int .i64 ((rd_T44 l0 x179).f0), .int .i64 ((rd_T44 l0 x179).f1), .int .i64 ((rd_T44 l0 x179).f2), .string ((rd_T44 l0 x179).f3), .string ((rd_T44 l0 x179).f4), .slice Aq206_5 (rd_T44 l0 x179).f5.length cpq206_5]) (lb 10 127) rfl rfl (by kernel_rfl) (fun _ _ _ => id) rfl (fun w_ hS_ => xr_load (.pointer (some (ad200.add ((x179 : Int).toNat * 6)))) (.agg #[.int .i64 ((rd_T44 l0 x179).f0), .int .i64 ((rd_T44 l0 x179).f1), .int .i64 ((rd_T44 l0 x179).f2), .string ((rd_T44 l0 x179).f3), .string ((rd_T44 l0 x179).f4), .slice Aq206_5 (rd_T44 l0 x179).f5.length cpq206_5]) rfl rfl (load_agg (cs := [.int .i64 ((rd_T44 l0 x179).f0), .int .i64 ((rd_T44 l0 x179).f1), .int .i64 ((rd_T44 l0 x179).f2), .string ((rd_T44 l0 x179).f3), .string ((rd_T44 l0 x179).f4), .slice Aq206_5 (rd_T44 l0 x179).f5.length cpq206_5]) Try.underlying44 rfl (by kernel_rfl) (fun j_ u_ hu_ => by refine same_cell hS_.2.2.1 hinq206 (add2_block _ _ _) ?_; exact hcq206 j_ u_ hu_))) ⟨(Ft.now HJ177), (Ft.now HJ178), (Ft.now (HQ194)), (Ft.now (HQ195))⟩ ?_
     obtain ⟨csq208, _, hKq208, hcq208, hinq208⟩ := Ft.elem HJ178 hA204 z44 x179 (by first | assumption | decide | omega) (by first | assumption | decide | omega) (by decide)
     obtain ⟨Aq208_5, cpq208_5, rfl, HCq208_5, HRq208_5⟩ := k44_openF hKq208
     replace HRq208_5 : Ft C180 [0] w196 (fun w_ => k44.C w_ Aq208_5 (rd_T44 l1 x179).f5.length (rd_T44 l1 x179).f5) := HRq208_5
     refine al_take 7 24 (.agg #[.int .i64 ((rd_T44 l1 x179).f0), .int .i64 ((rd_T44 l1 x179).f1), .int .i64 ((rd_T44 l1 x179).f2), .string ((rd_T44 l1 x179).f3), .string ((rd_T44 l1 x179).f4), .slice Aq208_5 (rd_T44 l1 x179).f5.length cpq208_5]) (lb 10 255) rfl rfl (by kernel_rfl) (fun _ _ _ => id) rfl (fun w_ hS_ => xr_load (.pointer (some (ad203.add ((x179 : Int).toNat * 6)))) (.agg #[.int .i64 ((rd_T44 l1 x179).f0), .int .i64 ((rd_T44 l1 x179).f1), .int .i64 ((rd_T44 l1 x179).f2), .string ((rd_T44 l1 x179).f3), .string ((rd_T44 l1 x179).f4), .slice Aq208_5 (rd_T44 l1 x179).f5.length cpq208_5]) rfl rfl (load_agg (cs := [.int .i64 ((rd_T44 l1 x179).f0), .int .i64 ((rd_T44 l1 x179).f1), .int .i64 ((rd_T44 l1 x179).f2), .string ((rd_T44 l1 x179).f3), .string ((rd_T44 l1 x179).f4), .slice Aq208_5 (rd_T44 l1 x179).f5.length cpq208_5]) Try.underlying44 rfl (by kernel_rfl) (fun j_ u_ hu_ => by refine same_cell hS_.2.2.2 hinq208 (add2_block _ _ _) ?_; exact hcq208 j_ u_ hu_))) ⟨(Ft.now HJ177), (Ft.now HJ178), (Ft.now (HQ194)), (Ft.now (HQ195))⟩ ?_
     simp only [ls0, ls1]
     obtain ⟨t209, A210, H⟩ := bnd H
     refine al_one 8 (lb 10 511) rfl rfl (by kernel_rfl) rfl (fun K_ hK_ => ?_)
     refine goes_ Try.func35 (by kernel_rfl) rfl #[.agg #[.int .i64 ((rd_T44 l0 x179).f0), .int .i64 ((rd_T44 l0 x179).f1), .int .i64 ((rd_T44 l0 x179).f2), .string ((rd_T44 l0 x179).f3), .string ((rd_T44 l0 x179).f4), .slice Aq206_5 (rd_T44 l0 x179).f5.length cpq206_5], .agg #[.int .i64 ((rd_T44 l1 x179).f0), .int .i64 ((rd_T44 l1 x179).f1), .int .i64 ((rd_T44 l1 x179).f2), .string ((rd_T44 l1 x179).f3), .string ((rd_T44 l1 x179).f4), .slice Aq208_5 (rd_T44 l1 x179).f5.length cpq208_5]] rfl rfl rfl (mpe_ rfl) ?_
     refine (IH.blazonref08_Same ((rd_T44 l0 x179).f0) ((rd_T44 l0 x179).f1) ((rd_T44 l0 x179).f2) ((rd_T44 l0 x179).f3) ((rd_T44 l0 x179).f4) Aq206_5 cpq206_5 ((rd_T44 l0 x179).f5) ((rd_T44 l1 x179).f0) ((rd_T44 l1 x179).f1) ((rd_T44 l1 x179).f2) ((rd_T44 l1 x179).f3) ((rd_T44 l1 x179).f4) Aq208_5 cpq208_5 ((rd_T44 l1 x179).f5) t209  (fun z_ => pal [(0, 0)] (C180 z_)) w196 (fun _ => pal_lt rfl _) (Ft.arg HRq206_5 rfl) HCq206_5 (Ft.arg HRq208_5 rfl) HCq208_5 A210).mono ?_
     rintro _ w212 ⟨C213, rfl, hs214⟩
     refine ⟨_, rfl, ?_⟩
     replace hs214 := Step.lift (U := [(0, 0)]) hs214 [] rfl rfl
     generalize up C180 C213 w196.heap.size [(0, 0)] = C213_ at hs214
     replace HJ177 := HJ177.thru hs214 rfl
     replace HJ178 := HJ178.thru hs214 rfl
     replace HQ194 := HQ194.thru hs214 rfl
     replace HQ195 := HQ195.thru hs214 rfl
     replace HS183 := HS183.trans hs214 hc rfl
     refine hK_ _ _ ⟨(Ft.now HJ177), (Ft.now HJ178), (Ft.now (HQ194)), (Ft.now (HQ195))⟩ ?_
     clear hK_ K_
     (try simp only [Act.put, List.setIfInBounds_toArray, ls0, ls1])
     refine al_pure 9 26 (.bool (!t209)) (lb 10 1023) rfl rfl (by kernel_rfl) (fun _ _ _ => id) rfl (fun w_ => xr_un (.bool t209) _ rfl rfl (by first | rfl | (go_simp; done) | (go_simp; rfl) | (go_simp; exact i64_w _) | (go_simp; exact i32_w _))) ?_
     refine al_end (by kernel_rfl) ?_
     (try simp only [ls0, ls1])
     refine hK193 _ _ ?_
     (try clear hK193 K193)
     by_cases c215 : t209 = true
     ·rw [if_pos c215] at H
      (try rw [c215])
      (try simp only [Bool.not_true, Bool.not_false])
      refine wp_cond_false rfl ?_
      refine wp_skip ?_
      (try simp only [ls0, ls1])
      refine hK192 _ _ ?_
      (try clear hK192 K192)
      refine wl_region ?_
      refine mv_ rfl ?_
      refine st (.int .i64 (wrap64 (x179 + 1))) rfl rfl (xr_bin _ _ _ rfl rfl rfl (B.add_i64 _ _)) ?_
      refine as_ rfl ?_
      refine wl_end ?_
      (try simp only [ls0, ls1])
      exact jmpL (fun a_ h_ => ih185 k188 (by omega) a_ _ h_) (fun g_ => ⟨_, wrap64 (x179 + 1), g_, rfl, HS183, (by omega), HJ177, HJ178, H⟩) rfl
     rw [if_neg c215] at H
     (try rw [(Bool.eq_false_iff.mpr c215)])
     (try simp only [Bool.not_true, Bool.not_false])
     refine wp_cond_true rfl ?_
     refine wp_seq_k fun K216 hK216 => ?_
     refine wl_region ?_
     refine st (.bool false) rfl rfl (xr_assign _ rfl rfl) ?_
     refine wl_end ?_
     (try simp only [ls0, ls1])
     refine hK216 _ _ ?_
     (try clear hK216 K216)
     refine wp_ret ?_
     (try simp only [Exit.inBlock, Exit.then, Exit.noGoto])
     (try simp only [ls0, ls1])
     obtain rfl := Option.some.inj H
     refine bodyPost_ret (results_tmp rfl _ _ _) rfl ?_
     exact ⟨_, rfl, HS183⟩
    rw [if_neg c191] at H
    (try rw [(decide_eq_false c191)])
    refine wp_cond_false rfl ?_
    refine wp_exit ?_
    (try simp only [ls0, ls1])
    refine hK114 _ _ ?_
    (try clear hK114 K114)
    refine wp_seq_k fun K217 hK217 => ?_
    refine wl_region ?_
    refine st (.bool true) rfl rfl (xr_assign _ rfl rfl) ?_
    refine wl_end ?_
    (try simp only [ls0, ls1])
    refine hK217 _ _ ?_
    (try clear hK217 K217)
    refine wp_ret ?_
    (try simp only [Exit.inBlock, Exit.then, Exit.noGoto])
    (try simp only [ls0, ls1])
    obtain rfl := Option.some.inj H
    refine bodyPost_ret (results_tmp rfl _ _ _) rfl ?_
    exact ⟨_, rfl, HS183⟩
 rw [if_neg c113] at H
 (try rw [(decide_eq_false c113)])
 (try simp only [Bool.not_true, Bool.not_false])
 refine wp_cond_true rfl ?_
 refine wp_seq_k fun K218 hK218 => ?_
 refine wl_region ?_
 refine st (.bool false) rfl rfl (xr_assign _ rfl rfl) ?_
 refine wl_end ?_
 (try simp only [ls0, ls1])
 refine hK218 _ _ ?_
 (try clear hK218 K218)
 refine wp_ret ?_
 (try simp only [Exit.inBlock, Exit.then, Exit.noGoto])
 (try simp only [ls0, ls1])
 obtain rfl := Option.some.inj H
 refine bodyPost_ret (results_tmp rfl _ _ _) rfl ?_
 exact ⟨_, rfl, HS⟩

def Rec_blazonref08_Same.at : Nat → Rec_blazonref08_Same
  | 0 => ⟨fun x0 x1 x2 x3 x4 x5 x6 x7 x8 x9 x10 x11 => none, fun x0 x1 => none⟩
  | k + 1 => ⟨fun x0 x1 x2 x3 x4 x5 x6 x7 x8 x9 x10 x11 => blazonref08_Same.g (Rec_blazonref08_Same.at k) k x0 x1 x2 x3 x4 x5 x6 x7 x8 x9 x10 x11, fun x0 x1 => blazonref08_SameAll.g (Rec_blazonref08_Same.at k) k x0 x1⟩
theorem Rec_blazonref08_Same.good : ∀ k, Rec_blazonref08_Same.Good (Rec_blazonref08_Same.at k)
  | 0 => ⟨(by intros; rename_i H; exact absurd H (by simp [Rec_blazonref08_Same.at])), (by intros; rename_i H; exact absurd H (by simp [Rec_blazonref08_Same.at]))⟩
  | k + 1 => ⟨blazonref08_Same.step (Rec_blazonref08_Same.at k) (Rec_blazonref08_Same.good k) k, blazonref08_SameAll.step (Rec_blazonref08_Same.at k) (Rec_blazonref08_Same.good k) k⟩
def blazonref08_Same.f (k : Nat) (x0 : Int) (x1 : Int) (x2 : Int) (x3 : ByteArray) (x4 : ByteArray) (x5 : List (S44)) (x6 : Int) (x7 : Int) (x8 : Int) (x9 : ByteArray) (x10 : ByteArray) (x11 : List (S44)) : Option (Bool) := (Rec_blazonref08_Same.at k).blazonref08_Same x0 x1 x2 x3 x4 x5 x6 x7 x8 x9 x10 x11
theorem blazonref08_Same.calls : ∀ (k : Nat) (a0_0 : Int) (a0_1 : Int) (a0_2 : Int) (a0_3 : ByteArray) (a0_4 : ByteArray) (A0_5 : Option Addr) (c0_5 : Nat) (l0_5 : List (S44)) (a1_0 : Int) (a1_1 : Int) (a1_2 : Int) (a1_3 : ByteArray) (a1_4 : ByteArray) (A1_5 : Option Addr) (c1_5 : Nat) (l1_5 : List (S44)) (r : Bool) (c : Nat → Nat) (w : World) (hc : ∀ k, c k < 10) (HP0_5 : Ft c [0] w (fun w_ => k44.C w_ A0_5 l0_5.length l0_5)) (HCP0_5 : l0_5.length ≤ c0_5) (HP1_5 : Ft c [0] w (fun w_ => k44.C w_ A1_5 l1_5.length l1_5)) (HCP1_5 : l1_5.length ≤ c1_5) (H : blazonref08_Same.f k a0_0 a0_1 a0_2 a0_3 a0_4 l0_5 a1_0 a1_1 a1_2 a1_3 a1_4 l1_5 = some r),
    Calls Try.prog 35 #[.agg #[.int .i64 a0_0, .int .i64 a0_1, .int .i64 a0_2, .string a0_3, .string a0_4, .slice A0_5 l0_5.length c0_5], .agg #[.int .i64 a1_0, .int .i64 a1_1, .int .i64 a1_2, .string a1_3, .string a1_4, .slice A1_5 l1_5.length c1_5]] w fun e w' => ∃ (c' : Nat → Nat) , e = .returned (.bool r) ∧ Step c w c' w' [] := fun k => (Rec_blazonref08_Same.good k).blazonref08_Same
def blazonref08_SameAll.f (k : Nat) (x0 : List (S44)) (x1 : List (S44)) : Option (Bool) := (Rec_blazonref08_Same.at k).blazonref08_SameAll x0 x1
theorem blazonref08_SameAll.calls : ∀ (k : Nat) (A0 : Option Addr) (c0 : Nat) (l0 : List (S44)) (A1 : Option Addr) (c1 : Nat) (l1 : List (S44)) (r : Bool) (c : Nat → Nat) (w : World) (hc : ∀ k, c k < 10) (HP0 : Ft c [0] w (fun w_ => k44.C w_ A0 l0.length l0)) (HCP0 : l0.length ≤ c0) (HP1 : Ft c [0] w (fun w_ => k44.C w_ A1 l1.length l1)) (HCP1 : l1.length ≤ c1) (H : blazonref08_SameAll.f k l0 l1 = some r),
    Calls Try.prog 80 #[.slice A0 l0.length c0, .slice A1 l1.length c1] w fun e w' => ∃ (c' : Nat → Nat) , e = .returned (.bool r) ∧ Step c w c' w' [] := fun k => (Rec_blazonref08_Same.good k).blazonref08_SameAll

structure Rec_blazonlaw08_later where
  blazonlaw08_later : Int → Int → Int → ByteArray → ByteArray → (List (S44)) → Option (Int × Int × Int × ByteArray × ByteArray × (List (S44)))
structure Rec_blazonlaw08_later.Good (r_ : Rec_blazonlaw08_later) : Prop where
  blazonlaw08_later : ∀ (a0_0 : Int) (a0_1 : Int) (a0_2 : Int) (a0_3 : ByteArray) (a0_4 : ByteArray) (A0_5 : Option Addr) (c0_5 : Nat) (l0_5 : List (S44)) (r1 : Int) (r2 : Int) (r3 : Int) (r4 : ByteArray) (r5 : ByteArray) (r6 : List (S44)) (c : Nat → Nat) (w : World) (hc : ∀ k, c k < 10) (HP0_5 : Ft c [0] w (fun w_ => k44.C w_ A0_5 l0_5.length l0_5)) (HCP0_5 : l0_5.length ≤ c0_5) (H : r_.blazonlaw08_later a0_0 a0_1 a0_2 a0_3 a0_4 l0_5 = some (r1, r2, r3, r4, r5, r6)),
    Calls Try.prog 38 #[.agg #[.int .i64 a0_0, .int .i64 a0_1, .int .i64 a0_2, .string a0_3, .string a0_4, .slice A0_5 l0_5.length c0_5]] w fun e w' => ∃ (c' : Nat → Nat) (A_r6 : Option Addr) (c_r6 : Nat), e = .returned (.agg #[.int .i64 r1, .int .i64 r2, .int .i64 r3, .string r4, .string r5, .slice A_r6 r6.length c_r6]) ∧ Step c w c' w' [] ∧ Own c' 5 w' k44 44 (.slice A_r6 r6.length c_r6) r6 ∧ r6.length ≤ c_r6

end Go.Proofs.Yteoccoklbmjiaaa.PExb
