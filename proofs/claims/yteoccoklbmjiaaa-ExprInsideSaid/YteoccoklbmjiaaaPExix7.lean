-- By cprint.py, a program of this work. Lean checks it.
import Derived.Test.YteoccoklbmjiaaaPExix0
import Derived.Test.YteoccoklbmjiaaaPExix1
import Derived.Test.YteoccoklbmjiaaaPExix2
import Derived.Test.YteoccoklbmjiaaaPExix3
import Derived.Test.YteoccoklbmjiaaaPExix4
import Derived.Test.YteoccoklbmjiaaaPExix5
import Derived.Test.YteoccoklbmjiaaaPExix6
namespace Go.Proofs.Yteoccoklbmjiaaa.PExi
open Go.RowKit Go.Proofs.YteoccoklbmjiaaaW.PrintWords Go.Proofs.YteoccoklbmjiaaaW.PrintLast Go.Proofs.YteoccoklbmjiaaaW.PrintMore
set_option linter.unusedVariables false
set_option linter.unusedSimpArgs false

def Rec_expr_Cursor_binary.at : Nat → Rec_expr_Cursor_binary
  | 0 => ⟨fun x0 x1 x2 x3 x4 => none, fun x0 x1 x2 x3 => none, fun x0 x1 x2 x3 => none, fun x0 x1 x2 x3 => none, fun x0 x1 x2 x3 => none, fun x0 x1 x2 x3 => none⟩
  | k + 1 => ⟨fun x0 x1 x2 x3 x4 => expr_Cursor_binary.g (Rec_expr_Cursor_binary.at k) k x0 x1 x2 x3 x4, fun x0 x1 x2 x3 => expr_Cursor_signed.g (Rec_expr_Cursor_binary.at k) k x0 x1 x2 x3, fun x0 x1 x2 x3 => expr_Cursor_primary.g (Rec_expr_Cursor_binary.at k) k x0 x1 x2 x3, fun x0 x1 x2 x3 => expr_Cursor_group.g (Rec_expr_Cursor_binary.at k) k x0 x1 x2 x3, fun x0 x1 x2 x3 => expr_Cursor_open.g (Rec_expr_Cursor_binary.at k) k x0 x1 x2 x3, fun x0 x1 x2 x3 => expr_Cursor_named.g (Rec_expr_Cursor_binary.at k) k x0 x1 x2 x3⟩
theorem Rec_expr_Cursor_binary.good : ∀ k, Rec_expr_Cursor_binary.Good (Rec_expr_Cursor_binary.at k)
  | 0 => ⟨(by intros; rename_i H; exact absurd H (by simp [Rec_expr_Cursor_binary.at])), (by intros; rename_i H; exact absurd H (by simp [Rec_expr_Cursor_binary.at])), (by intros; rename_i H; exact absurd H (by simp [Rec_expr_Cursor_binary.at])), (by intros; rename_i H; exact absurd H (by simp [Rec_expr_Cursor_binary.at])), (by intros; rename_i H; exact absurd H (by simp [Rec_expr_Cursor_binary.at])), (by intros; rename_i H; exact absurd H (by simp [Rec_expr_Cursor_binary.at]))⟩
  | k + 1 => ⟨expr_Cursor_binary.step (Rec_expr_Cursor_binary.at k) (Rec_expr_Cursor_binary.good k) k, expr_Cursor_signed.step (Rec_expr_Cursor_binary.at k) (Rec_expr_Cursor_binary.good k) k, expr_Cursor_primary.step (Rec_expr_Cursor_binary.at k) (Rec_expr_Cursor_binary.good k) k, expr_Cursor_group.step (Rec_expr_Cursor_binary.at k) (Rec_expr_Cursor_binary.good k) k, expr_Cursor_open.step (Rec_expr_Cursor_binary.at k) (Rec_expr_Cursor_binary.good k) k, expr_Cursor_named.step (Rec_expr_Cursor_binary.at k) (Rec_expr_Cursor_binary.good k) k⟩
def expr_Cursor_binary.f (k : Nat) (x0 : List Int) (x1 : List (S28)) (x2 : Int) (x3 : Int) (x4 : Int) : Option (Int × Int × Int × ByteArray × ByteArray × (List (S44)) × Int × Int × Int) := (Rec_expr_Cursor_binary.at k).expr_Cursor_binary x0 x1 x2 x3 x4
theorem expr_Cursor_binary.calls : ∀ (k : Nat) (g0 : Nat) (A0_0 : Option Addr) (c0_0 : Nat) (l0_0 : List Int) (A0_1 : Option Addr) (c0_1 : Nat) (l0_1 : List (S28)) (a0_2 : Int) (a0_3 : Int) (a1 : Int) (r1 : Int) (r2 : Int) (r3 : Int) (r4 : ByteArray) (r5 : ByteArray) (r6 : List (S44)) (r7 : Int) (r8 : Int) (r9 : Int) (c : Nat → Nat) (w : World) (hc : ∀ k, c k < 10) (HP0 : Bx c 1 w g0 111 ([.slice A0_0 l0_0.length c0_0, .slice A0_1 l0_1.length c0_1, .int .i64 a0_2, .int .i64 a0_3])) (HP0_0 : Ft c [0] w (fun w_ => (Kd.int .u8).C w_ A0_0 l0_0.length l0_0)) (HCP0_0 : l0_0.length ≤ c0_0) (HP0_1 : Ft c [0] w (fun w_ => k28.C w_ A0_1 l0_1.length l0_1)) (HCP0_1 : l0_1.length ≤ c0_1) (H : expr_Cursor_binary.f k l0_0 l0_1 a0_2 a0_3 a1 = some (r1, r2, r3, r4, r5, r6, r7, r8, r9)),
    Calls Try.prog 82 #[.pointer (some ⟨g0, 0, none⟩), .int .i64 a1] w fun e w' => ∃ (c' : Nat → Nat) (A_r6 : Option Addr) (c_r6 : Nat), e = .returned (.tuple #[.agg #[.int .i64 r1, .int .i64 r2, .int .i64 r3, .string r4, .string r5, .slice A_r6 r6.length c_r6], .int .i64 r7]) ∧ Step c w c' w' [1] ∧ Ft c' [0] w' (fun w_ => k44.C w_ A_r6 r6.length r6) ∧ r6.length ≤ c_r6 ∧ Bx c' 1 w' g0 111 ([.slice A0_0 l0_0.length c0_0, .slice A0_1 l0_1.length c0_1, .int .i64 r8, .int .i64 r9]) := fun k => (Rec_expr_Cursor_binary.good k).expr_Cursor_binary
def expr_Cursor_signed.f (k : Nat) (x0 : List Int) (x1 : List (S28)) (x2 : Int) (x3 : Int) : Option (Int × Int × Int × ByteArray × ByteArray × (List (S44)) × Int × Int × Int) := (Rec_expr_Cursor_binary.at k).expr_Cursor_signed x0 x1 x2 x3
theorem expr_Cursor_signed.calls : ∀ (k : Nat) (g0 : Nat) (A0_0 : Option Addr) (c0_0 : Nat) (l0_0 : List Int) (A0_1 : Option Addr) (c0_1 : Nat) (l0_1 : List (S28)) (a0_2 : Int) (a0_3 : Int) (r1 : Int) (r2 : Int) (r3 : Int) (r4 : ByteArray) (r5 : ByteArray) (r6 : List (S44)) (r7 : Int) (r8 : Int) (r9 : Int) (c : Nat → Nat) (w : World) (hc : ∀ k, c k < 10) (HP0 : Bx c 1 w g0 111 ([.slice A0_0 l0_0.length c0_0, .slice A0_1 l0_1.length c0_1, .int .i64 a0_2, .int .i64 a0_3])) (HP0_0 : Ft c [0] w (fun w_ => (Kd.int .u8).C w_ A0_0 l0_0.length l0_0)) (HCP0_0 : l0_0.length ≤ c0_0) (HP0_1 : Ft c [0] w (fun w_ => k28.C w_ A0_1 l0_1.length l0_1)) (HCP0_1 : l0_1.length ≤ c0_1) (H : expr_Cursor_signed.f k l0_0 l0_1 a0_2 a0_3 = some (r1, r2, r3, r4, r5, r6, r7, r8, r9)),
    Calls Try.prog 102 #[.pointer (some ⟨g0, 0, none⟩)] w fun e w' => ∃ (c' : Nat → Nat) (A_r6 : Option Addr) (c_r6 : Nat), e = .returned (.tuple #[.agg #[.int .i64 r1, .int .i64 r2, .int .i64 r3, .string r4, .string r5, .slice A_r6 r6.length c_r6], .int .i64 r7]) ∧ Step c w c' w' [1] ∧ Ft c' [0] w' (fun w_ => k44.C w_ A_r6 r6.length r6) ∧ r6.length ≤ c_r6 ∧ Bx c' 1 w' g0 111 ([.slice A0_0 l0_0.length c0_0, .slice A0_1 l0_1.length c0_1, .int .i64 r8, .int .i64 r9]) := fun k => (Rec_expr_Cursor_binary.good k).expr_Cursor_signed
def expr_Cursor_primary.f (k : Nat) (x0 : List Int) (x1 : List (S28)) (x2 : Int) (x3 : Int) : Option (Int × Int × Int × ByteArray × ByteArray × (List (S44)) × Int × Int × Int) := (Rec_expr_Cursor_binary.at k).expr_Cursor_primary x0 x1 x2 x3
theorem expr_Cursor_primary.calls : ∀ (k : Nat) (g0 : Nat) (A0_0 : Option Addr) (c0_0 : Nat) (l0_0 : List Int) (A0_1 : Option Addr) (c0_1 : Nat) (l0_1 : List (S28)) (a0_2 : Int) (a0_3 : Int) (r1 : Int) (r2 : Int) (r3 : Int) (r4 : ByteArray) (r5 : ByteArray) (r6 : List (S44)) (r7 : Int) (r8 : Int) (r9 : Int) (c : Nat → Nat) (w : World) (hc : ∀ k, c k < 10) (HP0 : Bx c 1 w g0 111 ([.slice A0_0 l0_0.length c0_0, .slice A0_1 l0_1.length c0_1, .int .i64 a0_2, .int .i64 a0_3])) (HP0_0 : Ft c [0] w (fun w_ => (Kd.int .u8).C w_ A0_0 l0_0.length l0_0)) (HCP0_0 : l0_0.length ≤ c0_0) (HP0_1 : Ft c [0] w (fun w_ => k28.C w_ A0_1 l0_1.length l0_1)) (HCP0_1 : l0_1.length ≤ c0_1) (H : expr_Cursor_primary.f k l0_0 l0_1 a0_2 a0_3 = some (r1, r2, r3, r4, r5, r6, r7, r8, r9)),
    Calls Try.prog 120 #[.pointer (some ⟨g0, 0, none⟩)] w fun e w' => ∃ (c' : Nat → Nat) (A_r6 : Option Addr) (c_r6 : Nat), e = .returned (.tuple #[.agg #[.int .i64 r1, .int .i64 r2, .int .i64 r3, .string r4, .string r5, .slice A_r6 r6.length c_r6], .int .i64 r7]) ∧ Step c w c' w' [1] ∧ Ft c' [0] w' (fun w_ => k44.C w_ A_r6 r6.length r6) ∧ r6.length ≤ c_r6 ∧ Bx c' 1 w' g0 111 ([.slice A0_0 l0_0.length c0_0, .slice A0_1 l0_1.length c0_1, .int .i64 r8, .int .i64 r9]) := fun k => (Rec_expr_Cursor_binary.good k).expr_Cursor_primary
def expr_Cursor_group.f (k : Nat) (x0 : List Int) (x1 : List (S28)) (x2 : Int) (x3 : Int) : Option (Int × Int × Int × ByteArray × ByteArray × (List (S44)) × Int × Int × Int) := (Rec_expr_Cursor_binary.at k).expr_Cursor_group x0 x1 x2 x3
theorem expr_Cursor_group.calls : ∀ (k : Nat) (g0 : Nat) (A0_0 : Option Addr) (c0_0 : Nat) (l0_0 : List Int) (A0_1 : Option Addr) (c0_1 : Nat) (l0_1 : List (S28)) (a0_2 : Int) (a0_3 : Int) (r1 : Int) (r2 : Int) (r3 : Int) (r4 : ByteArray) (r5 : ByteArray) (r6 : List (S44)) (r7 : Int) (r8 : Int) (r9 : Int) (c : Nat → Nat) (w : World) (hc : ∀ k, c k < 10) (HP0 : Bx c 1 w g0 111 ([.slice A0_0 l0_0.length c0_0, .slice A0_1 l0_1.length c0_1, .int .i64 a0_2, .int .i64 a0_3])) (HP0_0 : Ft c [0] w (fun w_ => (Kd.int .u8).C w_ A0_0 l0_0.length l0_0)) (HCP0_0 : l0_0.length ≤ c0_0) (HP0_1 : Ft c [0] w (fun w_ => k28.C w_ A0_1 l0_1.length l0_1)) (HCP0_1 : l0_1.length ≤ c0_1) (H : expr_Cursor_group.f k l0_0 l0_1 a0_2 a0_3 = some (r1, r2, r3, r4, r5, r6, r7, r8, r9)),
    Calls Try.prog 132 #[.pointer (some ⟨g0, 0, none⟩)] w fun e w' => ∃ (c' : Nat → Nat) (A_r6 : Option Addr) (c_r6 : Nat), e = .returned (.tuple #[.agg #[.int .i64 r1, .int .i64 r2, .int .i64 r3, .string r4, .string r5, .slice A_r6 r6.length c_r6], .int .i64 r7]) ∧ Step c w c' w' [1] ∧ Ft c' [0] w' (fun w_ => k44.C w_ A_r6 r6.length r6) ∧ r6.length ≤ c_r6 ∧ Bx c' 1 w' g0 111 ([.slice A0_0 l0_0.length c0_0, .slice A0_1 l0_1.length c0_1, .int .i64 r8, .int .i64 r9]) := fun k => (Rec_expr_Cursor_binary.good k).expr_Cursor_group
def expr_Cursor_open.f (k : Nat) (x0 : List Int) (x1 : List (S28)) (x2 : Int) (x3 : Int) : Option (Int × Int × Int × ByteArray × ByteArray × (List (S44)) × Int × Int × Int) := (Rec_expr_Cursor_binary.at k).expr_Cursor_open x0 x1 x2 x3
theorem expr_Cursor_open.calls : ∀ (k : Nat) (g0 : Nat) (A0_0 : Option Addr) (c0_0 : Nat) (l0_0 : List Int) (A0_1 : Option Addr) (c0_1 : Nat) (l0_1 : List (S28)) (a0_2 : Int) (a0_3 : Int) (r1 : Int) (r2 : Int) (r3 : Int) (r4 : ByteArray) (r5 : ByteArray) (r6 : List (S44)) (r7 : Int) (r8 : Int) (r9 : Int) (c : Nat → Nat) (w : World) (hc : ∀ k, c k < 10) (HP0 : Bx c 1 w g0 111 ([.slice A0_0 l0_0.length c0_0, .slice A0_1 l0_1.length c0_1, .int .i64 a0_2, .int .i64 a0_3])) (HP0_0 : Ft c [0] w (fun w_ => (Kd.int .u8).C w_ A0_0 l0_0.length l0_0)) (HCP0_0 : l0_0.length ≤ c0_0) (HP0_1 : Ft c [0] w (fun w_ => k28.C w_ A0_1 l0_1.length l0_1)) (HCP0_1 : l0_1.length ≤ c0_1) (H : expr_Cursor_open.f k l0_0 l0_1 a0_2 a0_3 = some (r1, r2, r3, r4, r5, r6, r7, r8, r9)),
    Calls Try.prog 133 #[.pointer (some ⟨g0, 0, none⟩)] w fun e w' => ∃ (c' : Nat → Nat) (A_r6 : Option Addr) (c_r6 : Nat), e = .returned (.tuple #[.agg #[.int .i64 r1, .int .i64 r2, .int .i64 r3, .string r4, .string r5, .slice A_r6 r6.length c_r6], .int .i64 r7]) ∧ Step c w c' w' [1] ∧ Ft c' [0] w' (fun w_ => k44.C w_ A_r6 r6.length r6) ∧ r6.length ≤ c_r6 ∧ Bx c' 1 w' g0 111 ([.slice A0_0 l0_0.length c0_0, .slice A0_1 l0_1.length c0_1, .int .i64 r8, .int .i64 r9]) := fun k => (Rec_expr_Cursor_binary.good k).expr_Cursor_open
def expr_Cursor_named.f (k : Nat) (x0 : List Int) (x1 : List (S28)) (x2 : Int) (x3 : Int) : Option (Int × Int × Int × ByteArray × ByteArray × (List (S44)) × Int × Int × Int) := (Rec_expr_Cursor_binary.at k).expr_Cursor_named x0 x1 x2 x3
theorem expr_Cursor_named.calls : ∀ (k : Nat) (g0 : Nat) (A0_0 : Option Addr) (c0_0 : Nat) (l0_0 : List Int) (A0_1 : Option Addr) (c0_1 : Nat) (l0_1 : List (S28)) (a0_2 : Int) (a0_3 : Int) (r1 : Int) (r2 : Int) (r3 : Int) (r4 : ByteArray) (r5 : ByteArray) (r6 : List (S44)) (r7 : Int) (r8 : Int) (r9 : Int) (c : Nat → Nat) (w : World) (hc : ∀ k, c k < 10) (HP0 : Bx c 1 w g0 111 ([.slice A0_0 l0_0.length c0_0, .slice A0_1 l0_1.length c0_1, .int .i64 a0_2, .int .i64 a0_3])) (HP0_0 : Ft c [0] w (fun w_ => (Kd.int .u8).C w_ A0_0 l0_0.length l0_0)) (HCP0_0 : l0_0.length ≤ c0_0) (HP0_1 : Ft c [0] w (fun w_ => k28.C w_ A0_1 l0_1.length l0_1)) (HCP0_1 : l0_1.length ≤ c0_1) (H : expr_Cursor_named.f k l0_0 l0_1 a0_2 a0_3 = some (r1, r2, r3, r4, r5, r6, r7, r8, r9)),
    Calls Try.prog 134 #[.pointer (some ⟨g0, 0, none⟩)] w fun e w' => ∃ (c' : Nat → Nat) (A_r6 : Option Addr) (c_r6 : Nat), e = .returned (.tuple #[.agg #[.int .i64 r1, .int .i64 r2, .int .i64 r3, .string r4, .string r5, .slice A_r6 r6.length c_r6], .int .i64 r7]) ∧ Step c w c' w' [1] ∧ Ft c' [0] w' (fun w_ => k44.C w_ A_r6 r6.length r6) ∧ r6.length ≤ c_r6 ∧ Bx c' 1 w' g0 111 ([.slice A0_0 l0_0.length c0_0, .slice A0_1 l0_1.length c0_1, .int .i64 r8, .int .i64 r9]) := fun k => (Rec_expr_Cursor_binary.good k).expr_Cursor_named

/-! ### expr_Cursor_Expr: function 51 -/
def expr_Cursor_Expr.f (k : Nat) (l0_0 : List Int) (l0_1 : List (S28)) (a0_2 : Int) (a0_3 : Int) : Option (Int × Int × Int × ByteArray × ByteArray × (List (S44)) × Int × Int) := (expr_Cursor_binary.f k l0_0 l0_1 a0_2 a0_3 1).bind fun bt56 => (some (bt56.1, bt56.2.1, bt56.2.2.1, bt56.2.2.2.1, bt56.2.2.2.2.1, bt56.2.2.2.2.2.1, bt56.2.2.2.2.2.2.1, bt56.2.2.2.2.2.2.2.1))

set_option maxHeartbeats 8000000 in
set_option maxRecDepth 100000 in
theorem expr_Cursor_Expr.calls (k : Nat) (g0 : Nat) (A0_0 : Option Addr) (c0_0 : Nat) (l0_0 : List Int) (A0_1 : Option Addr) (c0_1 : Nat) (l0_1 : List (S28)) (a0_2 : Int) (a0_3 : Int) (r1 : Int) (r2 : Int) (r3 : Int) (r4 : ByteArray) (r5 : ByteArray) (r6 : List (S44)) (r7 : Int) (r8 : Int) (c : Nat → Nat) (w : World) (hc : ∀ k, c k < 10) (HP0 : Bx c 1 w g0 111 ([.slice A0_0 l0_0.length c0_0, .slice A0_1 l0_1.length c0_1, .int .i64 a0_2, .int .i64 a0_3])) (HP0_0 : Ft c [0] w (fun w_ => (Kd.int .u8).C w_ A0_0 l0_0.length l0_0)) (HCP0_0 : l0_0.length ≤ c0_0) (HP0_1 : Ft c [0] w (fun w_ => k28.C w_ A0_1 l0_1.length l0_1)) (HCP0_1 : l0_1.length ≤ c0_1) (H : expr_Cursor_Expr.f k l0_0 l0_1 a0_2 a0_3 = some (r1, r2, r3, r4, r5, r6, r7, r8)) :
    Calls Try.prog 51 #[.pointer (some ⟨g0, 0, none⟩)] w fun e w' => ∃ (c' : Nat → Nat) (A_r6 : Option Addr) (c_r6 : Nat), e = .returned (.tuple #[.agg #[.int .i64 r1, .int .i64 r2, .int .i64 r3, .string r4, .string r5, .slice A_r6 r6.length c_r6], .int .i64 r7]) ∧ Step c w c' w' [1] ∧ Ft c' [0] w' (fun w_ => k44.C w_ A_r6 r6.length r6) ∧ r6.length ≤ c_r6 ∧ Bx c' 1 w' g0 111 ([.slice A0_0 l0_0.length c0_0, .slice A0_1 l0_1.length c0_1, .int .i64 r8, .int .i64 a0_3]) := by
 unfold expr_Cursor_Expr.f at H
 have HS := Step.refl c w [1]
 go_enter Try.func51, Try.ntmps51
 refine wp_seq_k fun K46 hK46 => ?_
 refine wl_region ?_
 refine bx_new (C := c) 44 ([.int .i64 0, .int .i64 0, .int .i64 0, .string (⟨#[]⟩ : ByteArray), .string (⟨#[]⟩ : ByteArray), .slice none 0 0]) 11 rfl rfl (by first | (go_simp; done) | (go_simp; rfl)) ?_
 intro g47 w48 C49 HX50 hs51
 replace HP0 := HP0.thru hs51 rfl
 replace HP0_0 := HP0_0.thru hs51 rfl
 replace HP0_1 := HP0_1.thru hs51 rfl
 replace HS := HS.trans hs51 hc rfl
 (try simp only [ls0, ls1])
 refine st (.int .i64 0) rfl rfl (xr_assign _ rfl rfl) ?_
 refine wl_end ?_
 (try simp only [ls0, ls1])
 refine hK46 _ _ ?_
 (try clear hK46 K46)
 refine wp_seq_k fun K52 hK52 => ?_
 refine wp_seq_k fun K53 hK53 => ?_
 refine wl_region ?_
 refine mv_ rfl ?_
 refine st (.bool false) rfl rfl (xr_bin (.pointer (some ⟨g0, 0, none⟩)) (.pointer none) (.bool false) rfl rfl rfl (B.eql_pn ⟨_, Try.underlying57⟩ ⟨g0, 0, none⟩)) ?_
 refine wl_end ?_
 (try simp only [ls0, ls1])
 refine hK53 _ _ ?_
 (try clear hK53 K53)
 refine wp_cond_false rfl ?_
 refine wp_skip ?_
 (try simp only [ls0, ls1])
 refine hK52 _ _ ?_
 (try clear hK52 K52)
 refine wp_seq_k fun K54 hK54 => ?_
 refine wl_region ?_
 refine mv_ rfl ?_
 refine st (.pointer (some ⟨g0, 0, none⟩)) rfl rfl (xr_nilCheck _ rfl rfl) ?_
 refine st (.pointer (some ⟨g0, 3, none⟩)) rfl rfl (xr_fieldAddr _ _ rfl rfl (bx_field2 Try.underlying111 rfl rfl (by kernel_rfl))) ?_
 refine st (.int .i64 a0_3) rfl rfl (xr_load _ _ rfl rfl (load_cell Try.underlying3 rfl (bx_cell (HP0).2 3 rfl))) ?_
 simp only [ls0, ls1]
 refine as_ rfl ?_
 refine wl_end ?_
 (try simp only [ls0, ls1])
 refine hK54 _ _ ?_
 (try clear hK54 K54)
 refine wp_seq_k fun K55 hK55 => ?_
 refine wl_region ?_
 refine mv_ rfl ?_
 obtain ⟨⟨t56, t57, t58, t59, t60, t61, t62, t63, t64⟩, A65, H⟩ := bnd H
 (try dsimp only at H)
 refine st_call #[.pointer (some ⟨g0, 0, none⟩), .int .i64 1] rfl rfl Try.func82 (by kernel_rfl) rfl rfl (mp_ rfl) ?_
 refine (expr_Cursor_binary.calls k g0 A0_0 c0_0 l0_0 A0_1 c0_1 l0_1 a0_2 a0_3 1 t56 t57 t58 t59 t60 t61 t62 t63 t64  (fun z_ => pal [(0, 0), (1, 1)] (C49 z_)) w48 (fun _ => pal_lt rfl _) (Bx.arg HP0 rfl) (Ft.arg HP0_0 rfl) HCP0_0 (Ft.arg HP0_1 rfl) HCP0_1 A65).mono ?_
 rintro _ w67 ⟨C68, A70, cp71, rfl, hs69, HO72, HC73, HX74⟩
 refine ⟨_, rfl, ?_⟩
 replace HO72 := Ft.res (U := [(0, 0), (1, 1)]) HO72 hs69 [0] rfl rfl rfl
 replace HX74 := Bx.res (U := [(0, 0), (1, 1)]) (j := 1) HX74 hs69 (by rfl) (by decide) rfl
 replace hs69 := Step.lift (U := [(0, 0), (1, 1)]) hs69 [1] rfl rfl
 generalize up C49 C68 w48.heap.size [(0, 0), (1, 1)] = C68_ at HO72 HX74 hs69
 replace HP0_0 := HP0_0.thru hs69 rfl
 replace HP0_1 := HP0_1.thru hs69 rfl
 replace HX50 := HX50.thru hs69 rfl
 replace HS := HS.trans hs69 hc rfl
 (try simp only [ls0, ls1])
 refine mv_ rfl ?_
 refine st (.agg #[.int .i64 t56, .int .i64 t57, .int .i64 t58, .string t59, .string t60, .slice A70 t61.length cp71]) rfl rfl (xr_extract (.tuple #[.agg #[.int .i64 t56, .int .i64 t57, .int .i64 t58, .string t59, .string t60, .slice A70 t61.length cp71], .int .i64 t62]) _ rfl rfl rfl) ?_
 refine st (.int .i64 t62) rfl rfl (xr_extract (.tuple #[.agg #[.int .i64 t56, .int .i64 t57, .int .i64 t58, .string t59, .string t60, .slice A70 t61.length cp71], .int .i64 t62]) _ rfl rfl rfl) ?_
 refine bx_new (C := C68_) 44 ([.int .i64 0, .int .i64 0, .int .i64 0, .string (⟨#[]⟩ : ByteArray), .string (⟨#[]⟩ : ByteArray), .slice none 0 0]) 12 rfl rfl (by first | (go_simp; done) | (go_simp; rfl)) ?_
 intro g75 w76 C77 HX78 hs79
 replace HX74 := HX74.thru hs79 rfl
 replace HP0_0 := HP0_0.thru hs79 rfl
 replace HP0_1 := HP0_1.thru hs79 rfl
 replace HX50 := HX50.thru hs79 rfl
 replace HO72 := HO72.thru hs79 rfl
 replace HS := HS.trans hs79 hc rfl
 (try simp only [ls0, ls1])
 refine bx_store (C := C77) (z := 12) (g := g75) (j := 0) (tb := 44) (u := .agg #[.int .i64 t56, .int .i64 t57, .int .i64 t58, .string t59, .string t60, .slice A70 t61.length cp71]) (seg := [.int .i64 t56, .int .i64 t57, .int .i64 t58, .string t59, .string t60, .slice A70 t61.length cp71]) (xs := [.int .i64 0, .int .i64 0, .int .i64 0, .string (⟨#[]⟩ : ByteArray), .string (⟨#[]⟩ : ByteArray), .slice none 0 0]) rfl rfl rfl rfl rfl rfl (by first | kernel_rfl | rfl) (by simp [Value.oneCell']) HX78 (by simp only [List.length_cons, List.length_nil]; omega) rfl ?_
 intro w80 HX81 hs82
 replace HX74 := HX74.thru hs82 rfl
 replace HP0_0 := HP0_0.thru hs82 rfl
 replace HP0_1 := HP0_1.thru hs82 rfl
 replace HX50 := HX50.thru hs82 rfl
 replace HO72 := HO72.thru hs82 rfl
 replace HS := HS.trans hs82 hc rfl
 (try simp only [ls0, ls1])
 refine as_ rfl ?_
 refine wl_end ?_
 (try simp only [ls0, ls1])
 refine hK55 _ _ ?_
 (try clear hK55 K55)
 refine wp_seq_k fun K83 hK83 => ?_
 refine wl_region ?_
 refine mv_ rfl ?_
 refine mv_ rfl ?_
 refine st (.pointer (some ⟨g0, 0, none⟩)) rfl rfl (xr_nilCheck _ rfl rfl) ?_
 refine st (.pointer (some ⟨g0, 3, none⟩)) rfl rfl (xr_fieldAddr _ _ rfl rfl (bx_field2 Try.underlying111 rfl rfl (by kernel_rfl))) ?_
 simp only [ls0, ls1]
 refine bx_store (C := C77) (z := 1) (g := g0) (j := 3) (tb := 111) (u := .int .i64 a0_3) (seg := [.int .i64 a0_3]) (xs := [.slice A0_0 l0_0.length c0_0, .slice A0_1 l0_1.length c0_1, .int .i64 t63, .int .i64 t64]) rfl rfl rfl rfl rfl rfl (by first | kernel_rfl | rfl) (by simp [Value.oneCell']) HX74 (by simp only [List.length_cons, List.length_nil]; omega) rfl ?_
 intro w84 HX85 hs86
 replace HP0_0 := HP0_0.thru hs86 rfl
 replace HP0_1 := HP0_1.thru hs86 rfl
 replace HX50 := HX50.thru hs86 rfl
 replace HO72 := HO72.thru hs86 rfl
 replace HX81 := HX81.thru hs86 rfl
 replace HS := HS.trans hs86 hc rfl
 (try simp only [ls0, ls1])
 refine wl_end ?_
 (try simp only [ls0, ls1])
 refine hK83 _ _ ?_
 (try clear hK83 K83)
 refine wp_seq_k fun K87 hK87 => ?_
 refine wl_region ?_
 refine st (.agg #[.int .i64 t56, .int .i64 t57, .int .i64 t58, .string t59, .string t60, .slice A70 t61.length cp71]) rfl rfl (xr_load _ _ rfl rfl (load_agg (cs := [.int .i64 t56, .int .i64 t57, .int .i64 t58, .string t59, .string t60, .slice A70 t61.length cp71]) Try.underlying44 rfl (by kernel_rfl) (bx_cells (HX81).2 0 rfl))) ?_
 refine mv_ rfl ?_
 refine bx_store (C := C77) (z := 11) (g := g47) (j := 0) (tb := 44) (u := .agg #[.int .i64 t56, .int .i64 t57, .int .i64 t58, .string t59, .string t60, .slice A70 t61.length cp71]) (seg := [.int .i64 t56, .int .i64 t57, .int .i64 t58, .string t59, .string t60, .slice A70 t61.length cp71]) (xs := [.int .i64 0, .int .i64 0, .int .i64 0, .string (⟨#[]⟩ : ByteArray), .string (⟨#[]⟩ : ByteArray), .slice none 0 0]) rfl rfl rfl rfl rfl rfl (by first | kernel_rfl | rfl) (by simp [Value.oneCell']) HX50 (by simp only [List.length_cons, List.length_nil]; omega) rfl ?_
 intro w88 HX89 hs90
 replace HX85 := HX85.thru hs90 rfl
 replace HP0_0 := HP0_0.thru hs90 rfl
 replace HP0_1 := HP0_1.thru hs90 rfl
 replace HO72 := HO72.thru hs90 rfl
 replace HX81 := HX81.thru hs90 rfl
 replace HS := HS.trans hs90 hc rfl
 (try simp only [ls0, ls1])
 refine as_ rfl ?_
 refine wl_end ?_
 (try simp only [ls0, ls1])
 refine hK87 _ _ ?_
 (try clear hK87 K87)
 refine wp_ret ?_
 (try simp only [Exit.inBlock, Exit.then, Exit.noGoto])
 (try simp only [ls0, ls1])
 simp only [Option.some.injEq, Prod.mk.injEq] at H
 obtain ⟨rfl, rfl, rfl, rfl, rfl, rfl, rfl, rfl⟩ := H
 refine bodyPost_ret (res_ct rfl rfl (load_of (load_agg (cs := [.int .i64 t56, .int .i64 t57, .int .i64 t58, .string t59, .string t60, .slice A70 t61.length cp71]) Try.underlying44 rfl (by kernel_rfl) (bx_cells (HX89).2 0 rfl)))) rfl ?_
 exact ⟨_, A70, cp71, rfl, HS, HO72, HC73, HX85⟩

/-! ### expr_Parse: function 33 -/
mutual
def expr_Parse.j0 : Nat → (List Int) → (List Int) → (List (S28)) → Int → Int → Int → Int → ByteArray → ByteArray → (List (S44)) → Int → Int → Option (Int × Int × Int × ByteArray × ByteArray × (List (S44)) × Int × Int)
  | 0, _, _, _, _, _, _, _, _, _, _, _, _ => none
  | k + 1, l0, t229, t230, t232, t250, t251, t252, t253, t254, t255, t257, x310 => if x310 = 0 then (some (t250, t251, t252, t253, t254, t255, (l0.length : Int), 0)) else ((expr_Cursor_Pos.f (some (⟨t229, t230, t257, t232⟩ : S111) : Option S111)).bind fun t329 => (some (0, 0, 0, (⟨#[]⟩ : ByteArray), (⟨#[]⟩ : ByteArray), ([] : List (S44)), t329, x310)))
def expr_Parse.j1 : Nat → (List Int) → (List Int) → (List (S28)) → Int → Int → Int → Int → ByteArray → ByteArray → (List (S44)) → Int → Int → Bool → Option (Int × Int × Int × ByteArray × ByteArray × (List (S44)) × Int × Int)
  | 0, _, _, _, _, _, _, _, _, _, _, _, _, _ => none
  | k + 1, l0, t229, t230, t232, t250, t251, t252, t253, t254, t255, t256, t257, x352 => if x352 = true then (expr_Parse.j0 k l0 t229 t230 t232 t250 t251 t252 t253 t254 t255 t257 11) else (expr_Parse.j0 k l0 t229 t230 t232 t250 t251 t252 t253 t254 t255 t257 t256)
end
def expr_Parse.f (k : Nat) (l0 : List Int) : Option (Int × Int × Int × ByteArray × ByteArray × (List (S44)) × Int × Int) := (lex_All.f k l0).bind fun t194 => ((lex_Bad.f k t194).bind fun bt204 => (if bt204.2.2.2 = true then (some (0, 0, 0, (⟨#[]⟩ : ByteArray), (⟨#[]⟩ : ByteArray), ([] : List (S44)), bt204.2.1, 10)) else ((expr_New.f k l0).bind fun bt229 => ((expr_Cursor_Expr.f k bt229.1 bt229.2.1 bt229.2.2.1 bt229.2.2.2).bind fun bt250 => (if bt250.2.2.2.2.2.2.1 = 0 then ((expr_Cursor_Done.f (some (⟨bt229.1, bt229.2.1, bt250.2.2.2.2.2.2.2, bt229.2.2.2⟩ : S111) : Option S111)).bind fun t365 => (expr_Parse.j1 k l0 bt229.1 bt229.2.1 bt229.2.2.2 bt250.1 bt250.2.1 bt250.2.2.1 bt250.2.2.2.1 bt250.2.2.2.2.1 bt250.2.2.2.2.2.1 bt250.2.2.2.2.2.2.1 bt250.2.2.2.2.2.2.2 (!t365))) else (expr_Parse.j1 k l0 bt229.1 bt229.2.1 bt229.2.2.2 bt250.1 bt250.2.1 bt250.2.2.1 bt250.2.2.2.1 bt250.2.2.2.2.1 bt250.2.2.2.2.2.1 bt250.2.2.2.2.2.2.1 bt250.2.2.2.2.2.2.2 false))))))

set_option maxHeartbeats 8000000 in
set_option maxRecDepth 100000 in
theorem expr_Parse.calls (k : Nat) (A0 : Option Addr) (c0 : Nat) (l0 : List Int) (r1 : Int) (r2 : Int) (r3 : Int) (r4 : ByteArray) (r5 : ByteArray) (r6 : List (S44)) (r7 : Int) (r8 : Int) (c : Nat → Nat) (w : World) (hc : ∀ k, c k < 10) (HP0 : Ft c [0] w (fun w_ => (Kd.int .u8).C w_ A0 l0.length l0)) (HCP0 : l0.length ≤ c0) (H : expr_Parse.f k l0 = some (r1, r2, r3, r4, r5, r6, r7, r8)) :
    Calls Try.prog 33 #[.slice A0 l0.length c0] w fun e w' => ∃ (c' : Nat → Nat) (A_r6 : Option Addr) (c_r6 : Nat), e = .returned (.tuple #[.agg #[.int .i64 r1, .int .i64 r2, .int .i64 r3, .string r4, .string r5, .slice A_r6 r6.length c_r6], .int .i64 r7, .int .i64 r8]) ∧ Step c w c' w' [] ∧ Ft c' [0] w' (fun w_ => k44.C w_ A_r6 r6.length r6) ∧ r6.length ≤ c_r6 := by
 unfold expr_Parse.f at H
 have HS := Step.refl c w []
 go_enter Try.func33, Try.ntmps33
 refine wp_seq_k fun K186 hK186 => ?_
 refine wl_region ?_
 refine bx_new (C := c) 44 ([.int .i64 0, .int .i64 0, .int .i64 0, .string (⟨#[]⟩ : ByteArray), .string (⟨#[]⟩ : ByteArray), .slice none 0 0]) 11 rfl rfl (by first | (go_simp; done) | (go_simp; rfl)) ?_
 intro g187 w188 C189 HX190 hs191
 replace HP0 := HP0.thru hs191 rfl
 replace HS := HS.trans hs191 hc rfl
 (try simp only [ls0, ls1])
 refine st (.int .i64 0) rfl rfl (xr_assign _ rfl rfl) ?_
 refine st (.int .i64 0) rfl rfl (xr_assign _ rfl rfl) ?_
 refine wl_end ?_
 (try simp only [ls0, ls1])
 refine hK186 _ _ ?_
 (try clear hK186 K186)
 refine wp_seq_k fun K192 hK192 => ?_
 refine wp_seq_k fun K193 hK193 => ?_
 refine wl_region ?_
 refine mv_ rfl ?_
 obtain ⟨t194, A195, H⟩ := bnd H
 refine st_call #[.slice A0 l0.length c0] rfl rfl Try.func18 (by kernel_rfl) rfl rfl (mp_ rfl) ?_
 refine (lex_All.calls k A0 c0 l0 t194  (fun z_ => pal [(0, 0)] (C189 z_)) w188 (fun _ => pal_lt rfl _) (Ft.arg HP0 rfl) HCP0 A195).mono ?_
 rintro _ w197 ⟨C198, A200, cp201, rfl, hs199, HO202, HC203⟩
 refine ⟨_, rfl, ?_⟩
 replace HO202 := Own.res (U := [(0, 0), (5, 12)]) (j := 12) HO202 hs199 (by rfl) (by decide) rfl rfl
 replace hs199 := Step.lift (U := [(0, 0), (5, 12)]) hs199 [] rfl rfl
 generalize up C189 C198 w188.heap.size [(0, 0), (5, 12)] = C198_ at HO202 hs199
 replace HP0 := HP0.thru hs199 rfl
 replace HX190 := HX190.thru hs199 rfl
 replace HS := HS.trans hs199 hc rfl
 (try simp only [ls0, ls1])
 obtain ⟨⟨t204, t205, t206, t207⟩, A208, H⟩ := bnd H
 (try dsimp only at H)
 refine st_call #[.slice A200 t194.length cp201] rfl rfl Try.func26 (by kernel_rfl) rfl rfl (mp_ rfl) ?_
 refine (lex_Bad.calls k A200 cp201 t194 t204 t205 t206 t207  (fun z_ => pal [(0, 0), (12, 0)] (C198_ z_)) w197 (fun _ => pal_lt rfl _) (Ft.arg (HO202.ft) rfl) HC203 A208).mono ?_
 rintro _ w210 ⟨C211, rfl, hs212⟩
 refine ⟨_, rfl, ?_⟩
 replace hs212 := Step.lift (U := [(0, 0)]) hs212 [] rfl rfl
 generalize up C198_ C211 w197.heap.size [(0, 0)] = C211_ at hs212
 replace HP0 := HP0.thru hs212 rfl
 replace HX190 := HX190.thru hs212 rfl
 replace HS := HS.trans hs212 hc rfl
 (try simp only [ls0, ls1])
 refine mv_ rfl ?_
 refine st (.agg #[.int .i64 t204, .int .i64 t205, .int .i64 t206]) rfl rfl (xr_extract (.tuple #[.agg #[.int .i64 t204, .int .i64 t205, .int .i64 t206], .bool t207]) _ rfl rfl rfl) ?_
 refine st (.bool t207) rfl rfl (xr_extract (.tuple #[.agg #[.int .i64 t204, .int .i64 t205, .int .i64 t206], .bool t207]) _ rfl rfl rfl) ?_
 refine bx_new (C := C211_) 28 ([.int .i64 0, .int .i64 0, .int .i64 0]) 13 rfl rfl (by first | (go_simp; done) | (go_simp; rfl)) ?_
 intro g213 w214 C215 HX216 hs217
 replace HP0 := HP0.thru hs217 rfl
 replace HX190 := HX190.thru hs217 rfl
 replace HS := HS.trans hs217 hc rfl
 (try simp only [ls0, ls1])
 refine bx_store (C := C215) (z := 13) (g := g213) (j := 0) (tb := 28) (u := .agg #[.int .i64 t204, .int .i64 t205, .int .i64 t206]) (seg := [.int .i64 t204, .int .i64 t205, .int .i64 t206]) (xs := [.int .i64 0, .int .i64 0, .int .i64 0]) rfl rfl rfl rfl rfl rfl (by first | kernel_rfl | rfl) (by simp [Value.oneCell']) HX216 (by simp only [List.length_cons, List.length_nil]; omega) rfl ?_
 intro w218 HX219 hs220
 replace HP0 := HP0.thru hs220 rfl
 replace HX190 := HX190.thru hs220 rfl
 replace HS := HS.trans hs220 hc rfl
 (try simp only [ls0, ls1])
 refine as_ rfl ?_
 refine wl_end ?_
 (try simp only [ls0, ls1])
 refine hK193 _ _ ?_
 (try clear hK193 K193)
 refine wp_seq_k fun K221 hK221 => ?_
 refine wl_region ?_
 refine mv_ rfl ?_
 refine wl_end ?_
 (try simp only [ls0, ls1])
 refine hK221 _ _ ?_
 (try clear hK221 K221)
 by_cases c222 : t207 = true
 ·rw [if_pos c222] at H
  (try rw [c222])
  refine wp_cond_true rfl ?_
  refine wp_seq_k fun K223 hK223 => ?_
  (try simp only [ls0, ls1])
  refine al_start (lb 6 0) rfl rfl rfl (fun w_ => w_.heap[g213]? = some (.cells (List.toArray ([.int .i64 t204, .int .i64 t205, .int .i64 t206])) 28 (0, 0))) (HX219.drew).2 [] ?_
  replace HP0 := HP0.drew
  replace HX190 := HX190.drew
  replace HX219 := HX219.drew
  replace HS := Step.ofDrew HS
  generalize w218.drew = w224 at *
  refine al_pure 0 15 (.agg #[.int .i64 0, .int .i64 0, .int .i64 0, .string (⟨#[]⟩ : ByteArray), .string (⟨#[]⟩ : ByteArray), .slice none 0 0]) (lb 6 1) rfl rfl (by kernel_rfl) (fun _ _ _ => id) rfl (fun w_ => xr_build #[] (.agg #[.int .i64 0, .int .i64 0, .int .i64 0, .string (⟨#[]⟩ : ByteArray), .string (⟨#[]⟩ : ByteArray), .slice none 0 0]) rfl (mp_ rfl) (by first | rfl | (go_simp; done) | (go_simp; rfl) | (go_simp; exact i64_w _) | (go_simp; exact i32_w _))) ?_
  refine al_pure 1 16 (.pointer (some ⟨g213, 1, none⟩)) (lb 6 3) rfl rfl (by kernel_rfl) (fun _ _ _ => id) rfl (fun w_ => xr_fieldAddr _ _ rfl rfl (bx_field2 Try.underlying28 rfl rfl (by kernel_rfl))) ?_
  refine al_take 2 17 (.int .i64 t205) (lb 6 7) rfl rfl (by kernel_rfl) (fun _ _ _ => id) rfl (fun w_ hS_ => xr_load _ _ rfl rfl (load_cell Try.underlying3 rfl (bx_cell hS_ 1 rfl))) (HX219).2 ?_
  refine al_one 3 (lb 6 15) rfl rfl (by kernel_rfl) rfl (fun K_ hK_ => ?_)
  refine bx_store_step (C := C215) (z := 11) (g := g187) (j := 0) (tb := 44) (u := .agg #[.int .i64 0, .int .i64 0, .int .i64 0, .string (⟨#[]⟩ : ByteArray), .string (⟨#[]⟩ : ByteArray), .slice none 0 0]) (seg := [.int .i64 0, .int .i64 0, .int .i64 0, .string (⟨#[]⟩ : ByteArray), .string (⟨#[]⟩ : ByteArray), .slice none 0 0]) (xs := [.int .i64 0, .int .i64 0, .int .i64 0, .string (⟨#[]⟩ : ByteArray), .string (⟨#[]⟩ : ByteArray), .slice none 0 0]) rfl rfl rfl rfl rfl rfl (by first | kernel_rfl | rfl) (by simp [Value.oneCell']) HX190 (by simp only [List.length_cons, List.length_nil]; omega) rfl ?_
  intro w225 HX226 hs227
  replace HX219 := HX219.thru hs227 rfl
  replace HS := HS.trans hs227 hc rfl
  refine hK_ _ _ (HX219).2 ?_
  clear hK_ K_
  (try simp only [Act.put, List.setIfInBounds_toArray, ls0, ls1])
  refine al_as 4 (lb 6 31) rfl rfl (by kernel_rfl) (fun _ _ _ => id) rfl ?_
  refine al_pure 5 4 (.int .i64 10) (lb 6 63) rfl rfl (by kernel_rfl) (fun _ _ _ => id) rfl (fun w_ => xr_assign _ rfl rfl) ?_
  refine al_end (by kernel_rfl) ?_
  (try simp only [ls0, ls1])
  refine hK223 _ _ ?_
  (try clear hK223 K223)
  refine wp_ret ?_
  (try simp only [Exit.inBlock, Exit.then, Exit.noGoto])
  (try simp only [ls0, ls1])
  simp only [Option.some.injEq, Prod.mk.injEq] at H
  obtain ⟨rfl, rfl, rfl, rfl, rfl, rfl, rfl, rfl⟩ := H
  refine bodyPost_ret (res_ctt rfl rfl (load_of (load_agg (cs := [.int .i64 0, .int .i64 0, .int .i64 0, .string (⟨#[]⟩ : ByteArray), .string (⟨#[]⟩ : ByteArray), .slice none 0 0]) Try.underlying44 rfl (by kernel_rfl) (bx_cells (HX226).2 0 rfl)))) rfl ?_
  exact ⟨_, none, 0, rfl, HS, (Kd.F_nil _ _ _), (Nat.le_refl 0)⟩
 rw [if_neg c222] at H
 (try rw [(Bool.eq_false_iff.mpr c222)])
 refine wp_cond_false rfl ?_
 refine wp_skip ?_
 (try simp only [ls0, ls1])
 refine hK192 _ _ ?_
 (try clear hK192 K192)
 refine wp_seq_k fun K228 hK228 => ?_
 refine wl_region ?_
 refine mv_ rfl ?_
 obtain ⟨⟨t229, t230, t231, t232⟩, A233, H⟩ := bnd H
 (try dsimp only at H)
 refine st_call #[.slice A0 l0.length c0] rfl rfl Try.func40 (by kernel_rfl) rfl rfl (mp_ rfl) ?_
 refine (expr_New.calls k A0 c0 l0 t229 t230 t231 t232  (fun z_ => pal [(0, 0)] (C215 z_)) w218 (fun _ => pal_lt rfl _) (Ft.arg HP0 rfl) HCP0 A233).mono ?_
 rintro _ w235 ⟨C236, g238, A239, cp240, A243, cp244, rfl, hs237, HO241, HC242, HO245, HC246, HX247⟩
 refine ⟨_, rfl, ?_⟩
 replace HO241 := Ft.res (U := [(0, 0), (6, 14), (7, 15)]) HO241 hs237 [0] rfl rfl rfl
 replace HO245 := Own.res (U := [(0, 0), (6, 14), (7, 15)]) (j := 14) HO245 hs237 (by rfl) (by decide) rfl rfl
 replace HX247 := Bx.res (U := [(0, 0), (6, 14), (7, 15)]) (j := 15) HX247 hs237 (by rfl) (by decide) rfl
 replace hs237 := Step.lift (U := [(0, 0), (6, 14), (7, 15)]) hs237 [] rfl rfl
 generalize up C215 C236 w218.heap.size [(0, 0), (6, 14), (7, 15)] = C236_ at HO241 HO245 HX247 hs237
 replace HP0 := HP0.thru hs237 rfl
 replace HX190 := HX190.thru hs237 rfl
 replace HX219 := HX219.thru hs237 rfl
 replace HS := HS.trans hs237 hc rfl
 (try simp only [ls0, ls1])
 refine as_ rfl ?_
 refine wl_end ?_
 (try simp only [ls0, ls1])
 refine hK228 _ _ ?_
 (try clear hK228 K228)
 refine wp_seq_k fun K248 hK248 => ?_
 refine wl_region ?_
 refine mv_ rfl ?_
 replace HP0 := Ft.recol (a := 14) (b := 0) HP0 (.inl rfl)
 replace HX190 := Bx.recol (a := 14) (b := 0) HX190 (by decide)
 replace HX219 := Bx.recol (a := 14) (b := 0) HX219 (by decide)
 replace HX247 := Bx.recol (a := 14) (b := 0) HX247 (by decide)
 replace HO241 := Ft.recol (a := 14) (b := 0) HO241 (.inl rfl)
 have HR249 := Ft.recolor (a := 14) (b := 0) (HO245.ft) [0] rfl
 replace HS := Step.recol (a := 14) (b := 0) HS hc (by decide)
 obtain ⟨⟨t250, t251, t252, t253, t254, t255, t256, t257⟩, A258, H⟩ := bnd H
 (try dsimp only at H)
 refine st_call #[.pointer (some ⟨g238, 0, none⟩)] rfl rfl Try.func51 (by kernel_rfl) rfl rfl (mp_ rfl) ?_
 refine (expr_Cursor_Expr.calls k g238 A239 cp240 t229 A243 cp244 t230 t231 t232 t250 t251 t252 t253 t254 t255 t256 t257  (fun z_ => pal [(0, 0), (15, 1)] ((recol C236_ 14 0) z_)) w235 (fun _ => pal_lt rfl _) (Bx.arg HX247 rfl) (Ft.arg HO241 rfl) HC242 (Ft.arg HR249 rfl) HC246 A258).mono ?_
 rintro _ w260 ⟨C261, A263, cp264, rfl, hs262, HO265, HC266, HX267⟩
 refine ⟨_, rfl, ?_⟩
 replace HO265 := Ft.res (U := [(0, 0), (1, 15)]) HO265 hs262 [0] rfl rfl rfl
 replace HX267 := Bx.res (U := [(0, 0), (1, 15)]) (j := 15) HX267 hs262 (by rfl) (by decide) rfl
 replace hs262 := Step.lift (U := [(0, 0), (1, 15)]) hs262 [15] rfl rfl
 generalize up (recol C236_ 14 0) C261 w235.heap.size [(0, 0), (1, 15)] = C261_ at HO265 HX267 hs262
 replace HP0 := HP0.thru hs262 rfl
 replace HX190 := HX190.thru hs262 rfl
 replace HX219 := HX219.thru hs262 rfl
 replace HO241 := HO241.thru hs262 rfl
 replace HR249 := HR249.thru hs262 rfl
 replace HS := HS.trans hs262 hc rfl
 (try simp only [ls0, ls1])
 refine mv_ rfl ?_
 refine st (.agg #[.int .i64 t250, .int .i64 t251, .int .i64 t252, .string t253, .string t254, .slice A263 t255.length cp264]) rfl rfl (xr_extract (.tuple #[.agg #[.int .i64 t250, .int .i64 t251, .int .i64 t252, .string t253, .string t254, .slice A263 t255.length cp264], .int .i64 t256]) _ rfl rfl rfl) ?_
 refine st (.int .i64 t256) rfl rfl (xr_extract (.tuple #[.agg #[.int .i64 t250, .int .i64 t251, .int .i64 t252, .string t253, .string t254, .slice A263 t255.length cp264], .int .i64 t256]) _ rfl rfl rfl) ?_
 refine bx_store (C := C261_) (z := 11) (g := g187) (j := 0) (tb := 44) (u := .agg #[.int .i64 t250, .int .i64 t251, .int .i64 t252, .string t253, .string t254, .slice A263 t255.length cp264]) (seg := [.int .i64 t250, .int .i64 t251, .int .i64 t252, .string t253, .string t254, .slice A263 t255.length cp264]) (xs := [.int .i64 0, .int .i64 0, .int .i64 0, .string (⟨#[]⟩ : ByteArray), .string (⟨#[]⟩ : ByteArray), .slice none 0 0]) rfl rfl rfl rfl rfl rfl (by first | kernel_rfl | rfl) (by simp [Value.oneCell']) HX190 (by simp only [List.length_cons, List.length_nil]; omega) rfl ?_
 intro w268 HX269 hs270
 replace HP0 := HP0.thru hs270 rfl
 replace HO265 := HO265.thru hs270 rfl
 replace HX219 := HX219.thru hs270 rfl
 replace HX267 := HX267.thru hs270 rfl
 replace HO241 := HO241.thru hs270 rfl
 replace HR249 := HR249.thru hs270 rfl
 replace HS := HS.trans hs270 hc rfl
 (try simp only [ls0, ls1])
 refine as_ rfl ?_
 refine wl_end ?_
 (try simp only [ls0, ls1])
 refine hK248 _ _ ?_
 (try clear hK248 K248)
 refine wp_seq_k fun K271 hK271 => ?_
 have hj305 : ∀ (kq317 : Nat) (C306 : Nat → Nat) (w307 : World) (x310 : Int) (g_ : Nat → Value), Step c w C306 w307 [] → kq317 ≤ k → (Ft C306 [0] w307 (fun w_ => (Kd.int .u8).C w_ A0 l0.length l0)) → (Ft C306 [0] w307 (fun w_ => k44.C w_ A263 t255.length t255)) → (Bx C306 11 w307 g187 44 ([.int .i64 t250, .int .i64 t251, .int .i64 t252, .string t253, .string t254, .slice A263 t255.length cp264])) → (Bx C306 13 w307 g213 28 ([.int .i64 t204, .int .i64 t205, .int .i64 t206])) → (Ft C306 [0] w307 (fun w_ => (Kd.int .u8).C w_ A239 t229.length t229)) → (Ft C306 [0] w307 (fun w_ => k28.C w_ A243 t230.length t230)) → (Bx C306 15 w307 g238 111 ([.slice A239 t229.length cp240, .slice A243 t230.length cp244, .int .i64 t257, .int .i64 t232])) → expr_Parse.j0 kq317 l0 t229 t230 t232 t250 t251 t252 t253 t254 t255 t257 x310 = some (r1, r2, r3, r4, r5, r6, r7, r8) → K271 ⟨#[.slice A0 l0.length c0, (g_ 1), .pointer (some ⟨g187, 0, none⟩), (g_ 3), .int .i64 x310, (g_ 5), (g_ 6), .pointer (some ⟨g238, 0, none⟩), (g_ 8), (g_ 9), (g_ 10), (g_ 11), (g_ 12), (g_ 13), (g_ 14), (g_ 15), (g_ 16), (g_ 17), (g_ 18), (g_ 19), (g_ 20), (g_ 21), (g_ 22), (g_ 23), (g_ 24), (g_ 25), (g_ 26), (g_ 27), (g_ 28), (g_ 29), (g_ 30), (g_ 31), (g_ 32), (g_ 33), (g_ 34), (g_ 35), (g_ 36), (g_ 37), (g_ 38), (g_ 39), (g_ 40)], []⟩ w307 := by
  intro kq317 C306 w307 x310 g_ HS308 hk318 HJ309 HJ311 HJ312 HJ313 HJ314 HJ315 HJ316 H
  cases kq317 with
  | zero => exact absurd H (by simp [expr_Parse.j0])
  | succ k319 =>
   simp only [expr_Parse.j0] at H
   refine hK271 _ _ ?_
   (try clear hK271)
   refine wp_seq_k fun K320 hK320 => ?_
   refine wp_seq_k fun K321 hK321 => ?_
   refine wl_region ?_
   refine mv_ rfl ?_
   refine st (.bool (!decide (x310 = 0))) rfl rfl (xr_bin _ _ _ rfl rfl rfl (B.neq_i64 _ _)) ?_
   refine wl_end ?_
   (try simp only [ls0, ls1])
   refine hK321 _ _ ?_
   (try clear hK321 K321)
   by_cases c322 : x310 = 0
   ·rw [if_pos c322] at H
    (try rw [(decide_eq_true c322)])
    (try simp only [Bool.not_true, Bool.not_false])
    refine wp_cond_false rfl ?_
    refine wp_skip ?_
    (try simp only [ls0, ls1])
    refine hK320 _ _ ?_
    (try clear hK320 K320)
    refine wp_seq_k fun K323 hK323 => ?_
    refine wl_region ?_
    refine st (.agg #[.int .i64 t250, .int .i64 t251, .int .i64 t252, .string t253, .string t254, .slice A263 t255.length cp264]) rfl rfl (xr_load _ _ rfl rfl (load_agg (cs := [.int .i64 t250, .int .i64 t251, .int .i64 t252, .string t253, .string t254, .slice A263 t255.length cp264]) Try.underlying44 rfl (by kernel_rfl) (bx_cells (HJ312).2 0 rfl))) ?_
    refine mv_ rfl ?_
    refine st (.int .i64 (l0.length : Int)) rfl rfl (xr_builtin #[.slice A0 l0.length c0] (.int .i64 (l0.length : Int)) rfl (mp_ rfl) (by first | rfl | (go_simp; done) | (go_simp; rfl) | (go_simp; exact i64_w _) | (go_simp; exact i32_w _))) ?_
    refine bx_store (C := C306) (z := 11) (g := g187) (j := 0) (tb := 44) (u := .agg #[.int .i64 t250, .int .i64 t251, .int .i64 t252, .string t253, .string t254, .slice A263 t255.length cp264]) (seg := [.int .i64 t250, .int .i64 t251, .int .i64 t252, .string t253, .string t254, .slice A263 t255.length cp264]) (xs := [.int .i64 t250, .int .i64 t251, .int .i64 t252, .string t253, .string t254, .slice A263 t255.length cp264]) rfl rfl rfl rfl rfl rfl (by first | kernel_rfl | rfl) (by simp [Value.oneCell']) HJ312 (by simp only [List.length_cons, List.length_nil]; omega) rfl ?_
    intro w324 HX325 hs326
    replace HJ311 := HJ311.thru hs326 rfl
    replace HJ313 := HJ313.thru hs326 rfl
    replace HJ316 := HJ316.thru hs326 rfl
    replace HJ314 := HJ314.thru hs326 rfl
    replace HJ315 := HJ315.thru hs326 rfl
    replace HS308 := HS308.trans hs326 hc rfl
    (try simp only [ls0, ls1])
    refine as_ rfl ?_
    refine st (.int .i64 0) rfl rfl (xr_assign _ rfl rfl) ?_
    refine wl_end ?_
    (try simp only [ls0, ls1])
    refine hK323 _ _ ?_
    (try clear hK323 K323)
    refine wp_ret ?_
    (try simp only [Exit.inBlock, Exit.then, Exit.noGoto])
    (try simp only [ls0, ls1])
    simp only [Option.some.injEq, Prod.mk.injEq] at H
    obtain ⟨rfl, rfl, rfl, rfl, rfl, rfl, rfl, rfl⟩ := H
    refine bodyPost_ret (res_ctt rfl rfl (load_of (load_agg (cs := [.int .i64 t250, .int .i64 t251, .int .i64 t252, .string t253, .string t254, .slice A263 t255.length cp264]) Try.underlying44 rfl (by kernel_rfl) (bx_cells (HX325).2 0 rfl)))) rfl ?_
    exact ⟨_, A263, cp264, rfl, HS308, HJ311, HC266⟩
   rw [if_neg c322] at H
   (try rw [(decide_eq_false c322)])
   (try simp only [Bool.not_true, Bool.not_false])
   refine wp_cond_true rfl ?_
   refine wp_seq_k fun K327 hK327 => ?_
   refine wl_region ?_
   refine st (.agg #[.int .i64 0, .int .i64 0, .int .i64 0, .string (⟨#[]⟩ : ByteArray), .string (⟨#[]⟩ : ByteArray), .slice none 0 0]) rfl rfl (xr_build #[] (.agg #[.int .i64 0, .int .i64 0, .int .i64 0, .string (⟨#[]⟩ : ByteArray), .string (⟨#[]⟩ : ByteArray), .slice none 0 0]) rfl (mp_ rfl) (by first | rfl | (go_simp; done) | (go_simp; rfl) | (go_simp; exact i64_w _) | (go_simp; exact i32_w _))) ?_
   refine mv_ rfl ?_
   have HP328 : Ft C306 [0, 15] w307 (fun w_ => (Kd.ptr 111 k111).K w_ (some (⟨t229, t230, t257, t232⟩ : S111)) [.pointer (some ⟨g238, 0, none⟩)]) := ptr_mk (Ft.more (HJ316.ft) rfl) (k111_mkF _ _ (⟨t229, t230, t257, t232⟩ : S111) HC242 (Ft.more HJ314 rfl) HC246 (Ft.more HJ315 rfl))
   obtain ⟨t329, A330, H⟩ := bnd H
   refine st_call #[.pointer (some ⟨g238, 0, none⟩)] rfl rfl Try.func44 (by kernel_rfl) rfl rfl (mp_ rfl) ?_
   refine (expr_Cursor_Pos.calls (.pointer (some ⟨g238, 0, none⟩)) (some (⟨t229, t230, t257, t232⟩ : S111) : Option S111) t329  (fun z_ => pal [(0, 0), (15, 0)] (C306 z_)) w307 (fun _ => pal_lt rfl _) (Ft.arg HP328 rfl) A330).mono ?_
   rintro _ w332 ⟨C333, rfl, hs334⟩
   refine ⟨_, rfl, ?_⟩
   replace hs334 := Step.lift (U := [(0, 0)]) hs334 [] rfl rfl
   generalize up C306 C333 w307.heap.size [(0, 0)] = C333_ at hs334
   replace HJ312 := HJ312.thru hs334 rfl
   replace HJ311 := HJ311.thru hs334 rfl
   replace HJ313 := HJ313.thru hs334 rfl
   replace HJ316 := HJ316.thru hs334 rfl
   replace HJ314 := HJ314.thru hs334 rfl
   replace HJ315 := HJ315.thru hs334 rfl
   replace HS308 := HS308.trans hs334 hc rfl
   (try simp only [ls0, ls1])
   refine mv_ rfl ?_
   refine bx_store (C := C333_) (z := 11) (g := g187) (j := 0) (tb := 44) (u := .agg #[.int .i64 0, .int .i64 0, .int .i64 0, .string (⟨#[]⟩ : ByteArray), .string (⟨#[]⟩ : ByteArray), .slice none 0 0]) (seg := [.int .i64 0, .int .i64 0, .int .i64 0, .string (⟨#[]⟩ : ByteArray), .string (⟨#[]⟩ : ByteArray), .slice none 0 0]) (xs := [.int .i64 t250, .int .i64 t251, .int .i64 t252, .string t253, .string t254, .slice A263 t255.length cp264]) rfl rfl rfl rfl rfl rfl (by first | kernel_rfl | rfl) (by simp [Value.oneCell']) HJ312 (by simp only [List.length_cons, List.length_nil]; omega) rfl ?_
   intro w335 HX336 hs337
   replace HJ313 := HJ313.thru hs337 rfl
   replace HJ316 := HJ316.thru hs337 rfl
   replace HJ314 := HJ314.thru hs337 rfl
   replace HJ315 := HJ315.thru hs337 rfl
   replace HS308 := HS308.trans hs337 hc rfl
   (try simp only [ls0, ls1])
   refine as_ rfl ?_
   refine as_ rfl ?_
   refine wl_end ?_
   (try simp only [ls0, ls1])
   refine hK327 _ _ ?_
   (try clear hK327 K327)
   refine wp_ret ?_
   (try simp only [Exit.inBlock, Exit.then, Exit.noGoto])
   (try simp only [ls0, ls1])
   simp only [Option.some.injEq, Prod.mk.injEq] at H
   obtain ⟨rfl, rfl, rfl, rfl, rfl, rfl, rfl, rfl⟩ := H
   refine bodyPost_ret (res_ctt rfl rfl (load_of (load_agg (cs := [.int .i64 0, .int .i64 0, .int .i64 0, .string (⟨#[]⟩ : ByteArray), .string (⟨#[]⟩ : ByteArray), .slice none 0 0]) Try.underlying44 rfl (by kernel_rfl) (bx_cells (HX336).2 0 rfl)))) rfl ?_
   exact ⟨_, none, 0, rfl, HS308, (Kd.F_nil _ _ _), (Nat.le_refl 0)⟩
 refine wp_seq_k fun K338 hK338 => ?_
 have hj347 : ∀ (kq359 : Nat) (C348 : Nat → Nat) (w349 : World) (x352 : Bool) (g_ : Nat → Value), Step c w C348 w349 [] → kq359 ≤ k → (Ft C348 [0] w349 (fun w_ => (Kd.int .u8).C w_ A0 l0.length l0)) → (Ft C348 [0] w349 (fun w_ => k44.C w_ A263 t255.length t255)) → (Bx C348 11 w349 g187 44 ([.int .i64 t250, .int .i64 t251, .int .i64 t252, .string t253, .string t254, .slice A263 t255.length cp264])) → (Bx C348 13 w349 g213 28 ([.int .i64 t204, .int .i64 t205, .int .i64 t206])) → (Ft C348 [0] w349 (fun w_ => (Kd.int .u8).C w_ A239 t229.length t229)) → (Ft C348 [0] w349 (fun w_ => k28.C w_ A243 t230.length t230)) → (Bx C348 15 w349 g238 111 ([.slice A239 t229.length cp240, .slice A243 t230.length cp244, .int .i64 t257, .int .i64 t232])) → expr_Parse.j1 kq359 l0 t229 t230 t232 t250 t251 t252 t253 t254 t255 t256 t257 x352 = some (r1, r2, r3, r4, r5, r6, r7, r8) → K338 ⟨#[.slice A0 l0.length c0, (g_ 1), .pointer (some ⟨g187, 0, none⟩), (g_ 3), .int .i64 t256, (g_ 5), (g_ 6), .pointer (some ⟨g238, 0, none⟩), (g_ 8), (g_ 9), (g_ 10), (g_ 11), (g_ 12), (g_ 13), (g_ 14), (g_ 15), (g_ 16), (g_ 17), (g_ 18), (g_ 19), (g_ 20), (g_ 21), (g_ 22), (g_ 23), (g_ 24), (g_ 25), (g_ 26), (g_ 27), (g_ 28), (g_ 29), (g_ 30), .bool x352, (g_ 32), (g_ 33), (g_ 34), (g_ 35), (g_ 36), (g_ 37), (g_ 38), (g_ 39), (g_ 40)], []⟩ w349 := by
  intro kq359 C348 w349 x352 g_ HS350 hk360 HJ351 HJ353 HJ354 HJ355 HJ356 HJ357 HJ358 H
  cases kq359 with
  | zero => exact absurd H (by simp [expr_Parse.j1])
  | succ k361 =>
   simp only [expr_Parse.j1] at H
   refine hK338 _ _ ?_
   (try clear hK338)
   by_cases c362 : x352 = true
   ·rw [if_pos c362] at H
    (try rw [c362])
    refine wp_cond_true rfl ?_
    refine wl_region ?_
    refine st (.int .i64 11) rfl rfl (xr_assign _ rfl rfl) ?_
    refine wl_end ?_
    (try simp only [ls0, ls1])
    exact jmp (fun g_ => hj305 _ _ _ (11) g_ HS350 (by omega) HJ351 HJ353 HJ354 HJ355 HJ356 HJ357 HJ358 H) rfl
   rw [if_neg c362] at H
   (try rw [(Bool.eq_false_iff.mpr c362)])
   refine wp_cond_false rfl ?_
   refine wp_skip ?_
   (try simp only [ls0, ls1])
   exact jmp (fun g_ => hj305 _ _ _ (t256) g_ HS350 (by omega) HJ351 HJ353 HJ354 HJ355 HJ356 HJ357 HJ358 H) rfl
 refine wl_region ?_
 refine mv_ rfl ?_
 refine st (.bool (decide (t256 = 0))) rfl rfl (xr_bin _ _ _ rfl rfl rfl (B.eql_i64 _ _)) ?_
 refine mv_ rfl ?_
 by_cases c363 : t256 = 0
 ·rw [if_pos c363] at H
  (try rw [(decide_eq_true c363)])
  refine on_guard (guard_on 2 true 27 rfl rfl rfl) ?_
  refine mv_ rfl ?_
  simp only [ls0, ls1]
  refine on_guard (guard_on 2 true 27 rfl rfl rfl) ?_
  have HP364 : Ft C261_ [0, 15] w268 (fun w_ => (Kd.ptr 111 k111).K w_ (some (⟨t229, t230, t257, t232⟩ : S111)) [.pointer (some ⟨g238, 0, none⟩)]) := ptr_mk (Ft.more (HX267.ft) rfl) (k111_mkF _ _ (⟨t229, t230, t257, t232⟩ : S111) HC242 (Ft.more HO241 rfl) HC246 (Ft.more HR249 rfl))
  obtain ⟨t365, A366, H⟩ := bnd H
  refine st_call #[.pointer (some ⟨g238, 0, none⟩)] rfl rfl Try.func47 (by kernel_rfl) rfl rfl (mp_ rfl) ?_
  refine (expr_Cursor_Done.calls (.pointer (some ⟨g238, 0, none⟩)) (some (⟨t229, t230, t257, t232⟩ : S111) : Option S111) t365  (fun z_ => pal [(0, 0), (15, 0)] (C261_ z_)) w268 (fun _ => pal_lt rfl _) (Ft.arg HP364 rfl) A366).mono ?_
  rintro _ w368 ⟨C369, rfl, hs370⟩
  refine ⟨_, rfl, ?_⟩
  replace hs370 := Step.lift (U := [(0, 0)]) hs370 [] rfl rfl
  generalize up C261_ C369 w268.heap.size [(0, 0)] = C369_ at hs370
  replace HP0 := HP0.thru hs370 rfl
  replace HX269 := HX269.thru hs370 rfl
  replace HO265 := HO265.thru hs370 rfl
  replace HX219 := HX219.thru hs370 rfl
  replace HX267 := HX267.thru hs370 rfl
  replace HO241 := HO241.thru hs370 rfl
  replace HR249 := HR249.thru hs370 rfl
  replace HS := HS.trans hs370 hc rfl
  (try simp only [ls0, ls1])
  refine on_guard (guard_on 2 true 27 rfl rfl rfl) ?_
  refine st (.bool (!t365)) rfl rfl (xr_un (.bool t365) _ rfl rfl (by first | rfl | (go_simp; done) | (go_simp; rfl) | (go_simp; exact i64_w _) | (go_simp; exact i32_w _))) ?_
  refine st (.bool (!t365)) rfl rfl (xr_pick true _ rfl rfl rfl) ?_
  refine wl_end ?_
  (try simp only [ls0, ls1])
  exact jmp (fun g_ => hj347 _ _ _ (!t365) g_ HS (by omega) HP0 HO265 HX269 HX219 HO241 HR249 HX267 H) rfl
 rw [if_neg c363] at H
 (try rw [(decide_eq_false c363)])
 refine sk_guard (guard_off 2 true 27 rfl rfl false (by decide) rfl) rfl ?_
 refine sk_guard (guard_off 2 true 27 rfl rfl false (by decide) rfl) rfl ?_
 refine sk_guard (guard_off 2 true 27 rfl rfl false (by decide) rfl) rfl ?_
 refine st (.bool false) rfl rfl (xr_pick false _ rfl rfl rfl) ?_
 simp only [ls0, ls1]
 refine wl_end ?_
 (try simp only [ls0, ls1])
 exact jmp (fun g_ => hj347 _ _ _ (false) g_ HS (by omega) HP0 HO265 HX269 HX219 HO241 HR249 HX267 H) rfl

/-! ### blazonlaw08_awake: function 32 -/
def blazonlaw08_awake.f (k : Nat)  : Option (Bool) := (some ([49, 43, 50, 42, 120] : List Int)).bind fun y85 => ((expr_Parse.f k y85).bind fun bt94 => ((some ([102, 40] : List Int)).bind fun y120 => ((expr_Parse.f k y120).bind fun bt129 => (if bt94.2.2.2.2.2.2.2 = 0 then (if bt94.2.2.2.1 = (⟨#[43]⟩ : ByteArray) then (if (bt94.2.2.2.2.2.1.length : Int) = 2 then (if 1 < (bt94.2.2.2.2.2.1.length : Int) then (if ((rd_T44 bt94.2.2.2.2.2.1 1).f3) = (⟨#[42]⟩ : ByteArray) then (if bt129.2.2.2.2.2.2.2 = 11 then (some (decide (bt129.2.2.2.2.2.2.1 = 2))) else (some false)) else (some false)) else (none)) else (some false)) else (some false)) else (some false)))))

set_option maxHeartbeats 8000000 in
set_option maxRecDepth 100000 in
theorem blazonlaw08_awake.calls (k : Nat)  (r : Bool) (c : Nat → Nat) (w : World) (hc : ∀ k, c k < 10)  (H : blazonlaw08_awake.f k = some r) :
    Calls Try.prog 32 #[] w fun e w' => ∃ (c' : Nat → Nat) , e = .returned (.bool r) ∧ Step c w c' w' [] := by
 unfold blazonlaw08_awake.f at H
 have HS := Step.refl c w []
 go_enter Try.func32, Try.ntmps32
 refine wp_seq_k fun K83 hK83 => ?_
 refine wl_region ?_
 refine st (.bool false) rfl rfl (xr_assign _ rfl rfl) ?_
 refine wl_end ?_
 (try simp only [ls0, ls1])
 refine hK83 _ _ ?_
 (try clear hK83 K83)
 refine wp_seq_k fun K84 hK84 => ?_
 refine wl_region ?_
 obtain ⟨y85, A86, H⟩ := bnd H
 refine own_litconv (C := c) 5 rfl rfl (xs := [49, 43, 50, 42, 120]) (inner := [.int .u8 49, .int .u8 43, .int .u8 50, .int .u8 42, .int .u8 120]) (by first | (go_simp; done) | (go_simp; rfl)) rfl 22 rfl _ rfl rfl Try.underlying22 Try.underlying5 (by simp only [List.length_cons, List.length_nil]; omega) 11 (Option.some.inj A86) ?_
 intro A87 cp88 w89 C90 HO91 HC92 hs93
 replace HS := HS.trans hs93 hc rfl
 (try simp only [Act.put, List.setIfInBounds_toArray, ls0, ls1])
 (try simp only [ls0, ls1])
 replace HO91 := Ft.recolor (a := 11) (b := 0) HO91 [0] rfl
 replace HS := Step.recol (a := 11) (b := 0) HS hc (by decide)
 obtain ⟨⟨t94, t95, t96, t97, t98, t99, t100, t101⟩, A102, H⟩ := bnd H
 (try dsimp only at H)
 refine st_call #[.slice A87 y85.length cp88] rfl rfl Try.func33 (by kernel_rfl) rfl rfl (mp_ rfl) ?_
 refine (expr_Parse.calls k A87 cp88 y85 t94 t95 t96 t97 t98 t99 t100 t101  (fun z_ => pal [(0, 0)] ((recol C90 11 0) z_)) w89 (fun _ => pal_lt rfl _) (Ft.arg HO91 rfl) HC92 A102).mono ?_
 rintro _ w104 ⟨C105, A107, cp108, rfl, hs106, HO109, HC110⟩
 refine ⟨_, rfl, ?_⟩
 replace HO109 := Ft.res (U := [(0, 0)]) HO109 hs106 [0] rfl rfl rfl
 replace hs106 := Step.lift (U := [(0, 0)]) hs106 [] rfl rfl
 generalize up (recol C90 11 0) C105 w89.heap.size [(0, 0)] = C105_ at HO109 hs106
 replace HS := HS.trans hs106 hc rfl
 (try simp only [ls0, ls1])
 refine mv_ rfl ?_
 refine st (.agg #[.int .i64 t94, .int .i64 t95, .int .i64 t96, .string t97, .string t98, .slice A107 t99.length cp108]) rfl rfl (xr_extract (.tuple #[.agg #[.int .i64 t94, .int .i64 t95, .int .i64 t96, .string t97, .string t98, .slice A107 t99.length cp108], .int .i64 t100, .int .i64 t101]) _ rfl rfl rfl) ?_
 refine st (.int .i64 t100) rfl rfl (xr_extract (.tuple #[.agg #[.int .i64 t94, .int .i64 t95, .int .i64 t96, .string t97, .string t98, .slice A107 t99.length cp108], .int .i64 t100, .int .i64 t101]) _ rfl rfl rfl) ?_
 refine st (.int .i64 t101) rfl rfl (xr_extract (.tuple #[.agg #[.int .i64 t94, .int .i64 t95, .int .i64 t96, .string t97, .string t98, .slice A107 t99.length cp108], .int .i64 t100, .int .i64 t101]) _ rfl rfl rfl) ?_
 simp only [ls0, ls1]
 refine bx_new (C := C105_) 44 ([.int .i64 0, .int .i64 0, .int .i64 0, .string (⟨#[]⟩ : ByteArray), .string (⟨#[]⟩ : ByteArray), .slice none 0 0]) 12 rfl rfl (by first | (go_simp; done) | (go_simp; rfl)) ?_
 intro g111 w112 C113 HX114 hs115
 replace HO109 := HO109.thru hs115 rfl
 replace HS := HS.trans hs115 hc rfl
 (try simp only [ls0, ls1])
 refine bx_store (C := C113) (z := 12) (g := g111) (j := 0) (tb := 44) (u := .agg #[.int .i64 t94, .int .i64 t95, .int .i64 t96, .string t97, .string t98, .slice A107 t99.length cp108]) (seg := [.int .i64 t94, .int .i64 t95, .int .i64 t96, .string t97, .string t98, .slice A107 t99.length cp108]) (xs := [.int .i64 0, .int .i64 0, .int .i64 0, .string (⟨#[]⟩ : ByteArray), .string (⟨#[]⟩ : ByteArray), .slice none 0 0]) rfl rfl rfl rfl rfl rfl (by first | kernel_rfl | rfl) (by simp [Value.oneCell']) HX114 (by simp only [List.length_cons, List.length_nil]; omega) rfl ?_
 intro w116 HX117 hs118
 replace HO109 := HO109.thru hs118 rfl
 replace HS := HS.trans hs118 hc rfl
 (try simp only [ls0, ls1])
 refine as_ rfl ?_
 refine as_ rfl ?_
 refine wl_end ?_
 (try simp only [ls0, ls1])
 refine hK84 _ _ ?_
 (try clear hK84 K84)
 refine wp_seq_k fun K119 hK119 => ?_
 refine wl_region ?_
 obtain ⟨y120, A121, H⟩ := bnd H
 refine own_litconv (C := C113) 5 rfl rfl (xs := [102, 40]) (inner := [.int .u8 102, .int .u8 40]) (by first | (go_simp; done) | (go_simp; rfl)) rfl 22 rfl _ rfl rfl Try.underlying22 Try.underlying5 (by simp only [List.length_cons, List.length_nil]; omega) 13 (Option.some.inj A121) ?_
 intro A122 cp123 w124 C125 HO126 HC127 hs128
 replace HO109 := HO109.thru hs128 rfl
 replace HX117 := HX117.thru hs128 rfl
 replace HS := HS.trans hs128 hc rfl
 (try simp only [Act.put, List.setIfInBounds_toArray, ls0, ls1])
 (try simp only [ls0, ls1])
 replace HO109 := Ft.recol (a := 13) (b := 0) HO109 (.inl rfl)
 replace HX117 := Bx.recol (a := 13) (b := 0) HX117 (by decide)
 replace HO126 := Ft.recolor (a := 13) (b := 0) HO126 [0] rfl
 replace HS := Step.recol (a := 13) (b := 0) HS hc (by decide)
 obtain ⟨⟨t129, t130, t131, t132, t133, t134, t135, t136⟩, A137, H⟩ := bnd H
 (try dsimp only at H)
 refine st_call #[.slice A122 y120.length cp123] rfl rfl Try.func33 (by kernel_rfl) rfl rfl (mp_ rfl) ?_
 refine (expr_Parse.calls k A122 cp123 y120 t129 t130 t131 t132 t133 t134 t135 t136  (fun z_ => pal [(0, 0)] ((recol C125 13 0) z_)) w124 (fun _ => pal_lt rfl _) (Ft.arg HO126 rfl) HC127 A137).mono ?_
 rintro _ w139 ⟨C140, A142, cp143, rfl, hs141, HO144, HC145⟩
 refine ⟨_, rfl, ?_⟩
 replace HO144 := Ft.res (U := [(0, 0)]) HO144 hs141 [0] rfl rfl rfl
 replace hs141 := Step.lift (U := [(0, 0)]) hs141 [] rfl rfl
 generalize up (recol C125 13 0) C140 w124.heap.size [(0, 0)] = C140_ at HO144 hs141
 replace HO109 := HO109.thru hs141 rfl
 replace HX117 := HX117.thru hs141 rfl
 replace HS := HS.trans hs141 hc rfl
 (try simp only [ls0, ls1])
 refine mv_ rfl ?_
 refine st (.agg #[.int .i64 t129, .int .i64 t130, .int .i64 t131, .string t132, .string t133, .slice A142 t134.length cp143]) rfl rfl (xr_extract (.tuple #[.agg #[.int .i64 t129, .int .i64 t130, .int .i64 t131, .string t132, .string t133, .slice A142 t134.length cp143], .int .i64 t135, .int .i64 t136]) _ rfl rfl rfl) ?_
 refine st (.int .i64 t135) rfl rfl (xr_extract (.tuple #[.agg #[.int .i64 t129, .int .i64 t130, .int .i64 t131, .string t132, .string t133, .slice A142 t134.length cp143], .int .i64 t135, .int .i64 t136]) _ rfl rfl rfl) ?_
 refine st (.int .i64 t136) rfl rfl (xr_extract (.tuple #[.agg #[.int .i64 t129, .int .i64 t130, .int .i64 t131, .string t132, .string t133, .slice A142 t134.length cp143], .int .i64 t135, .int .i64 t136]) _ rfl rfl rfl) ?_
 simp only [ls0, ls1]
 refine bx_new (C := C140_) 44 ([.int .i64 0, .int .i64 0, .int .i64 0, .string (⟨#[]⟩ : ByteArray), .string (⟨#[]⟩ : ByteArray), .slice none 0 0]) 14 rfl rfl (by first | (go_simp; done) | (go_simp; rfl)) ?_
 intro g146 w147 C148 HX149 hs150
 replace HO109 := HO109.thru hs150 rfl
 replace HX117 := HX117.thru hs150 rfl
 replace HO144 := HO144.thru hs150 rfl
 replace HS := HS.trans hs150 hc rfl
 (try simp only [ls0, ls1])
 refine bx_store (C := C148) (z := 14) (g := g146) (j := 0) (tb := 44) (u := .agg #[.int .i64 t129, .int .i64 t130, .int .i64 t131, .string t132, .string t133, .slice A142 t134.length cp143]) (seg := [.int .i64 t129, .int .i64 t130, .int .i64 t131, .string t132, .string t133, .slice A142 t134.length cp143]) (xs := [.int .i64 0, .int .i64 0, .int .i64 0, .string (⟨#[]⟩ : ByteArray), .string (⟨#[]⟩ : ByteArray), .slice none 0 0]) rfl rfl rfl rfl rfl rfl (by first | kernel_rfl | rfl) (by simp [Value.oneCell']) HX149 (by simp only [List.length_cons, List.length_nil]; omega) rfl ?_
 intro w151 HX152 hs153
 replace HO109 := HO109.thru hs153 rfl
 replace HX117 := HX117.thru hs153 rfl
 replace HO144 := HO144.thru hs153 rfl
 replace HS := HS.trans hs153 hc rfl
 (try simp only [ls0, ls1])
 refine as_ rfl ?_
 refine as_ rfl ?_
 refine wl_end ?_
 (try simp only [ls0, ls1])
 refine hK119 _ _ ?_
 (try clear hK119 K119)
 refine wp_seq_k fun K154 hK154 => ?_
 refine wl_region ?_
 refine mv_ rfl ?_
 refine st (.bool (decide (t101 = 0))) rfl rfl (xr_bin _ _ _ rfl rfl rfl (B.eql_i64 _ _)) ?_
 refine mv_ rfl ?_
 by_cases c155 : t101 = 0
 ·rw [if_pos c155] at H
  (try rw [(decide_eq_true c155)])
  refine on_guard (guard_on 2 true 23 rfl rfl rfl) ?_
  refine st (.pointer (some ⟨g111, 3, none⟩)) rfl rfl (xr_fieldAddr _ _ rfl rfl (bx_field2 Try.underlying44 rfl rfl (by kernel_rfl))) ?_
  simp only [ls0, ls1]
  refine on_guard (guard_on 2 true 23 rfl rfl rfl) ?_
  refine st (.string t97) rfl rfl (xr_load _ _ rfl rfl (load_cell Try.underlying9 rfl (bx_cell (HX117).2 3 rfl))) ?_
  refine on_guard (guard_on 2 true 23 rfl rfl rfl) ?_
  refine st (.bool (decide (t97 = (⟨#[43]⟩ : ByteArray)))) rfl rfl (xr_bin _ _ _ rfl rfl rfl (B.eql_str _ _)) ?_
  refine st (.bool (decide (t97 = (⟨#[43]⟩ : ByteArray)))) rfl rfl (xr_pick true _ rfl rfl rfl) ?_
  refine mv_ rfl ?_
  simp only [ls0, ls1]
  by_cases c156 : t97 = (⟨#[43]⟩ : ByteArray)
  ·rw [if_pos c156] at H
   (try rw [(decide_eq_true c156)])
   refine on_guard (guard_on 7 true 28 rfl rfl rfl) ?_
   refine st (.pointer (some ⟨g111, 5, none⟩)) rfl rfl (xr_fieldAddr _ _ rfl rfl (bx_field2 Try.underlying44 rfl rfl (by kernel_rfl))) ?_
   refine on_guard (guard_on 7 true 28 rfl rfl rfl) ?_
   refine st (.slice A107 t99.length cp108) rfl rfl (xr_load _ _ rfl rfl (load_cell Try.underlying42 rfl (bx_cell (HX117).2 5 rfl))) ?_
   refine on_guard (guard_on 7 true 28 rfl rfl rfl) ?_
   refine st (.int .i64 (t99.length : Int)) rfl rfl (xr_builtin #[.slice A107 t99.length cp108] (.int .i64 (t99.length : Int)) rfl (mp_ rfl) (by first | rfl | (go_simp; done) | (go_simp; rfl) | (go_simp; exact i64_w _) | (go_simp; exact i32_w _))) ?_
   refine on_guard (guard_on 7 true 28 rfl rfl rfl) ?_
   refine st (.bool (decide ((t99.length : Int) = 2))) rfl rfl (xr_bin _ _ _ rfl rfl rfl (B.eql_i64 _ _)) ?_
   simp only [ls0, ls1]
   refine st (.bool (decide ((t99.length : Int) = 2))) rfl rfl (xr_pick true _ rfl rfl rfl) ?_
   refine mv_ rfl ?_
   by_cases c157 : (t99.length : Int) = 2
   ·rw [if_pos c157] at H
    (try rw [(decide_eq_true c157)])
    refine on_guard (guard_on 13 true 34 rfl rfl rfl) ?_
    refine st (.pointer (some ⟨g111, 5, none⟩)) rfl rfl (xr_fieldAddr _ _ rfl rfl (bx_field2 Try.underlying44 rfl rfl (by kernel_rfl))) ?_
    refine on_guard (guard_on 13 true 34 rfl rfl rfl) ?_
    refine st (.slice A107 t99.length cp108) rfl rfl (xr_load _ _ rfl rfl (load_cell Try.underlying42 rfl (bx_cell (HX117).2 5 rfl))) ?_
    simp only [ls0, ls1]
    refine on_guard (guard_on 13 true 34 rfl rfl rfl) ?_
    obtain ⟨c158, H⟩ := if_some H
    obtain ⟨ad159, hA160⟩ := c_addr (Ft.now HO109) (pos_of (j := 1) (by first | assumption | decide) (by first | assumption | omega))
    refine st (.pointer (some (ad159.add ((1 : Int).toNat * 6)))) rfl rfl (xr_indexAddr _ _ _ rfl rfl rfl (index_at Try.underlying42 info44 hA160 (by first | assumption | decide | omega) (by first | assumption | decide | omega))) ?_
    refine on_guard (guard_on 13 true 34 rfl rfl rfl) ?_
    refine st (.pointer (some ((ad159.add ((1 : Int).toNat * 6)).add 3))) rfl rfl (xr_fieldAddr _ _ rfl rfl (field_at2 Try.underlying44 rfl rfl (by kernel_rfl))) ?_
    refine on_guard (guard_on 13 true 34 rfl rfl rfl) ?_
    obtain ⟨csq162, _, hKq162, hcq162, hinq162⟩ := Ft.elem HO109 hA160 z44 1 (by first | assumption | decide | omega) (by first | assumption | decide | omega) (by decide)
    obtain ⟨Aq162_5, cpq162_5, rfl, HCq162_5, HRq162_5⟩ := k44_openF hKq162
    replace HRq162_5 : Ft C148 [0] w151 (fun w_ => k44.C w_ Aq162_5 (rd_T44 t99 1).f5.length (rd_T44 t99 1).f5) := HRq162_5
    refine st (.string ((rd_T44 t99 1).f3)) rfl rfl (xr_load (.pointer (some ((ad159.add ((1 : Int).toNat * 6)).add 3))) (.string ((rd_T44 t99 1).f3)) rfl rfl (load_cell Try.underlying9 rfl (hcq162 3 _ rfl))) ?_
    refine on_guard (guard_on 13 true 34 rfl rfl rfl) ?_
    refine st (.bool (decide (((rd_T44 t99 1).f3) = (⟨#[42]⟩ : ByteArray)))) rfl rfl (xr_bin _ _ _ rfl rfl rfl (B.eql_str _ _)) ?_
    simp only [ls0, ls1]
    refine st (.bool (decide (((rd_T44 t99 1).f3) = (⟨#[42]⟩ : ByteArray)))) rfl rfl (xr_pick true _ rfl rfl rfl) ?_
    refine mv_ rfl ?_
    by_cases c163 : ((rd_T44 t99 1).f3) = (⟨#[42]⟩ : ByteArray)
    ·rw [if_pos c163] at H
     (try rw [(decide_eq_true c163)])
     refine on_guard (guard_on 21 true 42 rfl rfl rfl) ?_
     refine mv_ rfl ?_
     refine on_guard (guard_on 21 true 42 rfl rfl rfl) ?_
     refine st (.bool (decide (t136 = 11))) rfl rfl (xr_bin _ _ _ rfl rfl rfl (B.eql_i64 _ _)) ?_
     simp only [ls0, ls1]
     refine st (.bool (decide (t136 = 11))) rfl rfl (xr_pick true _ rfl rfl rfl) ?_
     refine mv_ rfl ?_
     by_cases c164 : t136 = 11
     ·rw [if_pos c164] at H
      (try rw [(decide_eq_true c164)])
      refine on_guard (guard_on 25 true 46 rfl rfl rfl) ?_
      refine mv_ rfl ?_
      refine on_guard (guard_on 25 true 46 rfl rfl rfl) ?_
      refine st (.bool (decide (t135 = 2))) rfl rfl (xr_bin _ _ _ rfl rfl rfl (B.eql_i64 _ _)) ?_
      simp only [ls0, ls1]
      refine st (.bool (decide (t135 = 2))) rfl rfl (xr_pick true _ rfl rfl rfl) ?_
      refine as_ rfl ?_
      refine wl_end ?_
      (try simp only [ls0, ls1])
      refine hK154 _ _ ?_
      (try clear hK154 K154)
      refine wp_ret ?_
      (try simp only [Exit.inBlock, Exit.then, Exit.noGoto])
      (try simp only [ls0, ls1])
      obtain rfl := Option.some.inj H
      refine bodyPost_ret (results_tmp rfl _ _ _) rfl ?_
      exact ⟨_, rfl, HS⟩
     rw [if_neg c164] at H
     (try rw [(decide_eq_false c164)])
     refine sk_guard (guard_off 25 true 46 rfl rfl false (by decide) rfl) rfl ?_
     refine sk_guard (guard_off 25 true 46 rfl rfl false (by decide) rfl) rfl ?_
     refine st (.bool false) rfl rfl (xr_pick false _ rfl rfl rfl) ?_
     refine as_ rfl ?_
     simp only [ls0, ls1]
     refine wl_end ?_
     (try simp only [ls0, ls1])
     refine hK154 _ _ ?_
     (try clear hK154 K154)
     refine wp_ret ?_
     (try simp only [Exit.inBlock, Exit.then, Exit.noGoto])
     (try simp only [ls0, ls1])
     obtain rfl := Option.some.inj H
     refine bodyPost_ret (results_tmp rfl _ _ _) rfl ?_
     exact ⟨_, rfl, HS⟩
    rw [if_neg c163] at H
    (try rw [(decide_eq_false c163)])
    refine sk_guard (guard_off 21 true 42 rfl rfl false (by decide) rfl) rfl ?_
    refine sk_guard (guard_off 21 true 42 rfl rfl false (by decide) rfl) rfl ?_
    refine st (.bool false) rfl rfl (xr_pick false _ rfl rfl rfl) ?_
    refine mv_ rfl ?_
    simp only [ls0, ls1]
    refine sk_guard (guard_off 25 true 46 rfl rfl false (by decide) rfl) rfl ?_
    refine sk_guard (guard_off 25 true 46 rfl rfl false (by decide) rfl) rfl ?_
    refine st (.bool false) rfl rfl (xr_pick false _ rfl rfl rfl) ?_
    refine as_ rfl ?_
    simp only [ls0, ls1]
    refine wl_end ?_
    (try simp only [ls0, ls1])
    refine hK154 _ _ ?_
    (try clear hK154 K154)
    refine wp_ret ?_
    (try simp only [Exit.inBlock, Exit.then, Exit.noGoto])
    (try simp only [ls0, ls1])
    obtain rfl := Option.some.inj H
    refine bodyPost_ret (results_tmp rfl _ _ _) rfl ?_
    exact ⟨_, rfl, HS⟩
   rw [if_neg c157] at H
   (try rw [(decide_eq_false c157)])
   refine sk_guard (guard_off 13 true 34 rfl rfl false (by decide) rfl) rfl ?_
   refine sk_guard (guard_off 13 true 34 rfl rfl false (by decide) rfl) rfl ?_
   refine sk_guard (guard_off 13 true 34 rfl rfl false (by decide) rfl) rfl ?_
   refine sk_guard (guard_off 13 true 34 rfl rfl false (by decide) rfl) rfl ?_
   simp only [ls0, ls1]
   refine sk_guard (guard_off 13 true 34 rfl rfl false (by decide) rfl) rfl ?_
   refine sk_guard (guard_off 13 true 34 rfl rfl false (by decide) rfl) rfl ?_
   refine st (.bool false) rfl rfl (xr_pick false _ rfl rfl rfl) ?_
   refine mv_ rfl ?_
   simp only [ls0, ls1]
   refine sk_guard (guard_off 21 true 42 rfl rfl false (by decide) rfl) rfl ?_
   refine sk_guard (guard_off 21 true 42 rfl rfl false (by decide) rfl) rfl ?_
   refine st (.bool false) rfl rfl (xr_pick false _ rfl rfl rfl) ?_
   refine mv_ rfl ?_
   simp only [ls0, ls1]
   refine sk_guard (guard_off 25 true 46 rfl rfl false (by decide) rfl) rfl ?_
   refine sk_guard (guard_off 25 true 46 rfl rfl false (by decide) rfl) rfl ?_
   refine st (.bool false) rfl rfl (xr_pick false _ rfl rfl rfl) ?_
   refine as_ rfl ?_
   simp only [ls0, ls1]
   refine wl_end ?_
   (try simp only [ls0, ls1])
   refine hK154 _ _ ?_
   (try clear hK154 K154)
   refine wp_ret ?_
   (try simp only [Exit.inBlock, Exit.then, Exit.noGoto])
   (try simp only [ls0, ls1])
   obtain rfl := Option.some.inj H
   refine bodyPost_ret (results_tmp rfl _ _ _) rfl ?_
   exact ⟨_, rfl, HS⟩
  rw [if_neg c156] at H
  (try rw [(decide_eq_false c156)])
  refine sk_guard (guard_off 7 true 28 rfl rfl false (by decide) rfl) rfl ?_
  refine sk_guard (guard_off 7 true 28 rfl rfl false (by decide) rfl) rfl ?_
  refine sk_guard (guard_off 7 true 28 rfl rfl false (by decide) rfl) rfl ?_
  refine sk_guard (guard_off 7 true 28 rfl rfl false (by decide) rfl) rfl ?_
  simp only [ls0, ls1]
  refine st (.bool false) rfl rfl (xr_pick false _ rfl rfl rfl) ?_
  refine mv_ rfl ?_
  refine sk_guard (guard_off 13 true 34 rfl rfl false (by decide) rfl) rfl ?_
  refine sk_guard (guard_off 13 true 34 rfl rfl false (by decide) rfl) rfl ?_
  simp only [ls0, ls1]
  refine sk_guard (guard_off 13 true 34 rfl rfl false (by decide) rfl) rfl ?_
  refine sk_guard (guard_off 13 true 34 rfl rfl false (by decide) rfl) rfl ?_
  refine sk_guard (guard_off 13 true 34 rfl rfl false (by decide) rfl) rfl ?_
  refine sk_guard (guard_off 13 true 34 rfl rfl false (by decide) rfl) rfl ?_
  simp only [ls0, ls1]
  refine st (.bool false) rfl rfl (xr_pick false _ rfl rfl rfl) ?_
  refine mv_ rfl ?_
  refine sk_guard (guard_off 21 true 42 rfl rfl false (by decide) rfl) rfl ?_
  refine sk_guard (guard_off 21 true 42 rfl rfl false (by decide) rfl) rfl ?_
  simp only [ls0, ls1]
  refine st (.bool false) rfl rfl (xr_pick false _ rfl rfl rfl) ?_
  refine mv_ rfl ?_
  refine sk_guard (guard_off 25 true 46 rfl rfl false (by decide) rfl) rfl ?_
  refine sk_guard (guard_off 25 true 46 rfl rfl false (by decide) rfl) rfl ?_
  simp only [ls0, ls1]
  refine st (.bool false) rfl rfl (xr_pick false _ rfl rfl rfl) ?_
  refine as_ rfl ?_
  refine wl_end ?_
  (try simp only [ls0, ls1])
  refine hK154 _ _ ?_
  (try clear hK154 K154)
  refine wp_ret ?_
  (try simp only [Exit.inBlock, Exit.then, Exit.noGoto])
  (try simp only [ls0, ls1])
  obtain rfl := Option.some.inj H
  refine bodyPost_ret (results_tmp rfl _ _ _) rfl ?_
  exact ⟨_, rfl, HS⟩
 rw [if_neg c155] at H
 (try rw [(decide_eq_false c155)])
 refine sk_guard (guard_off 2 true 23 rfl rfl false (by decide) rfl) rfl ?_
 refine sk_guard (guard_off 2 true 23 rfl rfl false (by decide) rfl) rfl ?_
 refine sk_guard (guard_off 2 true 23 rfl rfl false (by decide) rfl) rfl ?_
 refine st (.bool false) rfl rfl (xr_pick false _ rfl rfl rfl) ?_
 simp only [ls0, ls1]
 refine mv_ rfl ?_
 refine sk_guard (guard_off 7 true 28 rfl rfl false (by decide) rfl) rfl ?_
 refine sk_guard (guard_off 7 true 28 rfl rfl false (by decide) rfl) rfl ?_
 refine sk_guard (guard_off 7 true 28 rfl rfl false (by decide) rfl) rfl ?_
 simp only [ls0, ls1]
 refine sk_guard (guard_off 7 true 28 rfl rfl false (by decide) rfl) rfl ?_
 refine st (.bool false) rfl rfl (xr_pick false _ rfl rfl rfl) ?_
 refine mv_ rfl ?_
 refine sk_guard (guard_off 13 true 34 rfl rfl false (by decide) rfl) rfl ?_
 simp only [ls0, ls1]
 refine sk_guard (guard_off 13 true 34 rfl rfl false (by decide) rfl) rfl ?_
 refine sk_guard (guard_off 13 true 34 rfl rfl false (by decide) rfl) rfl ?_
 refine sk_guard (guard_off 13 true 34 rfl rfl false (by decide) rfl) rfl ?_
 refine sk_guard (guard_off 13 true 34 rfl rfl false (by decide) rfl) rfl ?_
 simp only [ls0, ls1]
 refine sk_guard (guard_off 13 true 34 rfl rfl false (by decide) rfl) rfl ?_
 refine st (.bool false) rfl rfl (xr_pick false _ rfl rfl rfl) ?_
 refine mv_ rfl ?_
 refine sk_guard (guard_off 21 true 42 rfl rfl false (by decide) rfl) rfl ?_
 simp only [ls0, ls1]
 refine sk_guard (guard_off 21 true 42 rfl rfl false (by decide) rfl) rfl ?_
 refine st (.bool false) rfl rfl (xr_pick false _ rfl rfl rfl) ?_
 refine mv_ rfl ?_
 refine sk_guard (guard_off 25 true 46 rfl rfl false (by decide) rfl) rfl ?_
 simp only [ls0, ls1]
 refine sk_guard (guard_off 25 true 46 rfl rfl false (by decide) rfl) rfl ?_
 refine st (.bool false) rfl rfl (xr_pick false _ rfl rfl rfl) ?_
 refine as_ rfl ?_
 refine wl_end ?_
 (try simp only [ls0, ls1])
 refine hK154 _ _ ?_
 (try clear hK154 K154)
 refine wp_ret ?_
 (try simp only [Exit.inBlock, Exit.then, Exit.noGoto])
 (try simp only [ls0, ls1])
 obtain rfl := Option.some.inj H
 refine bodyPost_ret (results_tmp rfl _ _ _) rfl ?_
 exact ⟨_, rfl, HS⟩

/-! ### expr_Cursor_End: function 50 -/
def expr_Cursor_End.f (x0 : Option S111) : Option (Int) := onOpt x0 (some 0) (fun o67 => (if o67.f2 = 0 then (some 0) else (if 0 ≤ (wrap64 (o67.f2 - 1)) then (if (wrap64 (o67.f2 - 1)) < (o67.f1.length : Int) then (some ((rd_T28 o67.f1 (wrap64 (o67.f2 - 1))).f2)) else (none)) else (none))))
set_option maxHeartbeats 8000000 in
set_option maxRecDepth 100000 in
theorem expr_Cursor_End.calls (v0 : Value) (x0 : Option S111) (r : Int) (c : Nat → Nat) (w : World) (hc : ∀ k, c k < 10) (HP0 : Ft c [0] w (fun w_ => (Kd.ptr 111 k111).K w_ x0 [v0])) (H : expr_Cursor_End.f x0 = some r) :
    Calls Try.prog 50 #[v0] w fun e w' => ∃ (c' : Nat → Nat) , e = .returned (.int .i64 r) ∧ Step c w c' w' [] := by
 unfold expr_Cursor_End.f at H
 have HS := Step.refl c w []
 go_enter Try.func50, Try.ntmps50
 refine wp_seq_k fun K42 hK42 => ?_
 refine wl_region ?_
 refine st (.int .i64 0) rfl rfl (xr_assign _ rfl rfl) ?_
 refine wl_end ?_
 (try simp only [ls0, ls1])
 refine hK42 _ _ ?_
 (try clear hK42 K42)
 refine wp_seq_k fun K43 hK43 => ?_
 refine wp_seq_k fun K60 hK60 => ?_
 refine wl_region ?_
 refine mv_ rfl ?_
 cases x0 with
 | none =>
  (try simp only [onOpt] at H)
  obtain rfl := ptr_none HP0
  refine st (.bool true) rfl rfl (xr_bin (.pointer none) (.pointer none) (.bool true) rfl rfl rfl (B.eql_nn ⟨_, Try.underlying57⟩ (⟨0, 0, none⟩ : Addr))) ?_
  refine mv_ rfl ?_
  simp only [ls0, ls1]
  refine sk_guard (guard_off 2 false 5 rfl rfl true (by decide) rfl) rfl ?_
  refine sk_guard (guard_off 2 false 5 rfl rfl true (by decide) rfl) rfl ?_
  refine sk_guard (guard_off 2 false 5 rfl rfl true (by decide) rfl) rfl ?_
  refine sk_guard (guard_off 2 false 5 rfl rfl true (by decide) rfl) rfl ?_
  simp only [ls0, ls1]
  refine sk_guard (guard_off 2 false 5 rfl rfl true (by decide) rfl) rfl ?_
  refine st (.bool true) rfl rfl (xr_pick true _ rfl rfl rfl) ?_
  refine wl_end ?_
  (try simp only [ls0, ls1])
  refine hK60 _ _ ?_
  (try clear hK60 K60)
  refine wp_cond_true rfl ?_
  refine wp_seq_k fun K68 hK68 => ?_
  refine wl_region ?_
  refine st (.int .i64 0) rfl rfl (xr_assign _ rfl rfl) ?_
  refine wl_end ?_
  (try simp only [ls0, ls1])
  refine hK68 _ _ ?_
  (try clear hK68 K68)
  refine wp_ret ?_
  (try simp only [Exit.inBlock, Exit.then, Exit.noGoto])
  (try simp only [ls0, ls1])
  obtain rfl := Option.some.inj H
  refine bodyPost_ret (results_tmp rfl _ _ _) rfl ?_
  exact ⟨_, rfl, HS⟩
 | some o67 =>
  (try simp only [onOpt] at H)
  obtain ⟨g69, cs70, rfl, HX71, HK72⟩ := ptr_some HP0
  obtain ⟨Aq73_0, cpq73_0, Aq73_1, cpq73_1, rfl, HCq73_0, HRq73_0, HCq73_1, HRq73_1⟩ := k111_openF HK72
  replace HRq73_0 : Ft c [0] w (fun w_ => (Kd.int .u8).C w_ Aq73_0 o67.f0.length o67.f0) := HRq73_0
  replace HRq73_1 : Ft c [0] w (fun w_ => k28.C w_ Aq73_1 o67.f1.length o67.f1) := HRq73_1
  refine st (.bool false) rfl rfl (xr_bin (.pointer (some ⟨g69, 0, none⟩)) (.pointer none) (.bool false) rfl rfl rfl (B.eql_pn ⟨_, Try.underlying57⟩ ⟨g69, 0, none⟩)) ?_
  refine mv_ rfl ?_
  refine on_guard (guard_on 2 false 5 rfl rfl rfl) ?_
  refine mv_ rfl ?_
  refine on_guard (guard_on 2 false 5 rfl rfl rfl) ?_
  refine st (.pointer (some ⟨g69, 0, none⟩)) rfl rfl (xr_nilCheck _ rfl rfl) ?_
  simp only [ls0, ls1]
  refine on_guard (guard_on 2 false 5 rfl rfl rfl) ?_
  refine st (.pointer (some ⟨g69, 2, none⟩)) rfl rfl (xr_fieldAddr _ _ rfl rfl (bx_field2 Try.underlying111 rfl rfl (by kernel_rfl))) ?_
  refine on_guard (guard_on 2 false 5 rfl rfl rfl) ?_
  refine st (.int .i64 o67.f2) rfl rfl (xr_load _ _ rfl rfl (load_cell Try.underlying3 rfl (bx_cell (Ft.now HX71) 2 rfl))) ?_
  refine on_guard (guard_on 2 false 5 rfl rfl rfl) ?_
  refine st (.bool (decide (o67.f2 = 0))) rfl rfl (xr_bin _ _ _ rfl rfl rfl (B.eql_i64 _ _)) ?_
  refine st (.bool (decide (o67.f2 = 0))) rfl rfl (xr_pick false _ rfl rfl rfl) ?_
  simp only [ls0, ls1]
  refine wl_end ?_
  (try simp only [ls0, ls1])
  refine hK60 _ _ ?_
  (try clear hK60 K60)
  by_cases c74 : o67.f2 = 0
  ·rw [if_pos c74] at H
   (try rw [(decide_eq_true c74)])
   refine wp_cond_true rfl ?_
   refine wp_seq_k fun K75 hK75 => ?_
   refine wl_region ?_
   refine st (.int .i64 0) rfl rfl (xr_assign _ rfl rfl) ?_
   refine wl_end ?_
   (try simp only [ls0, ls1])
   refine hK75 _ _ ?_
   (try clear hK75 K75)
   refine wp_ret ?_
   (try simp only [Exit.inBlock, Exit.then, Exit.noGoto])
   (try simp only [ls0, ls1])
   obtain rfl := Option.some.inj H
   refine bodyPost_ret (results_tmp rfl _ _ _) rfl ?_
   exact ⟨_, rfl, HS⟩
  rw [if_neg c74] at H
  (try rw [(decide_eq_false c74)])
  refine wp_cond_false rfl ?_
  refine wp_skip ?_
  (try simp only [ls0, ls1])
  refine hK43 _ _ ?_
  (try clear hK43 K43)
  refine wp_seq_k fun K76 hK76 => ?_
  (try simp only [ls0, ls1])
  refine al_start (lb 13 0) rfl rfl rfl (fun w_ => (Kd.int .u8).C w_ Aq73_0 o67.f0.length o67.f0 ∧ k28.C w_ Aq73_1 o67.f1.length o67.f1 ∧ w_.heap[g69]? = some (.cells (List.toArray ([.slice Aq73_0 o67.f0.length cpq73_0, .slice Aq73_1 o67.f1.length cpq73_1, .int .i64 o67.f2, .int .i64 o67.f3])) 111 (0, 0))) ⟨(Ft.now ((HRq73_0).drew)), (Ft.now ((HRq73_1).drew)), (Ft.now (HX71.drew))⟩ [] ?_
  replace HX71 := HX71.drew
  replace HRq73_0 := HRq73_0.drew
  replace HRq73_1 := HRq73_1.drew
  replace HS := Step.ofDrew HS
  generalize w.drew = w77 at *
  refine al_mv 0 (lb 13 1) rfl rfl (by kernel_rfl) (fun _ _ _ => id) rfl ?_
  refine al_pure 1 13 (.pointer (some ⟨g69, 0, none⟩)) (lb 13 3) rfl rfl (by kernel_rfl) (fun _ _ _ => id) rfl (fun w_ => xr_nilCheck _ rfl rfl) ?_
  refine al_pure 2 14 (.pointer (some ⟨g69, 1, none⟩)) (lb 13 7) rfl rfl (by kernel_rfl) (fun _ _ _ => id) rfl (fun w_ => xr_fieldAddr _ _ rfl rfl (bx_field2 Try.underlying111 rfl rfl (by kernel_rfl))) ?_
  refine al_mv 4 (lb 13 23) rfl rfl (by kernel_rfl) (fun _ _ _ => id) rfl ?_
  simp only [ls0, ls1]
  refine al_pure 5 17 (.pointer (some ⟨g69, 0, none⟩)) (lb 13 55) rfl rfl (by kernel_rfl) (fun _ _ _ => id) rfl (fun w_ => xr_nilCheck _ rfl rfl) ?_
  refine al_pure 6 18 (.pointer (some ⟨g69, 2, none⟩)) (lb 13 119) rfl rfl (by kernel_rfl) (fun _ _ _ => id) rfl (fun w_ => xr_fieldAddr _ _ rfl rfl (bx_field2 Try.underlying111 rfl rfl (by kernel_rfl))) ?_
  refine al_take 3 15 (.slice Aq73_1 o67.f1.length cpq73_1) (lb 13 127) rfl rfl (by kernel_rfl) (fun _ _ _ => id) rfl (fun w_ hS_ => xr_load _ _ rfl rfl (load_cell Try.underlying24 rfl (bx_cell hS_.2.2 1 rfl))) ⟨(Ft.now HRq73_0), (Ft.now HRq73_1), (Ft.now (HX71))⟩ ?_
  refine al_take 7 19 (.int .i64 o67.f2) (lb 13 255) rfl rfl (by kernel_rfl) (fun _ _ _ => id) rfl (fun w_ hS_ => xr_load _ _ rfl rfl (load_cell Try.underlying3 rfl (bx_cell hS_.2.2 2 rfl))) ⟨(Ft.now HRq73_0), (Ft.now HRq73_1), (Ft.now (HX71))⟩ ?_
  simp only [ls0, ls1]
  refine al_pure 8 20 (.int .i64 (wrap64 (o67.f2 - 1))) (lb 13 511) rfl rfl (by kernel_rfl) (fun _ _ _ => id) rfl (fun w_ => xr_bin _ _ _ rfl rfl rfl (B.sub_i64 _ _)) ?_
  obtain ⟨c78, H⟩ := if_some H
  obtain ⟨c79, H⟩ := if_some H
  obtain ⟨ad80, hA81⟩ := c_addr (Ft.now HRq73_1) (pos_of (j := (wrap64 (o67.f2 - 1))) (by first | assumption | decide) (by first | assumption | omega))
  refine al_pure 9 21 (.pointer (some (ad80.add ((wrap64 (o67.f2 - 1) : Int).toNat * 3)))) (lb 13 1023) rfl rfl (by kernel_rfl) (fun _ _ _ => id) rfl (fun w_ => xr_indexAddr _ _ _ rfl rfl rfl (index_at Try.underlying24 info28 hA81 (by first | assumption | decide | omega) (by first | assumption | decide | omega))) ?_
  refine al_pure 10 22 (.pointer (some ((ad80.add ((wrap64 (o67.f2 - 1) : Int).toNat * 3)).add 2))) (lb 13 2047) rfl rfl (by kernel_rfl) (fun _ _ _ => id) rfl (fun w_ => xr_fieldAddr _ _ rfl rfl (field_at2 Try.underlying28 rfl rfl (by kernel_rfl))) ?_
  refine al_take 11 23 (.int .i64 ((rd_T28 o67.f1 (wrap64 (o67.f2 - 1))).f2)) (lb 13 4095) rfl rfl (by kernel_rfl) (fun _ _ _ => id) rfl (fun w_ hS_ => xr_load (.pointer (some ((ad80.add ((wrap64 (o67.f2 - 1) : Int).toNat * 3)).add 2))) (.int .i64 ((rd_T28 o67.f1 (wrap64 (o67.f2 - 1))).f2)) rfl rfl (by obtain ⟨ad_, cs_, e_, _, hK_, hc_⟩ := Kd.C_get hS_.2.1 z28 (wrap64 (o67.f2 - 1)) (by first | assumption | decide | omega) (by first | assumption | decide | omega); rw [hA81] at e_; injection e_ with e_; subst e_; obtain rfl := k28_open hK_; exact load_cell Try.underlying3 rfl (by first | (rw [add_add]; exact hc_ 2 _ rfl) | (have h_ := hc_ 2 _ rfl; rw [Nat.add_zero] at h_; exact h_)))) ⟨(Ft.now HRq73_0), (Ft.now HRq73_1), (Ft.now (HX71))⟩ ?_
  simp only [ls0, ls1]
  refine al_as 12 (lb 13 8191) rfl rfl (by kernel_rfl) (fun _ _ _ => id) rfl ?_
  refine al_end (by kernel_rfl) ?_
  (try simp only [ls0, ls1])
  refine hK76 _ _ ?_
  (try clear hK76 K76)
  refine wp_ret ?_
  (try simp only [Exit.inBlock, Exit.then, Exit.noGoto])
  (try simp only [ls0, ls1])
  obtain rfl := Option.some.inj H
  refine bodyPost_ret (results_tmp rfl _ _ _) rfl ?_
  exact ⟨_, rfl, HS⟩

structure Rec_blazonlaw08_inside where
  blazonlaw08_inside : Int → Int → Int → ByteArray → ByteArray → (List (S44)) → Int → Option (Bool)
structure Rec_blazonlaw08_inside.Good (r_ : Rec_blazonlaw08_inside) : Prop where
  blazonlaw08_inside : ∀ (a0_0 : Int) (a0_1 : Int) (a0_2 : Int) (a0_3 : ByteArray) (a0_4 : ByteArray) (A0_5 : Option Addr) (c0_5 : Nat) (l0_5 : List (S44)) (a1 : Int) (r : Bool) (c : Nat → Nat) (w : World) (hc : ∀ k, c k < 10) (HP0_5 : Ft c [0] w (fun w_ => k44.C w_ A0_5 l0_5.length l0_5)) (HCP0_5 : l0_5.length ≤ c0_5) (H : r_.blazonlaw08_inside a0_0 a0_1 a0_2 a0_3 a0_4 l0_5 a1 = some r),
    Calls Try.prog 53 #[.agg #[.int .i64 a0_0, .int .i64 a0_1, .int .i64 a0_2, .string a0_3, .string a0_4, .slice A0_5 l0_5.length c0_5], .int .i64 a1] w fun e w' => ∃ (c' : Nat → Nat) , e = .returned (.bool r) ∧ Step c w c' w' []

/-! ### blazonlaw08_inside: function 53 -/
def blazonlaw08_inside.l0 (r_ : Rec_blazonlaw08_inside) : Nat → Int → Int → (List (S44)) → Int → Option (Bool)
  | 0, _, _, _, _ => none
  | k + 1, a0_1, a1, l0_5, x323 => if x323 < (l0_5.length : Int) then (if 0 ≤ x323 then (if ((rd_T44 l0_5 x323).f1) < a0_1 then (some false) else (if ((rd_T44 l0_5 x323).f1) ≥ a1 then (some false) else ((r_.blazonlaw08_inside ((rd_T44 l0_5 x323).f0) ((rd_T44 l0_5 x323).f1) ((rd_T44 l0_5 x323).f2) ((rd_T44 l0_5 x323).f3) ((rd_T44 l0_5 x323).f4) ((rd_T44 l0_5 x323).f5) a1).bind fun t384 => (if t384 = true then (blazonlaw08_inside.l0 r_ k a0_1 a1 l0_5 (wrap64 (x323 + 1))) else (some false))))) else (none)) else (some true)
def blazonlaw08_inside.g (r_ : Rec_blazonlaw08_inside) (k : Nat) (a0_0 : Int) (a0_1 : Int) (a0_2 : Int) (a0_3 : ByteArray) (a0_4 : ByteArray) (l0_5 : List (S44)) (a1 : Int) : Option (Bool) := blazonlaw08_inside.l0 r_ k a0_1 a1 l0_5 0

set_option maxHeartbeats 8000000 in
set_option maxRecDepth 100000 in
theorem blazonlaw08_inside.step (r_ : Rec_blazonlaw08_inside) (IH : Rec_blazonlaw08_inside.Good r_) (k : Nat) (a0_0 : Int) (a0_1 : Int) (a0_2 : Int) (a0_3 : ByteArray) (a0_4 : ByteArray) (A0_5 : Option Addr) (c0_5 : Nat) (l0_5 : List (S44)) (a1 : Int) (r : Bool) (c : Nat → Nat) (w : World) (hc : ∀ k, c k < 10) (HP0_5 : Ft c [0] w (fun w_ => k44.C w_ A0_5 l0_5.length l0_5)) (HCP0_5 : l0_5.length ≤ c0_5) (H : blazonlaw08_inside.g r_ k a0_0 a0_1 a0_2 a0_3 a0_4 l0_5 a1 = some r) :
    Calls Try.prog 53 #[.agg #[.int .i64 a0_0, .int .i64 a0_1, .int .i64 a0_2, .string a0_3, .string a0_4, .slice A0_5 l0_5.length c0_5], .int .i64 a1] w fun e w' => ∃ (c' : Nat → Nat) , e = .returned (.bool r) ∧ Step c w c' w' [] := by
 unfold blazonlaw08_inside.g at H
 have HS := Step.refl c w []
 go_enter Try.func53, Try.ntmps53
 refine wp_seq_k fun K197 hK197 => ?_
 refine wl_region ?_
 refine bx_new (C := c) 44 ([.int .i64 a0_0, .int .i64 a0_1, .int .i64 a0_2, .string a0_3, .string a0_4, .slice A0_5 l0_5.length c0_5]) 11 rfl rfl (by first | (go_simp; done) | (go_simp; rfl)) ?_
 intro g198 w199 C200 HX201 hs202
 replace HP0_5 := HP0_5.thru hs202 rfl
 replace HS := HS.trans hs202 hc rfl
 (try simp only [ls0, ls1])
 refine st (.bool false) rfl rfl (xr_assign _ rfl rfl) ?_
 refine wl_end ?_
 (try simp only [ls0, ls1])
 refine hK197 _ _ ?_
 (try clear hK197 K197)
 refine wp_seq_k fun K203 hK203 => ?_
 refine wp_seq_k fun K204 hK204 => ?_
 refine wl_region ?_
 refine st (.int .i64 0) rfl rfl (xr_assign _ rfl rfl) ?_
 refine wl_end ?_
 (try simp only [ls0, ls1])
 refine hK204 _ _ ?_
 (try clear hK204 K204)
 refine wp_block ?_
 (try simp only [ls0, ls1])
 refine wp_looped (looped_fin (fun kq328 a_ w327 => ∃ (C326 : Nat → Nat) (x323 : Int) (g_ : Nat → Value), a_ = ⟨#[(g_ 0), .int .i64 a1, .pointer (some ⟨g198, 0, none⟩), (g_ 3), (g_ 4), .int .i64 x323, (g_ 6), (g_ 7), (g_ 8), (g_ 9), (g_ 10), (g_ 11), (g_ 12), (g_ 13), (g_ 14), (g_ 15), (g_ 16), (g_ 17), (g_ 18), (g_ 19), (g_ 20), (g_ 21), (g_ 22), (g_ 23), (g_ 24), (g_ 25), (g_ 26), (g_ 27), (g_ 28), (g_ 29), (g_ 30), (g_ 31), (g_ 32), (g_ 33), (g_ 34), (g_ 35), (g_ 36), (g_ 37), (g_ 38), (g_ 39), (g_ 40), (g_ 41)], []⟩ ∧ Step c w C326 w327 [] ∧ kq328 ≤ k ∧ (Ft C326 [0] w327 (fun w_ => k44.C w_ A0_5 l0_5.length l0_5)) ∧ (Bx C326 11 w327 g198 44 ([.int .i64 a0_0, .int .i64 a0_1, .int .i64 a0_2, .string a0_3, .string a0_4, .slice A0_5 l0_5.length c0_5])) ∧ blazonlaw08_inside.l0 r_ kq328 a0_1 a1 l0_5 x323 = some r) ?step fun hL_ => ?init)
 case init =>
  exact jmpL (fun a_ h_ => hL_ k a_ _ h_) (fun g_ => ⟨_, 0, g_, rfl, HS, Nat.le_refl _, HP0_5, HX201, H⟩) rfl
 case step =>
  intro kq328 ih331 a332 w327 hr333
  obtain ⟨C326, x323, g_, rfl, HS329, hk330, HJ324, HJ325, H⟩ := hr333
  refine looped_round ?_
  cases kq328 with
  | zero => exact absurd H (by simp [blazonlaw08_inside.l0])
  | succ k334 =>
   simp only [blazonlaw08_inside.l0] at H
   refine wp_seq_k fun K335 hK335 => ?_
   refine wp_seq_k fun K336 hK336 => ?_
   refine wl_region ?_
   refine mv_ rfl ?_
   refine st (.pointer (some ⟨g198, 5, none⟩)) rfl rfl (xr_fieldAddr _ _ rfl rfl (bx_field2 Try.underlying44 rfl rfl (by kernel_rfl))) ?_
   refine st (.slice A0_5 l0_5.length c0_5) rfl rfl (xr_load _ _ rfl rfl (load_cell Try.underlying42 rfl (bx_cell (HJ325).2 5 rfl))) ?_
   refine st (.int .i64 (l0_5.length : Int)) rfl rfl (xr_builtin #[.slice A0_5 l0_5.length c0_5] (.int .i64 (l0_5.length : Int)) rfl (mp_ rfl) (by first | rfl | (go_simp; done) | (go_simp; rfl) | (go_simp; exact i64_w _) | (go_simp; exact i32_w _))) ?_
   simp only [ls0, ls1]
   refine st (.bool (decide (x323 < (l0_5.length : Int)))) rfl rfl (xr_bin _ _ _ rfl rfl rfl (B.lss_i64 _ _)) ?_
   refine wl_end ?_
   (try simp only [ls0, ls1])
   refine hK336 _ _ ?_
   (try clear hK336 K336)
   by_cases c337 : x323 < (l0_5.length : Int)
   ·rw [if_pos c337] at H
    (try rw [(decide_eq_true c337)])
    refine wp_cond_true rfl ?_
    refine wp_skip ?_
    (try simp only [ls0, ls1])
    refine hK335 _ _ ?_
    (try clear hK335 K335)
    refine wp_seq_k fun K338 hK338 => ?_
    refine wp_block ?_
    refine wp_seq_k fun K339 hK339 => ?_
    have HQ364 := Ft.same C326 [0] w327
    (try simp only [ls0, ls1])
    refine al_start (lb 29 0) rfl rfl rfl (fun w_ => k44.C w_ A0_5 l0_5.length l0_5 ∧ w_.heap[g198]? = some (.cells (List.toArray ([.int .i64 a0_0, .int .i64 a0_1, .int .i64 a0_2, .string a0_3, .string a0_4, .slice A0_5 l0_5.length c0_5])) 44 (0, 0)) ∧ (∀ k_, C326 k_ ∈ [0] → k_ < (w327).drew.heap.size → w_.heap[k_]? = (w327).drew.heap[k_]?)) ⟨(Ft.now ((HJ324).drew)), (HJ325.drew).2, (Ft.now (HQ364.drew))⟩ [26] ?_
    replace HJ325 := HJ325.drew
    replace HJ324 := HJ324.drew
    replace HQ364 := HQ364.drew
    replace HS329 := Step.ofDrew HS329
    replace HQ364 := Ft.same C326 [0] (w327.drew)
    generalize w327.drew = w365 at *
    have HZ366 := HJ324
    refine al_pure 0 13 (.pointer (some ⟨g198, 5, none⟩)) (lb 29 1) rfl rfl (by kernel_rfl) (fun _ _ _ => id) rfl (fun w_ => xr_fieldAddr _ _ rfl rfl (bx_field2 Try.underlying44 rfl rfl (by kernel_rfl))) ?_
    refine al_mv 2 (lb 29 5) rfl rfl (by kernel_rfl) (fun _ _ _ => id) rfl ?_
    refine al_pure 6 19 (.pointer (some ⟨g198, 1, none⟩)) (lb 29 69) rfl rfl (by kernel_rfl) (fun _ _ _ => id) rfl (fun w_ => xr_fieldAddr _ _ rfl rfl (bx_field2 Try.underlying44 rfl rfl (by kernel_rfl))) ?_
    refine al_take 1 14 (.slice A0_5 l0_5.length c0_5) (lb 29 71) rfl rfl (by kernel_rfl) (fun _ _ _ => id) rfl (fun w_ hS_ => xr_load _ _ rfl rfl (load_cell Try.underlying42 rfl (bx_cell hS_.2.1 5 rfl))) ⟨(Ft.now HJ324), (HJ325).2, (Ft.now (HQ364))⟩ ?_
    simp only [ls0, ls1]
    obtain ⟨c367, H⟩ := if_some H
    obtain ⟨ad368, hA369⟩ := c_addr (Ft.now HJ324) (pos_of (j := x323) (by first | assumption | decide) (by first | assumption | omega))
    refine al_pure 3 16 (.pointer (some (ad368.add ((x323 : Int).toNat * 6)))) (lb 29 79) rfl rfl (by kernel_rfl) (fun _ _ _ => id) rfl (fun w_ => xr_indexAddr _ _ _ rfl rfl rfl (index_at Try.underlying42 info44 hA369 (by first | assumption | decide | omega) (by first | assumption | decide | omega))) ?_
    refine al_pure 4 17 (.pointer (some ((ad368.add ((x323 : Int).toNat * 6)).add 1))) (lb 29 95) rfl rfl (by kernel_rfl) (fun _ _ _ => id) rfl (fun w_ => xr_fieldAddr _ _ rfl rfl (field_at2 Try.underlying44 rfl rfl (by kernel_rfl))) ?_
    obtain ⟨csq371, _, hKq371, hcq371, hinq371⟩ := Ft.elem HJ324 hA369 z44 x323 (by first | assumption | decide | omega) (by first | assumption | decide | omega) (by decide)
    obtain ⟨Aq371_5, cpq371_5, rfl, HCq371_5, HRq371_5⟩ := k44_openF hKq371
    replace HRq371_5 : Ft C326 [0] w365 (fun w_ => k44.C w_ Aq371_5 (rd_T44 l0_5 x323).f5.length (rd_T44 l0_5 x323).f5) := HRq371_5
    refine al_take 5 18 (.int .i64 ((rd_T44 l0_5 x323).f1)) (lb 29 127) rfl rfl (by kernel_rfl) (fun _ _ _ => id) rfl (fun w_ hS_ => xr_load (.pointer (some ((ad368.add ((x323 : Int).toNat * 6)).add 1))) (.int .i64 ((rd_T44 l0_5 x323).f1)) rfl rfl (load_cell Try.underlying3 rfl (same_cell hS_.2.2 hinq371 (add2_block _ _ _) (hcq371 1 _ rfl)))) ⟨(Ft.now HJ324), (HJ325).2, (Ft.now (HQ364))⟩ ?_
    refine al_take 7 20 (.int .i64 a0_1) (lb 29 255) rfl rfl (by kernel_rfl) (fun _ _ _ => id) rfl (fun w_ hS_ => xr_load _ _ rfl rfl (load_cell Try.underlying3 rfl (bx_cell hS_.2.1 1 rfl))) ⟨(Ft.now HJ324), (HJ325).2, (Ft.now (HQ364))⟩ ?_
    simp only [ls0, ls1]
    refine al_pure 8 21 (.bool (decide (((rd_T44 l0_5 x323).f1) < a0_1))) (lb 29 511) rfl rfl (by kernel_rfl) (fun _ _ _ => id) rfl (fun w_ => xr_bin _ _ _ rfl rfl rfl (B.lss_i64 _ _)) ?_
    refine al_mv 9 (lb 29 1023) rfl rfl (by kernel_rfl) (fun _ _ _ => id) rfl ?_
    by_cases c372 : ((rd_T44 l0_5 x323).f1) < a0_1
    ·rw [if_pos c372] at H
     (try rw [(decide_eq_true c372)])
     refine al_off 10 23 (lb 29 2047) rfl rfl (by kernel_rfl) (fun _ _ _ => id) (guard_off 9 false 22 rfl rfl true (by decide) rfl) ?_
     refine al_off 11 24 (lb 29 4095) rfl rfl (by kernel_rfl) (fun _ _ _ => id) (guard_off 9 false 22 rfl rfl true (by decide) rfl) ?_
     simp only [ls0, ls1]
     refine al_off 12 25 (lb 29 8191) rfl rfl (by kernel_rfl) (fun _ _ _ => id) (guard_off 9 false 22 rfl rfl true (by decide) rfl) ?_
     refine al_off 13 26 (lb 29 16383) rfl rfl (by kernel_rfl) (fun _ _ _ => id) (guard_off 9 false 22 rfl rfl true (by decide) rfl) ?_
     refine al_off 14 27 (lb 29 32767) rfl rfl (by kernel_rfl) (fun _ _ _ => id) (guard_off 9 false 22 rfl rfl true (by decide) rfl) ?_
     refine al_off 15 28 (lb 29 65535) rfl rfl (by kernel_rfl) (fun _ _ _ => id) (guard_off 9 false 22 rfl rfl true (by decide) rfl) ?_
     simp only [ls0, ls1]
     refine al_off 16 29 (lb 29 131071) rfl rfl (by kernel_rfl) (fun _ _ _ => id) (guard_off 9 false 22 rfl rfl true (by decide) rfl) ?_
     refine al_off 17 30 (lb 29 262143) rfl rfl (by kernel_rfl) (fun _ _ _ => id) (guard_off 9 false 22 rfl rfl true (by decide) rfl) ?_
     refine al_pure 18 31 (.bool true) (lb 29 524287) rfl rfl (by kernel_rfl) (fun _ _ _ => id) rfl (fun w_ => xr_pick true _ rfl rfl rfl) ?_
     refine al_mv 19 (lb 29 1048575) rfl rfl (by kernel_rfl) (fun _ _ _ => id) rfl ?_
     simp only [ls0, ls1]
     refine al_off 20 33 (lb 29 2097151) rfl rfl (by kernel_rfl) (fun _ _ _ => id) (guard_off 19 false 32 rfl rfl true (by decide) rfl) ?_
     refine al_off 21 34 (lb 29 4194303) rfl rfl (by kernel_rfl) (fun _ _ _ => id) (guard_off 19 false 32 rfl rfl true (by decide) rfl) ?_
     refine al_off 22 35 (lb 29 8388607) rfl rfl (by kernel_rfl) (fun _ _ _ => id) (guard_off 19 false 32 rfl rfl true (by decide) rfl) ?_
     refine al_off 23 36 (lb 29 16777215) rfl rfl (by kernel_rfl) (fun _ _ _ => id) (guard_off 19 false 32 rfl rfl true (by decide) rfl) ?_
     simp only [ls0, ls1]
     refine al_off 24 37 (lb 29 33554431) rfl rfl (by kernel_rfl) (fun _ _ _ => id) (guard_off 19 false 32 rfl rfl true (by decide) rfl) ?_
     refine al_off 25 38 (lb 29 67108863) rfl rfl (by kernel_rfl) (fun _ _ _ => id) (guard_off 19 false 32 rfl rfl true (by decide) rfl) ?_
     refine al_off 26 39 (lb 29 134217727) rfl rfl (by kernel_rfl) (fun _ _ _ => id) (guard_off 19 false 32 rfl rfl true (by decide) rfl) ?_
     refine al_off 27 40 (lb 29 268435455) rfl rfl (by kernel_rfl) (fun _ _ _ => id) (guard_off 19 false 32 rfl rfl true (by decide) rfl) ?_
     simp only [ls0, ls1]
     refine al_pure 28 41 (.bool true) (lb 29 536870911) rfl rfl (by kernel_rfl) (fun _ _ _ => id) rfl (fun w_ => xr_pick true _ rfl rfl rfl) ?_
     refine al_end (by kernel_rfl) ?_
     (try simp only [ls0, ls1])
     refine hK339 _ _ ?_
     (try clear hK339 K339)
     refine wp_cond_true rfl ?_
     refine wp_seq_k fun K373 hK373 => ?_
     refine wl_region ?_
     refine st (.bool false) rfl rfl (xr_assign _ rfl rfl) ?_
     refine wl_end ?_
     (try simp only [ls0, ls1])
     refine hK373 _ _ ?_
     (try clear hK373 K373)
     refine wp_ret ?_
     (try simp only [Exit.inBlock, Exit.then, Exit.noGoto])
     (try simp only [ls0, ls1])
     obtain rfl := Option.some.inj H
     refine bodyPost_ret (results_tmp rfl _ _ _) rfl ?_
     exact ⟨_, rfl, HS329⟩
    rw [if_neg c372] at H
    (try rw [(decide_eq_false c372)])
    refine al_pure 10 23 (.pointer (some ⟨g198, 5, none⟩)) (lb 29 2047) rfl rfl (by kernel_rfl) (fun _ _ _ => id) (guard_on 9 false 22 rfl rfl rfl) (fun w_ => xr_fieldAddr _ _ rfl rfl (bx_field2 Try.underlying44 rfl rfl (by kernel_rfl))) ?_
    refine al_mv 12 (lb 29 6143) rfl rfl (by kernel_rfl) (fun _ _ _ => id) (guard_on 9 false 22 rfl rfl rfl) ?_
    refine al_mv 16 (lb 29 71679) rfl rfl (by kernel_rfl) (fun _ _ _ => id) (guard_on 9 false 22 rfl rfl rfl) ?_
    refine al_take 11 24 (.slice A0_5 l0_5.length c0_5) (lb 29 73727) rfl rfl (by kernel_rfl) (fun _ _ _ => id) (guard_on 9 false 22 rfl rfl rfl) (fun w_ hS_ => xr_load _ _ rfl rfl (load_cell Try.underlying42 rfl (bx_cell hS_.2.1 5 rfl))) ⟨(Ft.now HJ324), (HJ325).2, (Ft.now (HQ364))⟩ ?_
    simp only [ls0, ls1]
    obtain ⟨ad374, hA375⟩ := c_addr (Ft.now HJ324) (pos_of (j := x323) (by first | assumption | decide) (by first | assumption | omega))
    refine al_pure 13 26 (.pointer (some (ad374.add ((x323 : Int).toNat * 6)))) (lb 29 81919) rfl rfl (by kernel_rfl) (fun _ _ _ => id) (guard_on 9 false 22 rfl rfl rfl) (fun w_ => xr_indexAddr _ _ _ rfl rfl rfl (index_at Try.underlying42 info44 hA375 (by first | assumption | decide | omega) (by first | assumption | decide | omega))) ?_
    refine al_pure 14 27 (.pointer (some ((ad374.add ((x323 : Int).toNat * 6)).add 1))) (lb 29 98303) rfl rfl (by kernel_rfl) (fun _ _ _ => id) (guard_on 9 false 22 rfl rfl rfl) (fun w_ => xr_fieldAddr _ _ rfl rfl (field_at2 Try.underlying44 rfl rfl (by kernel_rfl))) ?_
    obtain ⟨csq377, _, hKq377, hcq377, hinq377⟩ := Ft.elem HJ324 hA375 z44 x323 (by first | assumption | decide | omega) (by first | assumption | decide | omega) (by decide)
    obtain ⟨Aq377_5, cpq377_5, rfl, HCq377_5, HRq377_5⟩ := k44_openF hKq377
    replace HRq377_5 : Ft C326 [0] w365 (fun w_ => k44.C w_ Aq377_5 (rd_T44 l0_5 x323).f5.length (rd_T44 l0_5 x323).f5) := HRq377_5
    refine al_take 15 28 (.int .i64 ((rd_T44 l0_5 x323).f1)) (lb 29 131071) rfl rfl (by kernel_rfl) (fun _ _ _ => id) (guard_on 9 false 22 rfl rfl rfl) (fun w_ hS_ => xr_load (.pointer (some ((ad374.add ((x323 : Int).toNat * 6)).add 1))) (.int .i64 ((rd_T44 l0_5 x323).f1)) rfl rfl (load_cell Try.underlying3 rfl (same_cell hS_.2.2 hinq377 (add2_block _ _ _) (hcq377 1 _ rfl)))) ⟨(Ft.now HJ324), (HJ325).2, (Ft.now (HQ364))⟩ ?_
    refine al_pure 17 30 (.bool (decide (((rd_T44 l0_5 x323).f1) ≥ a1))) (lb 29 262143) rfl rfl (by kernel_rfl) (fun _ _ _ => id) (guard_on 9 false 22 rfl rfl rfl) (fun w_ => xr_bin _ _ _ rfl rfl rfl (B.geq_i64 _ _)) ?_
    simp only [ls0, ls1]
    refine al_pure 18 31 (.bool (decide (((rd_T44 l0_5 x323).f1) ≥ a1))) (lb 29 524287) rfl rfl (by kernel_rfl) (fun _ _ _ => id) rfl (fun w_ => xr_pick false _ rfl rfl rfl) ?_
    refine al_mv 19 (lb 29 1048575) rfl rfl (by kernel_rfl) (fun _ _ _ => id) rfl ?_
    by_cases c378 : ((rd_T44 l0_5 x323).f1) ≥ a1
    ·rw [if_pos c378] at H
     (try rw [(decide_eq_true c378)])
     refine al_off 20 33 (lb 29 2097151) rfl rfl (by kernel_rfl) (fun _ _ _ => id) (guard_off 19 false 32 rfl rfl true (by decide) rfl) ?_
     refine al_off 21 34 (lb 29 4194303) rfl rfl (by kernel_rfl) (fun _ _ _ => id) (guard_off 19 false 32 rfl rfl true (by decide) rfl) ?_
     simp only [ls0, ls1]
     refine al_off 22 35 (lb 29 8388607) rfl rfl (by kernel_rfl) (fun _ _ _ => id) (guard_off 19 false 32 rfl rfl true (by decide) rfl) ?_
     refine al_off 23 36 (lb 29 16777215) rfl rfl (by kernel_rfl) (fun _ _ _ => id) (guard_off 19 false 32 rfl rfl true (by decide) rfl) ?_
     refine al_off 24 37 (lb 29 33554431) rfl rfl (by kernel_rfl) (fun _ _ _ => id) (guard_off 19 false 32 rfl rfl true (by decide) rfl) ?_
     refine al_off 25 38 (lb 29 67108863) rfl rfl (by kernel_rfl) (fun _ _ _ => id) (guard_off 19 false 32 rfl rfl true (by decide) rfl) ?_
     simp only [ls0, ls1]
     refine al_off 26 39 (lb 29 134217727) rfl rfl (by kernel_rfl) (fun _ _ _ => id) (guard_off 19 false 32 rfl rfl true (by decide) rfl) ?_
     refine al_off 27 40 (lb 29 268435455) rfl rfl (by kernel_rfl) (fun _ _ _ => id) (guard_off 19 false 32 rfl rfl true (by decide) rfl) ?_
     refine al_pure 28 41 (.bool true) (lb 29 536870911) rfl rfl (by kernel_rfl) (fun _ _ _ => id) rfl (fun w_ => xr_pick true _ rfl rfl rfl) ?_
     refine al_end (by kernel_rfl) ?_
     (try simp only [ls0, ls1])
     refine hK339 _ _ ?_
     (try clear hK339 K339)
     refine wp_cond_true rfl ?_
     refine wp_seq_k fun K379 hK379 => ?_
     refine wl_region ?_
     refine st (.bool false) rfl rfl (xr_assign _ rfl rfl) ?_
     refine wl_end ?_
     (try simp only [ls0, ls1])
     refine hK379 _ _ ?_
     (try clear hK379 K379)
     refine wp_ret ?_
     (try simp only [Exit.inBlock, Exit.then, Exit.noGoto])
     (try simp only [ls0, ls1])
     obtain rfl := Option.some.inj H
     refine bodyPost_ret (results_tmp rfl _ _ _) rfl ?_
     exact ⟨_, rfl, HS329⟩
    rw [if_neg c378] at H
    (try rw [(decide_eq_false c378)])
    refine al_pure 20 33 (.pointer (some ⟨g198, 5, none⟩)) (lb 29 2097151) rfl rfl (by kernel_rfl) (fun _ _ _ => id) (guard_on 19 false 32 rfl rfl rfl) (fun w_ => xr_fieldAddr _ _ rfl rfl (bx_field2 Try.underlying44 rfl rfl (by kernel_rfl))) ?_
    refine al_mv 22 (lb 29 6291455) rfl rfl (by kernel_rfl) (fun _ _ _ => id) (guard_on 19 false 32 rfl rfl rfl) ?_
    refine al_mv 25 (lb 29 39845887) rfl rfl (by kernel_rfl) (fun _ _ _ => id) (guard_on 19 false 32 rfl rfl rfl) ?_
    refine al_take 21 34 (.slice A0_5 l0_5.length c0_5) (lb 29 41943039) rfl rfl (by kernel_rfl) (fun _ _ _ => id) (guard_on 19 false 32 rfl rfl rfl) (fun w_ hS_ => xr_load _ _ rfl rfl (load_cell Try.underlying42 rfl (bx_cell hS_.2.1 5 rfl))) ⟨(Ft.now HJ324), (HJ325).2, (Ft.now (HQ364))⟩ ?_
    simp only [ls0, ls1]
    obtain ⟨ad380, hA381⟩ := c_addr (Ft.now HJ324) (pos_of (j := x323) (by first | assumption | decide) (by first | assumption | omega))
    refine al_pure 23 36 (.pointer (some (ad380.add ((x323 : Int).toNat * 6)))) (lb 29 50331647) rfl rfl (by kernel_rfl) (fun _ _ _ => id) (guard_on 19 false 32 rfl rfl rfl) (fun w_ => xr_indexAddr _ _ _ rfl rfl rfl (index_at Try.underlying42 info44 hA381 (by first | assumption | decide | omega) (by first | assumption | decide | omega))) ?_
    obtain ⟨csq383, _, hKq383, hcq383, hinq383⟩ := Ft.elem HJ324 hA381 z44 x323 (by first | assumption | decide | omega) (by first | assumption | decide | omega) (by decide)
    obtain ⟨Aq383_5, cpq383_5, rfl, HCq383_5, HRq383_5⟩ := k44_openF hKq383
    replace HRq383_5 : Ft C326 [0] w365 (fun w_ => k44.C w_ Aq383_5 (rd_T44 l0_5 x323).f5.length (rd_T44 l0_5 x323).f5) := HRq383_5
    refine al_take 24 37 (.agg #[.int .i64 ((rd_T44 l0_5 x323).f0), .int .i64 ((rd_T44 l0_5 x323).f1), .int .i64 ((rd_T44 l0_5 x323).f2), .string ((rd_T44 l0_5 x323).f3), .string ((rd_T44 l0_5 x323).f4), .slice Aq383_5 (rd_T44 l0_5 x323).f5.length cpq383_5]) (lb 29 67108863) rfl rfl (by kernel_rfl) (fun _ _ _ => id) (guard_on 19 false 32 rfl rfl rfl) (fun w_ hS_ => xr_load (.pointer (some (ad380.add ((x323 : Int).toNat * 6)))) (.agg #[.int .i64 ((rd_T44 l0_5 x323).f0), .int .i64 ((rd_T44 l0_5 x323).f1), .int .i64 ((rd_T44 l0_5 x323).f2), .string ((rd_T44 l0_5 x323).f3), .string ((rd_T44 l0_5 x323).f4), .slice Aq383_5 (rd_T44 l0_5 x323).f5.length cpq383_5]) rfl rfl (load_agg (cs := [.int .i64 ((rd_T44 l0_5 x323).f0), .int .i64 ((rd_T44 l0_5 x323).f1), .int .i64 ((rd_T44 l0_5 x323).f2), .string ((rd_T44 l0_5 x323).f3), .string ((rd_T44 l0_5 x323).f4), .slice Aq383_5 (rd_T44 l0_5 x323).f5.length cpq383_5]) Try.underlying44 rfl (by kernel_rfl) (fun j_ u_ hu_ => by refine same_cell hS_.2.2 hinq383 (add2_block _ _ _) ?_; exact hcq383 j_ u_ hu_))) ⟨(Ft.now HJ324), (HJ325).2, (Ft.now (HQ364))⟩ ?_
    obtain ⟨t384, A385, H⟩ := bnd H
    refine al_last 26 (lb 29 134217727) rfl rfl (by kernel_rfl) rfl (fun K_ hK_ => ?_)
    refine goes_ Try.func53 (by kernel_rfl) rfl #[.agg #[.int .i64 ((rd_T44 l0_5 x323).f0), .int .i64 ((rd_T44 l0_5 x323).f1), .int .i64 ((rd_T44 l0_5 x323).f2), .string ((rd_T44 l0_5 x323).f3), .string ((rd_T44 l0_5 x323).f4), .slice Aq383_5 (rd_T44 l0_5 x323).f5.length cpq383_5], .int .i64 a1] (guard_on 19 false 32 rfl rfl rfl) rfl rfl (mpe_ rfl) ?_
    refine (IH.blazonlaw08_inside ((rd_T44 l0_5 x323).f0) ((rd_T44 l0_5 x323).f1) ((rd_T44 l0_5 x323).f2) ((rd_T44 l0_5 x323).f3) ((rd_T44 l0_5 x323).f4) Aq383_5 cpq383_5 ((rd_T44 l0_5 x323).f5) a1 t384  (fun z_ => pal [(0, 0)] (C326 z_)) w365 (fun _ => pal_lt rfl _) (Ft.arg HRq383_5 rfl) HCq383_5 A385).mono ?_
    rintro _ w387 ⟨C388, rfl, hs389⟩
    refine ⟨_, rfl, ?_⟩
    replace hs389 := Step.lift (U := [(0, 0)]) hs389 [] rfl rfl
    generalize up C326 C388 w365.heap.size [(0, 0)] = C388_ at hs389
    replace HJ325 := HJ325.thru hs389 rfl
    replace HJ324 := HJ324.thru hs389 rfl
    replace HQ364 := HQ364.thru hs389 rfl
    replace HRq383_5 := HRq383_5.thru hs389 rfl
    replace HS329 := HS329.trans hs389 hc rfl
    refine hK_ _ _ ?_
    clear hK_ K_
    (try simp only [Act.put, List.setIfInBounds_toArray, ls0, ls1])
    refine al_pure 27 40 (.bool (!t384)) (lb 29 268435455) rfl rfl (by kernel_rfl) (fun _ _ _ => id) (guard_on 19 false 32 rfl rfl rfl) (fun w_ => xr_un (.bool t384) _ rfl rfl (by first | rfl | (go_simp; done) | (go_simp; rfl) | (go_simp; exact i64_w _) | (go_simp; exact i32_w _))) ?_
    refine al_pure 28 41 (.bool (!t384)) (lb 29 536870911) rfl rfl (by kernel_rfl) (fun _ _ _ => id) rfl (fun w_ => xr_pick false _ rfl rfl rfl) ?_
    refine al_end (by kernel_rfl) ?_
    (try simp only [ls0, ls1])
    refine hK339 _ _ ?_
    (try clear hK339 K339)
    by_cases c390 : t384 = true
    ·rw [if_pos c390] at H
     (try rw [c390])
     (try simp only [Bool.not_true, Bool.not_false])
     refine wp_cond_false rfl ?_
     refine wp_skip ?_
     (try simp only [ls0, ls1])
     refine hK338 _ _ ?_
     (try clear hK338 K338)
     refine wl_region ?_
     refine mv_ rfl ?_
     refine st (.int .i64 (wrap64 (x323 + 1))) rfl rfl (xr_bin _ _ _ rfl rfl rfl (B.add_i64 _ _)) ?_
     refine as_ rfl ?_
     refine wl_end ?_
     (try simp only [ls0, ls1])
     exact jmpL (fun a_ h_ => ih331 k334 (by omega) a_ _ h_) (fun g_ => ⟨_, wrap64 (x323 + 1), g_, rfl, HS329, (by omega), HJ324, HJ325, H⟩) rfl
    rw [if_neg c390] at H
    (try rw [(Bool.eq_false_iff.mpr c390)])
    (try simp only [Bool.not_true, Bool.not_false])
    refine wp_cond_true rfl ?_
    refine wp_seq_k fun K391 hK391 => ?_
    refine wl_region ?_
    refine st (.bool false) rfl rfl (xr_assign _ rfl rfl) ?_
    refine wl_end ?_
    (try simp only [ls0, ls1])
    refine hK391 _ _ ?_
    (try clear hK391 K391)
    refine wp_ret ?_
    (try simp only [Exit.inBlock, Exit.then, Exit.noGoto])
    (try simp only [ls0, ls1])
    obtain rfl := Option.some.inj H
    refine bodyPost_ret (results_tmp rfl _ _ _) rfl ?_
    exact ⟨_, rfl, HS329⟩
   rw [if_neg c337] at H
   (try rw [(decide_eq_false c337)])
   refine wp_cond_false rfl ?_
   refine wp_exit ?_
   (try simp only [ls0, ls1])
   refine hK203 _ _ ?_
   (try clear hK203 K203)
   refine wp_seq_k fun K392 hK392 => ?_
   refine wl_region ?_
   refine st (.bool true) rfl rfl (xr_assign _ rfl rfl) ?_
   refine wl_end ?_
   (try simp only [ls0, ls1])
   refine hK392 _ _ ?_
   (try clear hK392 K392)
   refine wp_ret ?_
   (try simp only [Exit.inBlock, Exit.then, Exit.noGoto])
   (try simp only [ls0, ls1])
   obtain rfl := Option.some.inj H
   refine bodyPost_ret (results_tmp rfl _ _ _) rfl ?_
   exact ⟨_, rfl, HS329⟩

def Rec_blazonlaw08_inside.at : Nat → Rec_blazonlaw08_inside
  | 0 => ⟨fun x0 x1 x2 x3 x4 x5 x6 => none⟩
  | k + 1 => ⟨fun x0 x1 x2 x3 x4 x5 x6 => blazonlaw08_inside.g (Rec_blazonlaw08_inside.at k) k x0 x1 x2 x3 x4 x5 x6⟩
theorem Rec_blazonlaw08_inside.good : ∀ k, Rec_blazonlaw08_inside.Good (Rec_blazonlaw08_inside.at k)
  | 0 => ⟨(by intros; rename_i H; exact absurd H (by simp [Rec_blazonlaw08_inside.at]))⟩
  | k + 1 => ⟨blazonlaw08_inside.step (Rec_blazonlaw08_inside.at k) (Rec_blazonlaw08_inside.good k) k⟩
def blazonlaw08_inside.f (k : Nat) (x0 : Int) (x1 : Int) (x2 : Int) (x3 : ByteArray) (x4 : ByteArray) (x5 : List (S44)) (x6 : Int) : Option (Bool) := (Rec_blazonlaw08_inside.at k).blazonlaw08_inside x0 x1 x2 x3 x4 x5 x6
theorem blazonlaw08_inside.calls : ∀ (k : Nat) (a0_0 : Int) (a0_1 : Int) (a0_2 : Int) (a0_3 : ByteArray) (a0_4 : ByteArray) (A0_5 : Option Addr) (c0_5 : Nat) (l0_5 : List (S44)) (a1 : Int) (r : Bool) (c : Nat → Nat) (w : World) (hc : ∀ k, c k < 10) (HP0_5 : Ft c [0] w (fun w_ => k44.C w_ A0_5 l0_5.length l0_5)) (HCP0_5 : l0_5.length ≤ c0_5) (H : blazonlaw08_inside.f k a0_0 a0_1 a0_2 a0_3 a0_4 l0_5 a1 = some r),
    Calls Try.prog 53 #[.agg #[.int .i64 a0_0, .int .i64 a0_1, .int .i64 a0_2, .string a0_3, .string a0_4, .slice A0_5 l0_5.length c0_5], .int .i64 a1] w fun e w' => ∃ (c' : Nat → Nat) , e = .returned (.bool r) ∧ Step c w c' w' [] := fun k => (Rec_blazonlaw08_inside.good k).blazonlaw08_inside

/-! ### expr_Cursor_Ident_nil: function 49 -/
def expr_Cursor_Ident_nil.f (k : Nat)  : Option (ByteArray × Bool) := (expr_Cursor_Peek.f (none : Option S111)).bind fun t22 => ((lex_Ident.f k t22).bind fun t30 => (if t30 = true then (none) else (some ((⟨#[]⟩ : ByteArray), false))))

set_option maxHeartbeats 8000000 in
set_option maxRecDepth 100000 in
theorem expr_Cursor_Ident_nil.calls (k : Nat)  (r1 : ByteArray) (r2 : Bool) (c : Nat → Nat) (w : World) (hc : ∀ k, c k < 10)  (H : expr_Cursor_Ident_nil.f k = some (r1, r2)) :
    Calls Try.prog 49 #[.pointer none] w fun e w' => ∃ (c' : Nat → Nat) , e = .returned (.tuple #[.string r1, .bool r2]) ∧ Step c w c' w' [] := by
 unfold expr_Cursor_Ident_nil.f at H
 have HS := Step.refl c w []
 go_enter Try.func49, Try.ntmps49
 refine wp_seq_k fun K20 hK20 => ?_
 refine wl_region ?_
 refine st (.string (⟨#[]⟩ : ByteArray)) rfl rfl (xr_assign _ rfl rfl) ?_
 refine st (.bool false) rfl rfl (xr_assign _ rfl rfl) ?_
 refine wl_end ?_
 (try simp only [ls0, ls1])
 refine hK20 _ _ ?_
 (try clear hK20 K20)
 refine wp_seq_k fun K21 hK21 => ?_
 refine wl_region ?_
 refine mv_ rfl ?_
 obtain ⟨t22, A23, H⟩ := bnd H
 refine st_call #[.pointer none] rfl rfl Try.func43 (by kernel_rfl) rfl rfl (mp_ rfl) ?_
 refine (expr_Cursor_Peek.calls (.pointer none) (none : Option S111) t22  (fun z_ => pal [(0, 0)] (c z_)) w (fun _ => pal_lt rfl _) (ptr_nil _ _ _ _ _) A23).mono ?_
 rintro _ w25 ⟨C26, rfl, hs27⟩
 refine ⟨_, rfl, ?_⟩
 replace hs27 := Step.lift (U := [(0, 0)]) hs27 [] rfl rfl
 generalize up c C26 w.heap.size [(0, 0)] = C26_ at hs27
 replace HS := HS.trans hs27 hc rfl
 (try simp only [ls0, ls1])
 refine as_ rfl ?_
 refine wl_end ?_
 (try simp only [ls0, ls1])
 refine hK21 _ _ ?_
 (try clear hK21 K21)
 refine wp_seq_k fun K28 hK28 => ?_
 refine wp_seq_k fun K29 hK29 => ?_
 refine wl_region ?_
 refine mv_ rfl ?_
 obtain ⟨t30, A31, H⟩ := bnd H
 refine st_call #[.string t22] rfl rfl Try.func29 (by kernel_rfl) rfl rfl (mp_ rfl) ?_
 refine (lex_Ident.calls k t22 t30  (fun z_ => pal [(0, 0)] (C26_ z_)) w25 (fun _ => pal_lt rfl _) A31).mono ?_
 rintro _ w33 ⟨C34, rfl, hs35⟩
 refine ⟨_, rfl, ?_⟩
 replace hs35 := Step.lift (U := [(0, 0)]) hs35 [] rfl rfl
 generalize up C26_ C34 w25.heap.size [(0, 0)] = C34_ at hs35
 replace HS := HS.trans hs35 hc rfl
 (try simp only [ls0, ls1])
 refine st (.bool (!t30)) rfl rfl (xr_un (.bool t30) _ rfl rfl (by first | rfl | (go_simp; done) | (go_simp; rfl) | (go_simp; exact i64_w _) | (go_simp; exact i32_w _))) ?_
 refine wl_end ?_
 (try simp only [ls0, ls1])
 refine hK29 _ _ ?_
 (try clear hK29 K29)
 by_cases c36 : t30 = true
 ·rw [if_pos c36] at H
  (try rw [c36])
  (try simp only [Bool.not_true, Bool.not_false])
  refine wp_cond_false rfl ?_
  refine wp_skip ?_
  (try simp only [ls0, ls1])
  refine hK28 _ _ ?_
  (try clear hK28 K28)
  refine wp_seq_k fun K37 hK37 => ?_
  refine wl_region ?_
  refine mv_ rfl ?_
  exact absurd H (by simp)
 rw [if_neg c36] at H
 (try rw [(Bool.eq_false_iff.mpr c36)])
 (try simp only [Bool.not_true, Bool.not_false])
 refine wp_cond_true rfl ?_
 refine wp_seq_k fun K38 hK38 => ?_
 refine wl_region ?_
 refine st (.string (⟨#[]⟩ : ByteArray)) rfl rfl (xr_assign _ rfl rfl) ?_
 refine st (.bool false) rfl rfl (xr_assign _ rfl rfl) ?_
 refine wl_end ?_
 (try simp only [ls0, ls1])
 refine hK38 _ _ ?_
 (try clear hK38 K38)
 refine wp_ret ?_
 (try simp only [Exit.inBlock, Exit.then, Exit.noGoto])
 (try simp only [ls0, ls1])
 simp only [Option.some.injEq, Prod.mk.injEq] at H
 obtain ⟨rfl, rfl⟩ := H
 refine bodyPost_ret (results_tmp2 rfl _ _ _) rfl ?_
 exact ⟨_, rfl, HS⟩

/-! ### expr_Cursor_Expr_nil: function 51 -/
def expr_Cursor_Expr_nil.f (k : Nat)  : Option (Int × Int × Int × ByteArray × ByteArray × (List (S44)) × Int) := some (0, 0, 0, (⟨#[]⟩ : ByteArray), (⟨#[]⟩ : ByteArray), ([] : List (S44)), 1)

set_option maxHeartbeats 8000000 in
set_option maxRecDepth 100000 in
theorem expr_Cursor_Expr_nil.calls (k : Nat)  (r1 : Int) (r2 : Int) (r3 : Int) (r4 : ByteArray) (r5 : ByteArray) (r6 : List (S44)) (r7 : Int) (c : Nat → Nat) (w : World) (hc : ∀ k, c k < 10)  (H : expr_Cursor_Expr_nil.f k = some (r1, r2, r3, r4, r5, r6, r7)) :
    Calls Try.prog 51 #[.pointer none] w fun e w' => ∃ (c' : Nat → Nat) (A_r6 : Option Addr) (c_r6 : Nat), e = .returned (.tuple #[.agg #[.int .i64 r1, .int .i64 r2, .int .i64 r3, .string r4, .string r5, .slice A_r6 r6.length c_r6], .int .i64 r7]) ∧ Step c w c' w' [] ∧ Own c' 5 w' k44 44 (.slice A_r6 r6.length c_r6) r6 ∧ r6.length ≤ c_r6 := by
 unfold expr_Cursor_Expr_nil.f at H
 have HS := Step.refl c w []
 go_enter Try.func51, Try.ntmps51
 refine wp_seq_k fun K13 hK13 => ?_
 refine wl_region ?_
 refine bx_new (C := c) 44 ([.int .i64 0, .int .i64 0, .int .i64 0, .string (⟨#[]⟩ : ByteArray), .string (⟨#[]⟩ : ByteArray), .slice none 0 0]) 11 rfl rfl (by first | (go_simp; done) | (go_simp; rfl)) ?_
 intro g14 w15 C16 HX17 hs18
 replace HS := HS.trans hs18 hc rfl
 (try simp only [ls0, ls1])
 refine st (.int .i64 0) rfl rfl (xr_assign _ rfl rfl) ?_
 refine wl_end ?_
 (try simp only [ls0, ls1])
 refine hK13 _ _ ?_
 (try clear hK13 K13)
 refine wp_seq_k fun K19 hK19 => ?_
 refine wp_seq_k fun K20 hK20 => ?_
 refine wl_region ?_
 refine mv_ rfl ?_
 refine st (.bool true) rfl rfl (xr_bin (.pointer none) (.pointer none) (.bool true) rfl rfl rfl (B.eql_nn ⟨_, Try.underlying57⟩ (⟨0, 0, none⟩ : Addr))) ?_
 refine wl_end ?_
 (try simp only [ls0, ls1])
 refine hK20 _ _ ?_
 (try clear hK20 K20)
 refine wp_cond_true rfl ?_
 refine wp_seq_k fun K21 hK21 => ?_
 refine wl_region ?_
 refine st (.agg #[.int .i64 0, .int .i64 0, .int .i64 0, .string (⟨#[]⟩ : ByteArray), .string (⟨#[]⟩ : ByteArray), .slice none 0 0]) rfl rfl (xr_build #[] (.agg #[.int .i64 0, .int .i64 0, .int .i64 0, .string (⟨#[]⟩ : ByteArray), .string (⟨#[]⟩ : ByteArray), .slice none 0 0]) rfl (mp_ rfl) (by first | rfl | (go_simp; done) | (go_simp; rfl) | (go_simp; exact i64_w _) | (go_simp; exact i32_w _))) ?_
 refine bx_store (C := C16) (z := 11) (g := g14) (j := 0) (tb := 44) (u := .agg #[.int .i64 0, .int .i64 0, .int .i64 0, .string (⟨#[]⟩ : ByteArray), .string (⟨#[]⟩ : ByteArray), .slice none 0 0]) (seg := [.int .i64 0, .int .i64 0, .int .i64 0, .string (⟨#[]⟩ : ByteArray), .string (⟨#[]⟩ : ByteArray), .slice none 0 0]) (xs := [.int .i64 0, .int .i64 0, .int .i64 0, .string (⟨#[]⟩ : ByteArray), .string (⟨#[]⟩ : ByteArray), .slice none 0 0]) rfl rfl rfl rfl rfl rfl (by first | kernel_rfl | rfl) (by simp [Value.oneCell']) HX17 (by simp only [List.length_cons, List.length_nil]; omega) rfl ?_
 intro w22 HX23 hs24
 replace HS := HS.trans hs24 hc rfl
 (try simp only [ls0, ls1])
 refine st (.int .i64 1) rfl rfl (xr_assign _ rfl rfl) ?_
 refine wl_end ?_
 (try simp only [ls0, ls1])
 refine hK21 _ _ ?_
 (try clear hK21 K21)
 refine wp_ret ?_
 (try simp only [Exit.inBlock, Exit.then, Exit.noGoto])
 (try simp only [ls0, ls1])
 simp only [Option.some.injEq, Prod.mk.injEq] at H
 obtain ⟨rfl, rfl, rfl, rfl, rfl, rfl, rfl⟩ := H
 refine bodyPost_ret (res_ct rfl rfl (load_of (load_agg (cs := [.int .i64 0, .int .i64 0, .int .i64 0, .string (⟨#[]⟩ : ByteArray), .string (⟨#[]⟩ : ByteArray), .slice none 0 0]) Try.underlying44 rfl (by kernel_rfl) (bx_cells (HX23).2 0 rfl)))) rfl ?_
 exact ⟨_, none, 0, rfl, HS, (Own.nil _ _ _ _ _), (Nat.le_refl 0)⟩

end Go.Proofs.Yteoccoklbmjiaaa.PExi
