-- By cprint.py, a program of this work. Lean checks it.
import Derived.Test.YtdkbmchbkkhpoaaPMlsx0
namespace Go.Proofs.Ytdkbmchbkkhpoaa.PMls
open Go.RowKit Go.Proofs.YtdkbmchbkkhpoaaW.PrintWords Go.Proofs.YtdkbmchbkkhpoaaW.PrintLast Go.Proofs.YtdkbmchbkkhpoaaW.PrintMore
set_option linter.unusedVariables false
set_option linter.unusedSimpArgs false

/-! ### blazonref25_Endless: function 19 -/
mutual
def blazonref25_Endless.j0 : Nat → Int → Int → (List (S35)) → Int → (List Bool) → Int → Bool → Option (Bool)
  | 0, _, _, _, _, _, _, _ => none
  | k + 1, a0, a3, l1, x1156, x1298, x1304, x1337 => if x1337 = true then (if 0 ≤ x1304 then (if x1304 < (l1.length : Int) then (if 0 ≤ ((rd_T35 l1 x1304).f1) then (if ((rd_T35 l1 x1304).f1) < (x1298.length : Int) then ((some (x1298.set ((rd_T35 l1 x1304).f1 : Int).toNat true : List Bool)).bind fun y1351 => (blazonref25_Endless.l0 k a0 a3 l1 x1156 y1351 (wrap64 (x1304 + 1)))) else (none)) else (none)) else (none)) else (none)) else (blazonref25_Endless.l0 k a0 a3 l1 x1156 x1298 (wrap64 (x1304 + 1)))
def blazonref25_Endless.l0 : Nat → Int → Int → (List (S35)) → Int → (List Bool) → Int → Option (Bool)
  | 0, _, _, _, _, _, _ => none
  | k + 1, a0, a3, l1, x1156, x1298, x1304 => if x1304 < (l1.length : Int) then (if 0 ≤ x1304 then (if ((rd_T35 l1 x1304).f2) = 4611686018427387904 then (if 0 ≤ ((rd_T35 l1 x1304).f0) then (if ((rd_T35 l1 x1304).f0) < (x1298.length : Int) then (blazonref25_Endless.j0 k a0 a3 l1 x1156 x1298 x1304 (rdOf false x1298 ((rd_T35 l1 x1304).f0))) else (none)) else (none)) else (blazonref25_Endless.j0 k a0 a3 l1 x1156 x1298 x1304 false)) else (none)) else (blazonref25_Endless.l1 k a0 a3 l1 x1298 (wrap64 (x1156 + 1)))
def blazonref25_Endless.l1 : Nat → Int → Int → (List (S35)) → (List Bool) → Int → Option (Bool)
  | 0, _, _, _, _, _ => none
  | k + 1, a0, a3, l1, x1150, x1156 => if x1156 < a0 then (blazonref25_Endless.l0 k a0 a3 l1 x1156 x1150 0) else (if 0 ≤ a3 then (if a3 < (x1150.length : Int) then (some (rdOf false x1150 a3)) else (none)) else (none))
end
def blazonref25_Endless.f (k : Nat) (a0 : Int) (l1 : List (S35)) (a2 : Int) (a3 : Int) : Option (Bool) := if 0 ≤ a0 then (if (a0 : Int).toNat * 1 ≤ 281474976710656 then ((some (List.replicate (a0 : Int).toNat false : List Bool)).bind fun y692 => (if 0 ≤ a2 then (if a2 < (y692.length : Int) then ((some (y692.set (a2 : Int).toNat true : List Bool)).bind fun y706 => (blazonref25_Endless.l1 k a0 a3 l1 y706 0)) else (none)) else (none))) else (none)) else (none)

set_option maxHeartbeats 8000000 in
set_option maxRecDepth 100000 in
theorem blazonref25_Endless.calls (k : Nat) (a0 : Int) (A1 : Option Addr) (c1 : Nat) (l1 : List (S35)) (a2 : Int) (a3 : Int) (r : Bool) (c : Nat → Nat) (w : World) (hc : ∀ k, c k < 10) (HP1 : Ft c [0] w (fun w_ => k35.C w_ A1 l1.length l1)) (HCP1 : l1.length ≤ c1) (H : blazonref25_Endless.f k a0 l1 a2 a3 = some r) :
    Calls Try.prog 19 #[.int .i64 a0, .slice A1 l1.length c1, .int .i64 a2, .int .i64 a3] w fun e w' => ∃ (c' : Nat → Nat) , e = .returned (.bool r) ∧ Step c w c' w' [] := by
 unfold blazonref25_Endless.f at H
 have HS := Step.refl c w []
 go_enter Try.func19, Try.ntmps19
 refine wp_seq_k fun K688 hK688 => ?_
 refine wl_region ?_
 refine st (.bool false) rfl rfl (xr_assign _ rfl rfl) ?_
 refine wl_end ?_
 (try simp only [ls0, ls1])
 refine hK688 _ _ ?_
 (try clear hK688 K688)
 refine wp_seq_k fun K689 hK689 => ?_
 refine wl_region ?_
 refine mv_ rfl ?_
 obtain ⟨c690, H⟩ := if_some H
 obtain ⟨c691, H⟩ := if_some H
 obtain ⟨y692, A693, H⟩ := bnd H
 refine Own.make Kd.bool (C := c) (i := 11) rfl 4 rfl 43 _ _ rfl a0 rfl rfl Try.underlying43 (.bool false) 1 info4 rfl (by decide) (by decide) false (fun _ _ => rfl) (by first | decide | assumption | omega) (by first | decide | assumption | omega) (Option.some.inj A693) ?_
 intro A694 cp695 w696 C697 HO698 HC699 hs700
 replace HP1 := HP1.thru hs700 rfl
 replace HS := HS.trans hs700 hc rfl
 (try simp only [Act.put, List.setIfInBounds_toArray, ls0, ls1])
 refine as_ rfl ?_
 refine wl_end ?_
 (try simp only [ls0, ls1])
 refine hK689 _ _ ?_
 (try clear hK689 K689)
 refine wp_seq_k fun K701 hK701 => ?_
 refine wl_region ?_
 refine mv_ rfl ?_
 refine mv_ rfl ?_
 obtain ⟨c702, H⟩ := if_some H
 obtain ⟨c703, H⟩ := if_some H
 obtain ⟨g704, hA705⟩ := HO698.form (pos_of (j := a2) (by first | assumption | decide) (by first | assumption | omega))
 refine st (.pointer (some ((⟨g704, 0, none⟩ : Addr).add ((a2 : Int).toNat * 1)))) rfl rfl (xr_indexAddr _ _ _ rfl rfl rfl (index_at Try.underlying43 info4 hA705 (by first | assumption | decide | omega) (by first | assumption | decide | omega))) ?_
 obtain ⟨y706, A707, H⟩ := bnd H
 refine Own.store1 Kd.bool (C := C697) (i := 11) rfl rfl 4 _ _ rfl 4 1 a2 y692 true (.bool true) [.bool true] hA705 rfl rfl rfl rfl (by kernel_rfl) (by simp [Value.oneCell']) rfl HO698 (by decide) (by first | assumption | decide | omega) (by first | assumption | decide | omega) (fk_bool _ _ true) (Option.some.inj A707) ?_
 intro w708 C709 HO710 HC712 hs711
 replace HP1 := HP1.thru hs711 rfl
 replace HS := HS.trans hs711 hc rfl
 (try simp only [ls0, ls1])
 (try rw [show y692.length = y706.length by rw [← Option.some.inj A707, List.length_set]])
 refine wl_end ?_
 (try simp only [ls0, ls1])
 refine hK701 _ _ ?_
 (try clear hK701 K701)
 refine wp_seq_k fun K713 hK713 => ?_
 refine wp_seq_k fun K714 hK714 => ?_
 refine wl_region ?_
 refine st (.int .i64 0) rfl rfl (xr_assign _ rfl rfl) ?_
 refine wl_end ?_
 (try simp only [ls0, ls1])
 refine hK714 _ _ ?_
 (try clear hK714 K714)
 refine wp_block ?_
 (try simp only [ls0, ls1])
 refine wp_looped (looped_fin (fun kq1159 a_ w1158 => ∃ (C1157 : Nat → Nat) (x1156 : Int) (A1151 : Option Addr) (n1152 cp1153 : Nat) (x1150 : List Bool) (g_ : Nat → Value), a_ = ⟨#[.int .i64 a0, .slice A1 l1.length c1, (g_ 2), .int .i64 a3, (g_ 4), (g_ 5), (g_ 6), (g_ 7), (g_ 8), .slice A1151 n1152 cp1153, .int .i64 x1156, (g_ 11), (g_ 12), (g_ 13), (g_ 14), (g_ 15), (g_ 16), (g_ 17), (g_ 18), (g_ 19), (g_ 20), (g_ 21), (g_ 22), (g_ 23), (g_ 24), (g_ 25), (g_ 26), (g_ 27), (g_ 28), (g_ 29), (g_ 30), (g_ 31), (g_ 32), (g_ 33), (g_ 34), (g_ 35), (g_ 36), (g_ 37), (g_ 38), (g_ 39), (g_ 40), (g_ 41), (g_ 42), (g_ 43), (g_ 44), (g_ 45), (g_ 46), (g_ 47), (g_ 48), (g_ 49), (g_ 50), (g_ 51), (g_ 52), (g_ 53), (g_ 54)], []⟩ ∧ Step c w C1157 w1158 [] ∧ kq1159 ≤ k ∧ (Ft C1157 [0] w1158 (fun w_ => k35.C w_ A1 l1.length l1)) ∧ (Own C1157 12 w1158 Kd.bool 4 (.slice A1151 n1152 cp1153) x1150) ∧ (n1152 ≤ cp1153) ∧ blazonref25_Endless.l1 kq1159 a0 a3 l1 x1150 x1156 = some r) ?step fun hL_ => ?init)
 case init =>
  replace HP1 := Ft.recol (a := 11) (b := 12) HP1 (.inl rfl)
  replace HO710 := Own.recolor (b := 12) HO710 (by decide)
  replace HS := Step.recol (a := 11) (b := 12) HS hc (by decide)
  exact jmpL (fun a_ h_ => hL_ k a_ _ h_) (fun g_ => ⟨_, 0, A694, y706.length, cp695, y706, g_, rfl, HS, Nat.le_refl _, HP1, HO710, HC712, H⟩) rfl
 case step =>
  intro kq1159 ih1162 a1163 w1158 hr1164
  obtain ⟨C1157, x1156, A1151, n1152, cp1153, x1150, g_, rfl, HS1160, hk1161, HJ1149, HJ1155, HC1154, H⟩ := hr1164
  refine looped_round ?_
  obtain rfl : n1152 = x1150.length := HJ1155.at_.1
  cases kq1159 with
  | zero => exact absurd H (by simp [blazonref25_Endless.l1])
  | succ k1165 =>
   simp only [blazonref25_Endless.l1] at H
   refine wp_seq_k fun K1166 hK1166 => ?_
   refine wp_seq_k fun K1167 hK1167 => ?_
   refine wl_region ?_
   refine mv_ rfl ?_
   refine mv_ rfl ?_
   refine st (.bool (decide (x1156 < a0))) rfl rfl (xr_bin _ _ _ rfl rfl rfl (B.lss_i64 _ _)) ?_
   refine wl_end ?_
   (try simp only [ls0, ls1])
   refine hK1167 _ _ ?_
   (try clear hK1167 K1167)
   by_cases c1168 : x1156 < a0
   ·rw [if_pos c1168] at H
    (try rw [(decide_eq_true c1168)])
    refine wp_cond_true rfl ?_
    refine wp_skip ?_
    (try simp only [ls0, ls1])
    refine hK1166 _ _ ?_
    (try clear hK1166 K1166)
    refine wp_seq_k fun K1169 hK1169 => ?_
    refine wp_block ?_
    refine wp_seq_k fun K1170 hK1170 => ?_
    refine wl_region ?_
    refine st (.int .i64 0) rfl rfl (xr_assign _ rfl rfl) ?_
    refine wl_end ?_
    (try simp only [ls0, ls1])
    refine hK1170 _ _ ?_
    (try clear hK1170 K1170)
    refine wp_block ?_
    (try simp only [ls0, ls1])
    refine wp_looped (looped_fin (fun kq1307 a_ w1306 => ∃ (C1305 : Nat → Nat) (x1304 : Int) (A1299 : Option Addr) (n1300 cp1301 : Nat) (x1298 : List Bool) (g_ : Nat → Value), a_ = ⟨#[.int .i64 a0, .slice A1 l1.length c1, (g_ 2), .int .i64 a3, (g_ 4), (g_ 5), (g_ 6), (g_ 7), (g_ 8), .slice A1299 n1300 cp1301, .int .i64 x1156, .int .i64 x1304, (g_ 12), (g_ 13), (g_ 14), (g_ 15), (g_ 16), (g_ 17), (g_ 18), (g_ 19), (g_ 20), (g_ 21), (g_ 22), (g_ 23), (g_ 24), (g_ 25), (g_ 26), (g_ 27), (g_ 28), (g_ 29), (g_ 30), (g_ 31), (g_ 32), (g_ 33), (g_ 34), (g_ 35), (g_ 36), (g_ 37), (g_ 38), (g_ 39), (g_ 40), (g_ 41), (g_ 42), (g_ 43), (g_ 44), (g_ 45), (g_ 46), (g_ 47), (g_ 48), (g_ 49), (g_ 50), (g_ 51), (g_ 52), (g_ 53), (g_ 54)], []⟩ ∧ Step c w C1305 w1306 [] ∧ kq1307 ≤ k1165 ∧ (Ft C1305 [0] w1306 (fun w_ => k35.C w_ A1 l1.length l1)) ∧ (Own C1305 13 w1306 Kd.bool 4 (.slice A1299 n1300 cp1301) x1298) ∧ (n1300 ≤ cp1301) ∧ blazonref25_Endless.l0 kq1307 a0 a3 l1 x1156 x1298 x1304 = some r) ?step fun hL_ => ?init)
    case init =>
     replace HJ1149 := Ft.recol (a := 12) (b := 13) HJ1149 (.inl rfl)
     replace HJ1155 := Own.recolor (b := 13) HJ1155 (by decide)
     replace HS1160 := Step.recol (a := 12) (b := 13) HS1160 hc (by decide)
     exact jmpL (fun a_ h_ => hL_ k1165 a_ _ h_) (fun g_ => ⟨_, 0, A1151, x1150.length, cp1153, x1150, g_, rfl, HS1160, Nat.le_refl _, HJ1149, HJ1155, HC1154, H⟩) rfl
    case step =>
     intro kq1307 ih1310 a1311 w1306 hr1312
     obtain ⟨C1305, x1304, A1299, n1300, cp1301, x1298, g_, rfl, HS1308, hk1309, HJ1297, HJ1303, HC1302, H⟩ := hr1312
     refine looped_round ?_
     obtain rfl : n1300 = x1298.length := HJ1303.at_.1
     cases kq1307 with
     | zero => exact absurd H (by simp [blazonref25_Endless.l0])
     | succ k1313 =>
      simp only [blazonref25_Endless.l0] at H
      refine wp_seq_k fun K1314 hK1314 => ?_
      refine wp_seq_k fun K1315 hK1315 => ?_
      refine wl_region ?_
      refine mv_ rfl ?_
      refine mv_ rfl ?_
      refine st (.int .i64 (l1.length : Int)) rfl rfl (xr_builtin #[.slice A1 l1.length c1] (.int .i64 (l1.length : Int)) rfl (mp_ rfl) (by first | rfl | (go_simp; done) | (go_simp; rfl) | (go_simp; exact i64_w _) | (go_simp; exact i32_w _))) ?_
      refine st (.bool (decide (x1304 < (l1.length : Int)))) rfl rfl (xr_bin _ _ _ rfl rfl rfl (B.lss_i64 _ _)) ?_
      simp only [ls0, ls1]
      refine wl_end ?_
      (try simp only [ls0, ls1])
      refine hK1315 _ _ ?_
      (try clear hK1315 K1315)
      by_cases c1316 : x1304 < (l1.length : Int)
      ·rw [if_pos c1316] at H
       (try rw [(decide_eq_true c1316)])
       refine wp_cond_true rfl ?_
       refine wp_skip ?_
       (try simp only [ls0, ls1])
       refine hK1314 _ _ ?_
       (try clear hK1314 K1314)
       refine wp_seq_k fun K1317 hK1317 => ?_
       refine wp_block ?_
       refine wp_seq_k fun K1318 hK1318 => ?_
       have hj1331 : ∀ (kq1338 : Nat) (C1332 : Nat → Nat) (w1333 : World) (x1337 : Bool) (g_ : Nat → Value), Step c w C1332 w1333 [] → kq1338 ≤ k1313 → (Ft C1332 [0] w1333 (fun w_ => k35.C w_ A1 l1.length l1)) → (Own C1332 13 w1333 Kd.bool 4 (.slice A1299 x1298.length cp1301) x1298) → blazonref25_Endless.j0 kq1338 a0 a3 l1 x1156 x1298 x1304 x1337 = some r → K1318 ⟨#[.int .i64 a0, .slice A1 l1.length c1, (g_ 2), .int .i64 a3, (g_ 4), (g_ 5), (g_ 6), (g_ 7), (g_ 8), .slice A1299 x1298.length cp1301, .int .i64 x1156, .int .i64 x1304, (g_ 12), (g_ 13), (g_ 14), (g_ 15), (g_ 16), (g_ 17), (g_ 18), (g_ 19), (g_ 20), (g_ 21), (g_ 22), (g_ 23), (g_ 24), (g_ 25), (g_ 26), (g_ 27), (g_ 28), (g_ 29), (g_ 30), (g_ 31), (g_ 32), (g_ 33), (g_ 34), (g_ 35), (g_ 36), (g_ 37), (g_ 38), (g_ 39), (g_ 40), (g_ 41), (g_ 42), .bool x1337, (g_ 44), (g_ 45), (g_ 46), (g_ 47), (g_ 48), (g_ 49), (g_ 50), (g_ 51), (g_ 52), (g_ 53), (g_ 54)], []⟩ w1333 := by
        intro kq1338 C1332 w1333 x1337 g_ HS1334 hk1339 HJ1335 HJ1336 H
        cases kq1338 with
        | zero => exact absurd H (by simp [blazonref25_Endless.j0])
        | succ k1340 =>
         simp only [blazonref25_Endless.j0] at H
         refine hK1318 _ _ ?_
         (try clear hK1318)
         by_cases c1341 : x1337 = true
         ·rw [if_pos c1341] at H
          (try rw [c1341])
          refine wp_cond_true rfl ?_
          refine wl_region ?_
          refine mv_ rfl ?_
          refine mv_ rfl ?_
          refine mv_ rfl ?_
          simp only [ls0, ls1]
          obtain ⟨c1342, H⟩ := if_some H
          obtain ⟨c1343, H⟩ := if_some H
          obtain ⟨ad1344, hA1345⟩ := c_addr (Ft.now HJ1335) (pos_of (j := x1304) (by first | assumption | decide) (by first | assumption | omega))
          refine st (.pointer (some (ad1344.add ((x1304 : Int).toNat * 3)))) rfl rfl (xr_indexAddr _ _ _ rfl rfl rfl (index_at Try.underlying22 info35 hA1345 (by first | assumption | decide | omega) (by first | assumption | decide | omega))) ?_
          refine st (.pointer (some ((ad1344.add ((x1304 : Int).toNat * 3)).add 1))) rfl rfl (xr_fieldAddr _ _ rfl rfl (field_at2 Try.underlying35 rfl rfl (by kernel_rfl))) ?_
          refine st (.int .i64 ((rd_T35 l1 x1304).f1)) rfl rfl (xr_load (.pointer (some ((ad1344.add ((x1304 : Int).toNat * 3)).add 1))) (.int .i64 ((rd_T35 l1 x1304).f1)) rfl rfl (by obtain ⟨ad_, cs_, e_, _, hK_, hc_⟩ := Kd.C_get (Ft.now HJ1335) z35 x1304 (by first | assumption | decide | omega) (by first | assumption | decide | omega); rw [hA1345] at e_; injection e_ with e_; subst e_; obtain rfl := k35_open hK_; exact load_cell Try.underlying3 rfl (by first | (rw [add_add]; exact hc_ 1 _ rfl) | (have h_ := hc_ 1 _ rfl; rw [Nat.add_zero] at h_; exact h_)))) ?_
          obtain ⟨c1347, H⟩ := if_some H
          obtain ⟨c1348, H⟩ := if_some H
          obtain ⟨g1349, hA1350⟩ := HJ1336.form (pos_of (j := ((rd_T35 l1 x1304).f1)) (by first | assumption | decide) (by first | assumption | omega))
          refine st (.pointer (some ((⟨g1349, 0, none⟩ : Addr).add (((rd_T35 l1 x1304).f1 : Int).toNat * 1)))) rfl rfl (xr_indexAddr _ _ _ rfl rfl rfl (index_at Try.underlying43 info4 hA1350 (by first | assumption | decide | omega) (by first | assumption | decide | omega))) ?_
          simp only [ls0, ls1]
          obtain ⟨y1351, A1352, H⟩ := bnd H
          refine Own.store1 Kd.bool (C := C1332) (i := 13) rfl rfl 4 _ _ rfl 4 1 ((rd_T35 l1 x1304).f1) x1298 true (.bool true) [.bool true] hA1350 rfl rfl rfl rfl (by kernel_rfl) (by simp [Value.oneCell']) rfl HJ1336 (by decide) (by first | assumption | decide | omega) (by first | assumption | decide | omega) (fk_bool _ _ true) (Option.some.inj A1352) ?_
          intro w1353 C1354 HO1355 HC1357 hs1356
          replace HJ1335 := HJ1335.thru hs1356 rfl
          replace HS1334 := HS1334.trans hs1356 hc rfl
          (try simp only [ls0, ls1])
          (try rw [show x1298.length = y1351.length by rw [← Option.some.inj A1352, List.length_set]])
          refine wl_end ?_
          (try simp only [ls0, ls1])
          refine hK1317 _ _ ?_
          (try clear hK1317 K1317)
          refine wl_region ?_
          refine mv_ rfl ?_
          refine st (.int .i64 (wrap64 (x1304 + 1))) rfl rfl (xr_bin _ _ _ rfl rfl rfl (B.add_i64 _ _)) ?_
          refine as_ rfl ?_
          refine wl_end ?_
          (try simp only [ls0, ls1])
          exact jmpL (fun a_ h_ => ih1310 k1340 (by omega) a_ _ h_) (fun g_ => ⟨_, wrap64 (x1304 + 1), A1299, y1351.length, cp1301, y1351, g_, rfl, HS1334, (by omega), HJ1335, HO1355, HC1357, H⟩) rfl
         rw [if_neg c1341] at H
         (try rw [(Bool.eq_false_iff.mpr c1341)])
         refine wp_cond_false rfl ?_
         refine wp_skip ?_
         (try simp only [ls0, ls1])
         refine hK1317 _ _ ?_
         (try clear hK1317 K1317)
         refine wl_region ?_
         refine mv_ rfl ?_
         refine st (.int .i64 (wrap64 (x1304 + 1))) rfl rfl (xr_bin _ _ _ rfl rfl rfl (B.add_i64 _ _)) ?_
         refine as_ rfl ?_
         refine wl_end ?_
         (try simp only [ls0, ls1])
         exact jmpL (fun a_ h_ => ih1310 k1340 (by omega) a_ _ h_) (fun g_ => ⟨_, wrap64 (x1304 + 1), A1299, x1298.length, cp1301, x1298, g_, rfl, HS1334, (by omega), HJ1335, HJ1336, HC1302, H⟩) rfl
       refine wl_region ?_
       refine mv_ rfl ?_
       refine mv_ rfl ?_
       obtain ⟨c1358, H⟩ := if_some H
       obtain ⟨ad1359, hA1360⟩ := c_addr (Ft.now HJ1297) (pos_of (j := x1304) (by first | assumption | decide) (by first | assumption | omega))
       refine st (.pointer (some (ad1359.add ((x1304 : Int).toNat * 3)))) rfl rfl (xr_indexAddr _ _ _ rfl rfl rfl (index_at Try.underlying22 info35 hA1360 (by first | assumption | decide | omega) (by first | assumption | decide | omega))) ?_
       refine st (.pointer (some ((ad1359.add ((x1304 : Int).toNat * 3)).add 2))) rfl rfl (xr_fieldAddr _ _ rfl rfl (field_at2 Try.underlying35 rfl rfl (by kernel_rfl))) ?_
       simp only [ls0, ls1]
       refine st (.int .i64 ((rd_T35 l1 x1304).f2)) rfl rfl (xr_load (.pointer (some ((ad1359.add ((x1304 : Int).toNat * 3)).add 2))) (.int .i64 ((rd_T35 l1 x1304).f2)) rfl rfl (by obtain ⟨ad_, cs_, e_, _, hK_, hc_⟩ := Kd.C_get (Ft.now HJ1297) z35 x1304 (by first | assumption | decide | omega) (by first | assumption | decide | omega); rw [hA1360] at e_; injection e_ with e_; subst e_; obtain rfl := k35_open hK_; exact load_cell Try.underlying2 rfl (by first | (rw [add_add]; exact hc_ 2 _ rfl) | (have h_ := hc_ 2 _ rfl; rw [Nat.add_zero] at h_; exact h_)))) ?_
       refine st (.bool (decide (((rd_T35 l1 x1304).f2) = 4611686018427387904))) rfl rfl (xr_bin _ _ _ rfl rfl rfl (B.eql_i64 _ _)) ?_
       refine mv_ rfl ?_
       by_cases c1362 : ((rd_T35 l1 x1304).f2) = 4611686018427387904
       ·rw [if_pos c1362] at H
        (try rw [(decide_eq_true c1362)])
        refine on_guard (guard_on 6 true 34 rfl rfl rfl) ?_
        refine mv_ rfl ?_
        simp only [ls0, ls1]
        refine on_guard (guard_on 6 true 34 rfl rfl rfl) ?_
        refine mv_ rfl ?_
        refine on_guard (guard_on 6 true 34 rfl rfl rfl) ?_
        refine mv_ rfl ?_
        refine on_guard (guard_on 6 true 34 rfl rfl rfl) ?_
        obtain ⟨ad1363, hA1364⟩ := c_addr (Ft.now HJ1297) (pos_of (j := x1304) (by first | assumption | decide) (by first | assumption | omega))
        refine st (.pointer (some (ad1363.add ((x1304 : Int).toNat * 3)))) rfl rfl (xr_indexAddr _ _ _ rfl rfl rfl (index_at Try.underlying22 info35 hA1364 (by first | assumption | decide | omega) (by first | assumption | decide | omega))) ?_
        refine on_guard (guard_on 6 true 34 rfl rfl rfl) ?_
        refine st (.pointer (some ((ad1363.add ((x1304 : Int).toNat * 3)).add 0))) rfl rfl (xr_fieldAddr _ _ rfl rfl (field_at2 Try.underlying35 rfl rfl (by kernel_rfl))) ?_
        simp only [ls0, ls1]
        refine on_guard (guard_on 6 true 34 rfl rfl rfl) ?_
        refine st (.int .i64 ((rd_T35 l1 x1304).f0)) rfl rfl (xr_load (.pointer (some ((ad1363.add ((x1304 : Int).toNat * 3)).add 0))) (.int .i64 ((rd_T35 l1 x1304).f0)) rfl rfl (by obtain ⟨ad_, cs_, e_, _, hK_, hc_⟩ := Kd.C_get (Ft.now HJ1297) z35 x1304 (by first | assumption | decide | omega) (by first | assumption | decide | omega); rw [hA1364] at e_; injection e_ with e_; subst e_; obtain rfl := k35_open hK_; exact load_cell Try.underlying3 rfl (by first | (rw [add_add]; exact hc_ 0 _ rfl) | (have h_ := hc_ 0 _ rfl; rw [Nat.add_zero] at h_; exact h_)))) ?_
        refine on_guard (guard_on 6 true 34 rfl rfl rfl) ?_
        obtain ⟨c1366, H⟩ := if_some H
        obtain ⟨c1367, H⟩ := if_some H
        obtain ⟨g1368, hA1369⟩ := HJ1303.form (pos_of (j := ((rd_T35 l1 x1304).f0)) (by first | assumption | decide) (by first | assumption | omega))
        refine st (.pointer (some ((⟨g1368, 0, none⟩ : Addr).add (((rd_T35 l1 x1304).f0 : Int).toNat * 1)))) rfl rfl (xr_indexAddr _ _ _ rfl rfl rfl (index_at Try.underlying43 info4 hA1369 (by first | assumption | decide | omega) (by first | assumption | decide | omega))) ?_
        refine on_guard (guard_on 6 true 34 rfl rfl rfl) ?_
        refine st (.bool (rdOf false x1298 ((rd_T35 l1 x1304).f0))) rfl rfl (xr_load _ _ rfl rfl (load_bool Try.underlying4 rfl hA1369 (Ft.now (HJ1303.ft)) (by first | assumption | decide | omega) (by first | assumption | decide | omega))) ?_
        refine st (.bool (rdOf false x1298 ((rd_T35 l1 x1304).f0))) rfl rfl (xr_pick true _ rfl rfl rfl) ?_
        simp only [ls0, ls1]
        refine wl_end ?_
        (try simp only [ls0, ls1])
        exact jmp (fun g_ => hj1331 _ _ _ (rdOf false x1298 ((rd_T35 l1 x1304).f0)) g_ HS1308 (by omega) HJ1297 HJ1303 H) rfl
       rw [if_neg c1362] at H
       (try rw [(decide_eq_false c1362)])
       refine sk_guard (guard_off 6 true 34 rfl rfl false (by decide) rfl) rfl ?_
       refine sk_guard (guard_off 6 true 34 rfl rfl false (by decide) rfl) rfl ?_
       refine sk_guard (guard_off 6 true 34 rfl rfl false (by decide) rfl) rfl ?_
       refine sk_guard (guard_off 6 true 34 rfl rfl false (by decide) rfl) rfl ?_
       simp only [ls0, ls1]
       refine sk_guard (guard_off 6 true 34 rfl rfl false (by decide) rfl) rfl ?_
       refine sk_guard (guard_off 6 true 34 rfl rfl false (by decide) rfl) rfl ?_
       refine sk_guard (guard_off 6 true 34 rfl rfl false (by decide) rfl) rfl ?_
       refine sk_guard (guard_off 6 true 34 rfl rfl false (by decide) rfl) rfl ?_
       simp only [ls0, ls1]
       refine st (.bool false) rfl rfl (xr_pick false _ rfl rfl rfl) ?_
       refine wl_end ?_
       (try simp only [ls0, ls1])
       exact jmp (fun g_ => hj1331 _ _ _ (false) g_ HS1308 (by omega) HJ1297 HJ1303 H) rfl
      rw [if_neg c1316] at H
      (try rw [(decide_eq_false c1316)])
      refine wp_cond_false rfl ?_
      refine wp_exit ?_
      (try simp only [ls0, ls1])
      refine hK1169 _ _ ?_
      (try clear hK1169 K1169)
      refine wl_region ?_
      refine mv_ rfl ?_
      refine st (.int .i64 (wrap64 (x1156 + 1))) rfl rfl (xr_bin _ _ _ rfl rfl rfl (B.add_i64 _ _)) ?_
      refine as_ rfl ?_
      refine wl_end ?_
      (try simp only [ls0, ls1])
      replace HJ1297 := Ft.recol (a := 13) (b := 12) HJ1297 (.inl rfl)
      replace HJ1303 := Own.recolor (b := 12) HJ1303 (by decide)
      replace HS1308 := Step.recol (a := 13) (b := 12) HS1308 hc (by decide)
      exact jmpL (fun a_ h_ => ih1162 k1313 (by omega) a_ _ h_) (fun g_ => ⟨_, wrap64 (x1156 + 1), A1299, x1298.length, cp1301, x1298, g_, rfl, HS1308, (by omega), HJ1297, HJ1303, HC1302, H⟩) rfl
   rw [if_neg c1168] at H
   (try rw [(decide_eq_false c1168)])
   refine wp_cond_false rfl ?_
   refine wp_exit ?_
   (try simp only [ls0, ls1])
   refine hK713 _ _ ?_
   (try clear hK713 K713)
   refine wp_seq_k fun K1370 hK1370 => ?_
   refine wl_region ?_
   refine mv_ rfl ?_
   refine mv_ rfl ?_
   obtain ⟨c1371, H⟩ := if_some H
   obtain ⟨c1372, H⟩ := if_some H
   obtain ⟨g1373, hA1374⟩ := HJ1155.form (pos_of (j := a3) (by first | assumption | decide) (by first | assumption | omega))
   refine st (.pointer (some ((⟨g1373, 0, none⟩ : Addr).add ((a3 : Int).toNat * 1)))) rfl rfl (xr_indexAddr _ _ _ rfl rfl rfl (index_at Try.underlying43 info4 hA1374 (by first | assumption | decide | omega) (by first | assumption | decide | omega))) ?_
   refine st (.bool (rdOf false x1150 a3)) rfl rfl (xr_load _ _ rfl rfl (load_bool Try.underlying4 rfl hA1374 (Ft.now (HJ1155.ft)) (by first | assumption | decide | omega) (by first | assumption | decide | omega))) ?_
   simp only [ls0, ls1]
   refine as_ rfl ?_
   refine wl_end ?_
   (try simp only [ls0, ls1])
   refine hK1370 _ _ ?_
   (try clear hK1370 K1370)
   refine wp_ret ?_
   (try simp only [Exit.inBlock, Exit.then, Exit.noGoto])
   (try simp only [ls0, ls1])
   obtain rfl := Option.some.inj H
   refine bodyPost_ret (results_tmp rfl _ _ _) rfl ?_
   exact ⟨_, rfl, HS1160⟩

/-! ### blazonref25_Cut: function 26 -/
mutual
def blazonref25_Cut.j0 : Nat → (List (S35)) → (List Bool) → Int → Int → Bool → Option (Int)
  | 0, _, _, _, _, _ => none
  | k + 1, l0, l1, x337, x338, x375 => if x375 = true then (if 0 ≤ x338 then (if x338 < (l0.length : Int) then (if ((rd_T35 l0 x338).f2) = 4611686018427387904 then (some (-1)) else (blazonref25_Cut.l0 k l0 l1 (wrap64 (x337 + ((rd_T35 l0 x338).f2))) (wrap64 (x338 + 1)))) else (none)) else (none)) else (blazonref25_Cut.l0 k l0 l1 x337 (wrap64 (x338 + 1)))
def blazonref25_Cut.l0 : Nat → (List (S35)) → (List Bool) → Int → Int → Option (Int)
  | 0, _, _, _, _ => none
  | k + 1, l0, l1, x337, x338 => if x338 < (l0.length : Int) then (if 0 ≤ x338 then (if 0 ≤ ((rd_T35 l0 x338).f0) then (if ((rd_T35 l0 x338).f0) < (l1.length : Int) then (if rdOf false l1 ((rd_T35 l0 x338).f0) = true then (if 0 ≤ ((rd_T35 l0 x338).f1) then (if ((rd_T35 l0 x338).f1) < (l1.length : Int) then (blazonref25_Cut.j0 k l0 l1 x337 x338 (!(rdOf false l1 ((rd_T35 l0 x338).f1)))) else (none)) else (none)) else (blazonref25_Cut.j0 k l0 l1 x337 x338 false)) else (none)) else (none)) else (none)) else (some x337)
end
def blazonref25_Cut.f (k : Nat) (l0 : List (S35)) (l1 : List Bool) : Option (Int) := blazonref25_Cut.l0 k l0 l1 0 0

set_option maxHeartbeats 8000000 in
set_option maxRecDepth 100000 in
theorem blazonref25_Cut.calls (k : Nat) (A0 : Option Addr) (c0 : Nat) (l0 : List (S35)) (A1 : Option Addr) (c1 : Nat) (l1 : List Bool) (r : Int) (c : Nat → Nat) (w : World) (hc : ∀ k, c k < 10) (HP0 : Ft c [0] w (fun w_ => k35.C w_ A0 l0.length l0)) (HCP0 : l0.length ≤ c0) (HP1 : Ft c [0] w (fun w_ => Kd.bool.C w_ A1 l1.length l1)) (HCP1 : l1.length ≤ c1) (H : blazonref25_Cut.f k l0 l1 = some r) :
    Calls Try.prog 26 #[.slice A0 l0.length c0, .slice A1 l1.length c1] w fun e w' => ∃ (c' : Nat → Nat) , e = .returned (.int .i64 r) ∧ Step c w c' w' [] := by
 unfold blazonref25_Cut.f at H
 have HS := Step.refl c w []
 go_enter Try.func26, Try.ntmps26
 refine wp_seq_k fun K205 hK205 => ?_
 refine wl_region ?_
 refine st (.int .i64 0) rfl rfl (xr_assign _ rfl rfl) ?_
 refine wl_end ?_
 (try simp only [ls0, ls1])
 refine hK205 _ _ ?_
 (try clear hK205 K205)
 refine wp_seq_k fun K206 hK206 => ?_
 refine wl_region ?_
 refine st (.int .i64 0) rfl rfl (xr_assign _ rfl rfl) ?_
 refine wl_end ?_
 (try simp only [ls0, ls1])
 refine hK206 _ _ ?_
 (try clear hK206 K206)
 refine wp_seq_k fun K207 hK207 => ?_
 refine wp_seq_k fun K208 hK208 => ?_
 refine wl_region ?_
 refine st (.int .i64 0) rfl rfl (xr_assign _ rfl rfl) ?_
 refine wl_end ?_
 (try simp only [ls0, ls1])
 refine hK208 _ _ ?_
 (try clear hK208 K208)
 refine wp_block ?_
 (try simp only [ls0, ls1])
 refine wp_looped (looped_fin (fun kq341 a_ w340 => ∃ (C339 : Nat → Nat) (x337 : Int) (x338 : Int) (g_ : Nat → Value), a_ = ⟨#[.slice A0 l0.length c0, .slice A1 l1.length c1, (g_ 2), (g_ 3), (g_ 4), .int .i64 x337, .int .i64 x338, (g_ 7), (g_ 8), (g_ 9), (g_ 10), (g_ 11), (g_ 12), (g_ 13), (g_ 14), (g_ 15), (g_ 16), (g_ 17), (g_ 18), (g_ 19), (g_ 20), (g_ 21), (g_ 22), (g_ 23), (g_ 24), (g_ 25), (g_ 26), (g_ 27), (g_ 28), (g_ 29), (g_ 30), (g_ 31), (g_ 32), (g_ 33), (g_ 34), (g_ 35), (g_ 36), (g_ 37), (g_ 38), (g_ 39), (g_ 40), (g_ 41), (g_ 42), (g_ 43), (g_ 44), (g_ 45)], []⟩ ∧ Step c w C339 w340 [] ∧ kq341 ≤ k ∧ (Ft C339 [0] w340 (fun w_ => k35.C w_ A0 l0.length l0)) ∧ (Ft C339 [0] w340 (fun w_ => Kd.bool.C w_ A1 l1.length l1)) ∧ blazonref25_Cut.l0 kq341 l0 l1 x337 x338 = some r) ?step fun hL_ => ?init)
 case init =>
  exact jmpL (fun a_ h_ => hL_ k a_ _ h_) (fun g_ => ⟨_, 0, 0, g_, rfl, HS, Nat.le_refl _, HP0, HP1, H⟩) rfl
 case step =>
  intro kq341 ih344 a345 w340 hr346
  obtain ⟨C339, x337, x338, g_, rfl, HS342, hk343, HJ335, HJ336, H⟩ := hr346
  refine looped_round ?_
  cases kq341 with
  | zero => exact absurd H (by simp [blazonref25_Cut.l0])
  | succ k347 =>
   simp only [blazonref25_Cut.l0] at H
   refine wp_seq_k fun K348 hK348 => ?_
   refine wp_seq_k fun K349 hK349 => ?_
   refine wl_region ?_
   refine mv_ rfl ?_
   refine mv_ rfl ?_
   refine st (.int .i64 (l0.length : Int)) rfl rfl (xr_builtin #[.slice A0 l0.length c0] (.int .i64 (l0.length : Int)) rfl (mp_ rfl) (by first | rfl | (go_simp; done) | (go_simp; rfl) | (go_simp; exact i64_w _) | (go_simp; exact i32_w _))) ?_
   refine st (.bool (decide (x338 < (l0.length : Int)))) rfl rfl (xr_bin _ _ _ rfl rfl rfl (B.lss_i64 _ _)) ?_
   simp only [ls0, ls1]
   refine wl_end ?_
   (try simp only [ls0, ls1])
   refine hK349 _ _ ?_
   (try clear hK349 K349)
   by_cases c350 : x338 < (l0.length : Int)
   ·rw [if_pos c350] at H
    (try rw [(decide_eq_true c350)])
    refine wp_cond_true rfl ?_
    refine wp_skip ?_
    (try simp only [ls0, ls1])
    refine hK348 _ _ ?_
    (try clear hK348 K348)
    refine wp_seq_k fun K351 hK351 => ?_
    refine wp_block ?_
    refine wp_seq_k fun K352 hK352 => ?_
    have hj369 : ∀ (kq376 : Nat) (C370 : Nat → Nat) (w371 : World) (x375 : Bool) (g_ : Nat → Value), Step c w C370 w371 [] → kq376 ≤ k347 → (Ft C370 [0] w371 (fun w_ => k35.C w_ A0 l0.length l0)) → (Ft C370 [0] w371 (fun w_ => Kd.bool.C w_ A1 l1.length l1)) → blazonref25_Cut.j0 kq376 l0 l1 x337 x338 x375 = some r → K352 ⟨#[.slice A0 l0.length c0, .slice A1 l1.length c1, (g_ 2), (g_ 3), (g_ 4), .int .i64 x337, .int .i64 x338, (g_ 7), (g_ 8), (g_ 9), (g_ 10), (g_ 11), (g_ 12), (g_ 13), (g_ 14), (g_ 15), (g_ 16), (g_ 17), (g_ 18), (g_ 19), (g_ 20), (g_ 21), (g_ 22), (g_ 23), (g_ 24), (g_ 25), (g_ 26), (g_ 27), (g_ 28), (g_ 29), (g_ 30), .bool x375, (g_ 32), (g_ 33), (g_ 34), (g_ 35), (g_ 36), (g_ 37), (g_ 38), (g_ 39), (g_ 40), (g_ 41), (g_ 42), (g_ 43), (g_ 44), (g_ 45)], []⟩ w371 := by
     intro kq376 C370 w371 x375 g_ HS372 hk377 HJ373 HJ374 H
     cases kq376 with
     | zero => exact absurd H (by simp [blazonref25_Cut.j0])
     | succ k378 =>
      simp only [blazonref25_Cut.j0] at H
      refine hK352 _ _ ?_
      (try clear hK352)
      by_cases c379 : x375 = true
      ·rw [if_pos c379] at H
       (try rw [c379])
       refine wp_cond_true rfl ?_
       refine wp_seq_k fun K380 hK380 => ?_
       refine wp_seq_k fun K381 hK381 => ?_
       refine wl_region ?_
       refine mv_ rfl ?_
       refine mv_ rfl ?_
       obtain ⟨c382, H⟩ := if_some H
       obtain ⟨c383, H⟩ := if_some H
       obtain ⟨ad384, hA385⟩ := c_addr (Ft.now HJ373) (pos_of (j := x338) (by first | assumption | decide) (by first | assumption | omega))
       refine st (.pointer (some (ad384.add ((x338 : Int).toNat * 3)))) rfl rfl (xr_indexAddr _ _ _ rfl rfl rfl (index_at Try.underlying22 info35 hA385 (by first | assumption | decide | omega) (by first | assumption | decide | omega))) ?_
       simp only [ls0, ls1]
       refine st (.pointer (some ((ad384.add ((x338 : Int).toNat * 3)).add 2))) rfl rfl (xr_fieldAddr _ _ rfl rfl (field_at2 Try.underlying35 rfl rfl (by kernel_rfl))) ?_
       refine st (.int .i64 ((rd_T35 l0 x338).f2)) rfl rfl (xr_load (.pointer (some ((ad384.add ((x338 : Int).toNat * 3)).add 2))) (.int .i64 ((rd_T35 l0 x338).f2)) rfl rfl (by obtain ⟨ad_, cs_, e_, _, hK_, hc_⟩ := Kd.C_get (Ft.now HJ373) z35 x338 (by first | assumption | decide | omega) (by first | assumption | decide | omega); rw [hA385] at e_; injection e_ with e_; subst e_; obtain rfl := k35_open hK_; exact load_cell Try.underlying2 rfl (by first | (rw [add_add]; exact hc_ 2 _ rfl) | (have h_ := hc_ 2 _ rfl; rw [Nat.add_zero] at h_; exact h_)))) ?_
       refine st (.bool (decide (((rd_T35 l0 x338).f2) = 4611686018427387904))) rfl rfl (xr_bin _ _ _ rfl rfl rfl (B.eql_i64 _ _)) ?_
       refine wl_end ?_
       (try simp only [ls0, ls1])
       refine hK381 _ _ ?_
       (try clear hK381 K381)
       by_cases c387 : ((rd_T35 l0 x338).f2) = 4611686018427387904
       ·rw [if_pos c387] at H
        (try rw [(decide_eq_true c387)])
        refine wp_cond_true rfl ?_
        refine wp_seq_k fun K388 hK388 => ?_
        refine wl_region ?_
        refine st (.int .i64 (-1)) rfl rfl (xr_assign _ rfl rfl) ?_
        refine wl_end ?_
        (try simp only [ls0, ls1])
        refine hK388 _ _ ?_
        (try clear hK388 K388)
        refine wp_ret ?_
        (try simp only [Exit.inBlock, Exit.then, Exit.noGoto])
        (try simp only [ls0, ls1])
        obtain rfl := Option.some.inj H
        refine bodyPost_ret (results_tmp rfl _ _ _) rfl ?_
        exact ⟨_, rfl, HS372⟩
       rw [if_neg c387] at H
       (try rw [(decide_eq_false c387)])
       refine wp_cond_false rfl ?_
       refine wp_skip ?_
       (try simp only [ls0, ls1])
       refine hK380 _ _ ?_
       (try clear hK380 K380)
       refine wl_region ?_
       refine mv_ rfl ?_
       refine mv_ rfl ?_
       refine mv_ rfl ?_
       obtain ⟨ad389, hA390⟩ := c_addr (Ft.now HJ373) (pos_of (j := x338) (by first | assumption | decide) (by first | assumption | omega))
       refine st (.pointer (some (ad389.add ((x338 : Int).toNat * 3)))) rfl rfl (xr_indexAddr _ _ _ rfl rfl rfl (index_at Try.underlying22 info35 hA390 (by first | assumption | decide | omega) (by first | assumption | decide | omega))) ?_
       simp only [ls0, ls1]
       refine st (.pointer (some ((ad389.add ((x338 : Int).toNat * 3)).add 2))) rfl rfl (xr_fieldAddr _ _ rfl rfl (field_at2 Try.underlying35 rfl rfl (by kernel_rfl))) ?_
       refine st (.int .i64 ((rd_T35 l0 x338).f2)) rfl rfl (xr_load (.pointer (some ((ad389.add ((x338 : Int).toNat * 3)).add 2))) (.int .i64 ((rd_T35 l0 x338).f2)) rfl rfl (by obtain ⟨ad_, cs_, e_, _, hK_, hc_⟩ := Kd.C_get (Ft.now HJ373) z35 x338 (by first | assumption | decide | omega) (by first | assumption | decide | omega); rw [hA390] at e_; injection e_ with e_; subst e_; obtain rfl := k35_open hK_; exact load_cell Try.underlying2 rfl (by first | (rw [add_add]; exact hc_ 2 _ rfl) | (have h_ := hc_ 2 _ rfl; rw [Nat.add_zero] at h_; exact h_)))) ?_
       refine st (.int .i64 (wrap64 (x337 + ((rd_T35 l0 x338).f2)))) rfl rfl (xr_bin _ _ _ rfl rfl rfl (B.add_i64 _ _)) ?_
       refine as_ rfl ?_
       simp only [ls0, ls1]
       refine wl_end ?_
       (try simp only [ls0, ls1])
       refine hK351 _ _ ?_
       (try clear hK351 K351)
       refine wl_region ?_
       refine mv_ rfl ?_
       refine st (.int .i64 (wrap64 (x338 + 1))) rfl rfl (xr_bin _ _ _ rfl rfl rfl (B.add_i64 _ _)) ?_
       refine as_ rfl ?_
       refine wl_end ?_
       (try simp only [ls0, ls1])
       exact jmpL (fun a_ h_ => ih344 k378 (by omega) a_ _ h_) (fun g_ => ⟨_, wrap64 (x337 + ((rd_T35 l0 x338).f2)), wrap64 (x338 + 1), g_, rfl, HS372, (by omega), HJ373, HJ374, H⟩) rfl
      rw [if_neg c379] at H
      (try rw [(Bool.eq_false_iff.mpr c379)])
      refine wp_cond_false rfl ?_
      refine wp_skip ?_
      (try simp only [ls0, ls1])
      refine hK351 _ _ ?_
      (try clear hK351 K351)
      refine wl_region ?_
      refine mv_ rfl ?_
      refine st (.int .i64 (wrap64 (x338 + 1))) rfl rfl (xr_bin _ _ _ rfl rfl rfl (B.add_i64 _ _)) ?_
      refine as_ rfl ?_
      refine wl_end ?_
      (try simp only [ls0, ls1])
      exact jmpL (fun a_ h_ => ih344 k378 (by omega) a_ _ h_) (fun g_ => ⟨_, x337, wrap64 (x338 + 1), g_, rfl, HS372, (by omega), HJ373, HJ374, H⟩) rfl
    refine wl_region ?_
    refine mv_ rfl ?_
    refine mv_ rfl ?_
    refine mv_ rfl ?_
    obtain ⟨c392, H⟩ := if_some H
    obtain ⟨ad393, hA394⟩ := c_addr (Ft.now HJ335) (pos_of (j := x338) (by first | assumption | decide) (by first | assumption | omega))
    refine st (.pointer (some (ad393.add ((x338 : Int).toNat * 3)))) rfl rfl (xr_indexAddr _ _ _ rfl rfl rfl (index_at Try.underlying22 info35 hA394 (by first | assumption | decide | omega) (by first | assumption | decide | omega))) ?_
    simp only [ls0, ls1]
    refine st (.pointer (some ((ad393.add ((x338 : Int).toNat * 3)).add 0))) rfl rfl (xr_fieldAddr _ _ rfl rfl (field_at2 Try.underlying35 rfl rfl (by kernel_rfl))) ?_
    refine st (.int .i64 ((rd_T35 l0 x338).f0)) rfl rfl (xr_load (.pointer (some ((ad393.add ((x338 : Int).toNat * 3)).add 0))) (.int .i64 ((rd_T35 l0 x338).f0)) rfl rfl (by obtain ⟨ad_, cs_, e_, _, hK_, hc_⟩ := Kd.C_get (Ft.now HJ335) z35 x338 (by first | assumption | decide | omega) (by first | assumption | decide | omega); rw [hA394] at e_; injection e_ with e_; subst e_; obtain rfl := k35_open hK_; exact load_cell Try.underlying3 rfl (by first | (rw [add_add]; exact hc_ 0 _ rfl) | (have h_ := hc_ 0 _ rfl; rw [Nat.add_zero] at h_; exact h_)))) ?_
    obtain ⟨c396, H⟩ := if_some H
    obtain ⟨c397, H⟩ := if_some H
    obtain ⟨ad398, hA399⟩ := c_addr (Ft.now HJ336) (pos_of (j := ((rd_T35 l0 x338).f0)) (by first | assumption | decide) (by first | assumption | omega))
    refine st (.pointer (some (ad398.add (((rd_T35 l0 x338).f0 : Int).toNat * 1)))) rfl rfl (xr_indexAddr _ _ _ rfl rfl rfl (index_at Try.underlying43 info4 hA399 (by first | assumption | decide | omega) (by first | assumption | decide | omega))) ?_
    refine st (.bool (rdOf false l1 ((rd_T35 l0 x338).f0))) rfl rfl (xr_load _ _ rfl rfl (load_bool Try.underlying4 rfl hA399 (Ft.now HJ336) (by first | assumption | decide | omega) (by first | assumption | decide | omega))) ?_
    simp only [ls0, ls1]
    refine mv_ rfl ?_
    by_cases c400 : rdOf false l1 ((rd_T35 l0 x338).f0) = true
    ·rw [if_pos c400] at H
     (try rw [c400])
     refine on_guard (guard_on 8 true 21 rfl rfl rfl) ?_
     refine mv_ rfl ?_
     refine on_guard (guard_on 8 true 21 rfl rfl rfl) ?_
     refine mv_ rfl ?_
     refine on_guard (guard_on 8 true 21 rfl rfl rfl) ?_
     refine mv_ rfl ?_
     simp only [ls0, ls1]
     refine on_guard (guard_on 8 true 21 rfl rfl rfl) ?_
     obtain ⟨ad401, hA402⟩ := c_addr (Ft.now HJ335) (pos_of (j := x338) (by first | assumption | decide) (by first | assumption | omega))
     refine st (.pointer (some (ad401.add ((x338 : Int).toNat * 3)))) rfl rfl (xr_indexAddr _ _ _ rfl rfl rfl (index_at Try.underlying22 info35 hA402 (by first | assumption | decide | omega) (by first | assumption | decide | omega))) ?_
     refine on_guard (guard_on 8 true 21 rfl rfl rfl) ?_
     refine st (.pointer (some ((ad401.add ((x338 : Int).toNat * 3)).add 1))) rfl rfl (xr_fieldAddr _ _ rfl rfl (field_at2 Try.underlying35 rfl rfl (by kernel_rfl))) ?_
     refine on_guard (guard_on 8 true 21 rfl rfl rfl) ?_
     refine st (.int .i64 ((rd_T35 l0 x338).f1)) rfl rfl (xr_load (.pointer (some ((ad401.add ((x338 : Int).toNat * 3)).add 1))) (.int .i64 ((rd_T35 l0 x338).f1)) rfl rfl (by obtain ⟨ad_, cs_, e_, _, hK_, hc_⟩ := Kd.C_get (Ft.now HJ335) z35 x338 (by first | assumption | decide | omega) (by first | assumption | decide | omega); rw [hA402] at e_; injection e_ with e_; subst e_; obtain rfl := k35_open hK_; exact load_cell Try.underlying3 rfl (by first | (rw [add_add]; exact hc_ 1 _ rfl) | (have h_ := hc_ 1 _ rfl; rw [Nat.add_zero] at h_; exact h_)))) ?_
     refine on_guard (guard_on 8 true 21 rfl rfl rfl) ?_
     obtain ⟨c404, H⟩ := if_some H
     obtain ⟨c405, H⟩ := if_some H
     obtain ⟨ad406, hA407⟩ := c_addr (Ft.now HJ336) (pos_of (j := ((rd_T35 l0 x338).f1)) (by first | assumption | decide) (by first | assumption | omega))
     refine st (.pointer (some (ad406.add (((rd_T35 l0 x338).f1 : Int).toNat * 1)))) rfl rfl (xr_indexAddr _ _ _ rfl rfl rfl (index_at Try.underlying43 info4 hA407 (by first | assumption | decide | omega) (by first | assumption | decide | omega))) ?_
     simp only [ls0, ls1]
     refine on_guard (guard_on 8 true 21 rfl rfl rfl) ?_
     refine st (.bool (rdOf false l1 ((rd_T35 l0 x338).f1))) rfl rfl (xr_load _ _ rfl rfl (load_bool Try.underlying4 rfl hA407 (Ft.now HJ336) (by first | assumption | decide | omega) (by first | assumption | decide | omega))) ?_
     refine on_guard (guard_on 8 true 21 rfl rfl rfl) ?_
     refine st (.bool (!(rdOf false l1 ((rd_T35 l0 x338).f1)))) rfl rfl (xr_un (.bool (rdOf false l1 ((rd_T35 l0 x338).f1))) _ rfl rfl (by first | rfl | (go_simp; done) | (go_simp; rfl) | (go_simp; exact i64_w _) | (go_simp; exact i32_w _))) ?_
     refine st (.bool (!(rdOf false l1 ((rd_T35 l0 x338).f1)))) rfl rfl (xr_pick true _ rfl rfl rfl) ?_
     refine wl_end ?_
     (try simp only [ls0, ls1])
     exact jmp (fun g_ => hj369 _ _ _ (!(rdOf false l1 ((rd_T35 l0 x338).f1))) g_ HS342 (by omega) HJ335 HJ336 H) rfl
    rw [if_neg c400] at H
    (try rw [(Bool.eq_false_iff.mpr c400)])
    refine sk_guard (guard_off 8 true 21 rfl rfl false (by decide) rfl) rfl ?_
    refine sk_guard (guard_off 8 true 21 rfl rfl false (by decide) rfl) rfl ?_
    refine sk_guard (guard_off 8 true 21 rfl rfl false (by decide) rfl) rfl ?_
    refine sk_guard (guard_off 8 true 21 rfl rfl false (by decide) rfl) rfl ?_
    simp only [ls0, ls1]
    refine sk_guard (guard_off 8 true 21 rfl rfl false (by decide) rfl) rfl ?_
    refine sk_guard (guard_off 8 true 21 rfl rfl false (by decide) rfl) rfl ?_
    refine sk_guard (guard_off 8 true 21 rfl rfl false (by decide) rfl) rfl ?_
    refine sk_guard (guard_off 8 true 21 rfl rfl false (by decide) rfl) rfl ?_
    simp only [ls0, ls1]
    refine sk_guard (guard_off 8 true 21 rfl rfl false (by decide) rfl) rfl ?_
    refine st (.bool false) rfl rfl (xr_pick false _ rfl rfl rfl) ?_
    refine wl_end ?_
    (try simp only [ls0, ls1])
    exact jmp (fun g_ => hj369 _ _ _ (false) g_ HS342 (by omega) HJ335 HJ336 H) rfl
   rw [if_neg c350] at H
   (try rw [(decide_eq_false c350)])
   refine wp_cond_false rfl ?_
   refine wp_exit ?_
   (try simp only [ls0, ls1])
   refine hK207 _ _ ?_
   (try clear hK207 K207)
   refine wp_seq_k fun K408 hK408 => ?_
   refine wl_region ?_
   refine mv_ rfl ?_
   refine as_ rfl ?_
   refine wl_end ?_
   (try simp only [ls0, ls1])
   refine hK408 _ _ ?_
   (try clear hK408 K408)
   refine wp_ret ?_
   (try simp only [Exit.inBlock, Exit.then, Exit.noGoto])
   (try simp only [ls0, ls1])
   obtain rfl := Option.some.inj H
   refine bodyPost_ret (results_tmp rfl _ _ _) rfl ?_
   exact ⟨_, rfl, HS342⟩

/-! ### blazonref25_Least: function 20 -/
mutual
def blazonref25_Least.j0 : Nat → Int → Int → Int → (List (S35)) → Int → Int → Int → Int → Bool → Option (Int)
  | 0, _, _, _, _, _, _, _, _, _ => none
  | k + 1, a0, a2, a3, l1, t1606, x868, x1385, x1386, x1620 => if x1620 = true then (blazonref25_Least.l1 k a0 a2 a3 l1 x868 t1606 (wrap64 (x1386 + 1))) else (blazonref25_Least.l1 k a0 a2 a3 l1 x868 x1385 (wrap64 (x1386 + 1)))
def blazonref25_Least.j1 : Nat → Int → Int → Int → (List (S35)) → Int → Int → Int → (List Bool) → Bool → Option (Int)
  | 0, _, _, _, _, _, _, _, _, _ => none
  | k + 1, a0, a2, a3, l1, x868, x1385, x1386, x1521, x1600 => if x1600 = true then (blazonref25_Least.l1 k a0 a2 a3 l1 x868 x1385 (wrap64 (x1386 + 1))) else ((blazonref25_Cut.f k l1 x1521).bind fun t1606 => (if t1606 ≥ 0 then (if x1385 < 0 then (blazonref25_Least.j0 k a0 a2 a3 l1 t1606 x868 x1385 x1386 true) else (blazonref25_Least.j0 k a0 a2 a3 l1 t1606 x868 x1385 x1386 (decide (t1606 < x1385)))) else (blazonref25_Least.j0 k a0 a2 a3 l1 t1606 x868 x1385 x1386 false)))
def blazonref25_Least.l0 : Nat → Int → Int → Int → (List (S35)) → Int → Int → Int → (List Bool) → Int → Int → Option (Int)
  | 0, _, _, _, _, _, _, _, _, _, _ => none
  | k + 1, a0, a2, a3, l1, x868, x1385, x1386, x1521, x1527, x1528 => if x1528 < a0 then (if x1521.length < 140737488355328 then ((some (x1521 ++ [decide ((Int.tmod x1527 2) = 1)] : List Bool)).bind fun y1544 => (blazonref25_Least.l0 k a0 a2 a3 l1 x868 x1385 x1386 y1544 (wrap64 (Int.tdiv x1527 2)) (wrap64 (x1528 + 1)))) else (none)) else (if 0 ≤ a2 then (if a2 < (x1521.length : Int) then (if rdOf false x1521 a2 = true then (if 0 ≤ a3 then (if a3 < (x1521.length : Int) then (blazonref25_Least.j1 k a0 a2 a3 l1 x868 x1385 x1386 x1521 (rdOf false x1521 a3)) else (none)) else (none)) else (blazonref25_Least.j1 k a0 a2 a3 l1 x868 x1385 x1386 x1521 true)) else (none)) else (none))
def blazonref25_Least.l1 : Nat → Int → Int → Int → (List (S35)) → Int → Int → Int → Option (Int)
  | 0, _, _, _, _, _, _, _ => none
  | k + 1, a0, a2, a3, l1, x868, x1385, x1386 => if x1386 < x868 then (blazonref25_Least.l0 k a0 a2 a3 l1 x868 x1385 x1386 ([] : List Bool) x1386 0) else (some x1385)
def blazonref25_Least.l2 : Nat → Int → Int → Int → (List (S35)) → Int → Int → Option (Int)
  | 0, _, _, _, _, _, _ => none
  | k + 1, a0, a2, a3, l1, x868, x869 => if x869 < a0 then (blazonref25_Least.l2 k a0 a2 a3 l1 (wrap64 (2 * x868)) (wrap64 (x869 + 1))) else (blazonref25_Least.l1 k a0 a2 a3 l1 x868 (-1) 0)
end
def blazonref25_Least.f (k : Nat) (a0 : Int) (l1 : List (S35)) (a2 : Int) (a3 : Int) : Option (Int) := blazonref25_Least.l2 k a0 a2 a3 l1 1 0

set_option maxHeartbeats 8000000 in
set_option maxRecDepth 100000 in
theorem blazonref25_Least.calls (k : Nat) (a0 : Int) (A1 : Option Addr) (c1 : Nat) (l1 : List (S35)) (a2 : Int) (a3 : Int) (r : Int) (c : Nat → Nat) (w : World) (hc : ∀ k, c k < 10) (HP1 : Ft c [0] w (fun w_ => k35.C w_ A1 l1.length l1)) (HCP1 : l1.length ≤ c1) (H : blazonref25_Least.f k a0 l1 a2 a3 = some r) :
    Calls Try.prog 20 #[.int .i64 a0, .slice A1 l1.length c1, .int .i64 a2, .int .i64 a3] w fun e w' => ∃ (c' : Nat → Nat) , e = .returned (.int .i64 r) ∧ Step c w c' w' [] := by
 unfold blazonref25_Least.f at H
 have HS := Step.refl c w []
 go_enter Try.func20, Try.ntmps20
 refine wp_seq_k fun K819 hK819 => ?_
 refine wl_region ?_
 refine st (.int .i64 0) rfl rfl (xr_assign _ rfl rfl) ?_
 refine wl_end ?_
 (try simp only [ls0, ls1])
 refine hK819 _ _ ?_
 (try clear hK819 K819)
 refine wp_seq_k fun K820 hK820 => ?_
 refine wl_region ?_
 refine st (.int .i64 (-1)) rfl rfl (xr_assign _ rfl rfl) ?_
 refine wl_end ?_
 (try simp only [ls0, ls1])
 refine hK820 _ _ ?_
 (try clear hK820 K820)
 refine wp_seq_k fun K821 hK821 => ?_
 refine wl_region ?_
 refine st (.int .i64 1) rfl rfl (xr_assign _ rfl rfl) ?_
 refine wl_end ?_
 (try simp only [ls0, ls1])
 refine hK821 _ _ ?_
 (try clear hK821 K821)
 refine wp_seq_k fun K822 hK822 => ?_
 refine wp_seq_k fun K853 hK853 => ?_
 refine wl_region ?_
 refine st (.int .i64 0) rfl rfl (xr_assign _ rfl rfl) ?_
 refine wl_end ?_
 (try simp only [ls0, ls1])
 refine hK853 _ _ ?_
 (try clear hK853 K853)
 refine wp_block ?_
 (try simp only [ls0, ls1])
 refine wp_looped (looped_fin (fun kq872 a_ w871 => ∃ (C870 : Nat → Nat) (x868 : Int) (x869 : Int) (g_ : Nat → Value), a_ = ⟨#[.int .i64 a0, .slice A1 l1.length c1, .int .i64 a2, .int .i64 a3, (g_ 4), (g_ 5), (g_ 6), (g_ 7), (g_ 8), .int .i64 (-1), .int .i64 x868, .int .i64 x869, (g_ 12), (g_ 13), (g_ 14), (g_ 15), (g_ 16), (g_ 17), (g_ 18), (g_ 19), (g_ 20), (g_ 21), (g_ 22), (g_ 23), (g_ 24), (g_ 25), (g_ 26), (g_ 27), (g_ 28), (g_ 29), (g_ 30), (g_ 31), (g_ 32), (g_ 33), (g_ 34), (g_ 35), (g_ 36), (g_ 37), (g_ 38), (g_ 39), (g_ 40), (g_ 41), (g_ 42), (g_ 43), (g_ 44), (g_ 45), (g_ 46), (g_ 47), (g_ 48), (g_ 49), (g_ 50), (g_ 51), (g_ 52), (g_ 53), (g_ 54), (g_ 55), (g_ 56), (g_ 57), (g_ 58), (g_ 59), (g_ 60), (g_ 61), (g_ 62), (g_ 63), (g_ 64), (g_ 65), (g_ 66), (g_ 67), (g_ 68), (g_ 69)], []⟩ ∧ Step c w C870 w871 [] ∧ kq872 ≤ k ∧ (Ft C870 [0] w871 (fun w_ => k35.C w_ A1 l1.length l1)) ∧ blazonref25_Least.l2 kq872 a0 a2 a3 l1 x868 x869 = some r) ?step fun hL_ => ?init)
 case init =>
  exact jmpL (fun a_ h_ => hL_ k a_ _ h_) (fun g_ => ⟨_, 1, 0, g_, rfl, HS, Nat.le_refl _, HP1, H⟩) rfl
 case step =>
  intro kq872 ih875 a876 w871 hr877
  obtain ⟨C870, x868, x869, g_, rfl, HS873, hk874, HJ867, H⟩ := hr877
  refine looped_round ?_
  cases kq872 with
  | zero => exact absurd H (by simp [blazonref25_Least.l2])
  | succ k878 =>
   simp only [blazonref25_Least.l2] at H
   refine wp_seq_k fun K879 hK879 => ?_
   refine wp_seq_k fun K880 hK880 => ?_
   refine wl_region ?_
   refine mv_ rfl ?_
   refine mv_ rfl ?_
   refine st (.bool (decide (x869 < a0))) rfl rfl (xr_bin _ _ _ rfl rfl rfl (B.lss_i64 _ _)) ?_
   refine wl_end ?_
   (try simp only [ls0, ls1])
   refine hK880 _ _ ?_
   (try clear hK880 K880)
   by_cases c881 : x869 < a0
   ·rw [if_pos c881] at H
    (try rw [(decide_eq_true c881)])
    refine wp_cond_true rfl ?_
    refine wp_skip ?_
    (try simp only [ls0, ls1])
    refine hK879 _ _ ?_
    (try clear hK879 K879)
    refine wp_seq_k fun K882 hK882 => ?_
    refine wp_block ?_
    refine wl_region ?_
    refine mv_ rfl ?_
    refine st (.int .i64 (wrap64 (2 * x868))) rfl rfl (xr_bin _ _ _ rfl rfl rfl (B.mul_i64 _ _)) ?_
    refine as_ rfl ?_
    refine wl_end ?_
    (try simp only [ls0, ls1])
    refine hK882 _ _ ?_
    (try clear hK882 K882)
    refine wl_region ?_
    refine mv_ rfl ?_
    refine st (.int .i64 (wrap64 (x869 + 1))) rfl rfl (xr_bin _ _ _ rfl rfl rfl (B.add_i64 _ _)) ?_
    refine as_ rfl ?_
    refine wl_end ?_
    (try simp only [ls0, ls1])
    exact jmpL (fun a_ h_ => ih875 k878 (by omega) a_ _ h_) (fun g_ => ⟨_, wrap64 (2 * x868), wrap64 (x869 + 1), g_, rfl, HS873, (by omega), HJ867, H⟩) rfl
   rw [if_neg c881] at H
   (try rw [(decide_eq_false c881)])
   refine wp_cond_false rfl ?_
   refine wp_exit ?_
   (try simp only [ls0, ls1])
   refine hK822 _ _ ?_
   (try clear hK822 K822)
   refine wp_seq_k fun K883 hK883 => ?_
   refine wp_seq_k fun K884 hK884 => ?_
   refine wl_region ?_
   refine st (.int .i64 0) rfl rfl (xr_assign _ rfl rfl) ?_
   refine wl_end ?_
   (try simp only [ls0, ls1])
   refine hK884 _ _ ?_
   (try clear hK884 K884)
   refine wp_block ?_
   (try simp only [ls0, ls1])
   refine wp_looped (looped_fin (fun kq1389 a_ w1388 => ∃ (C1387 : Nat → Nat) (x1385 : Int) (x1386 : Int) (g_ : Nat → Value), a_ = ⟨#[.int .i64 a0, .slice A1 l1.length c1, .int .i64 a2, .int .i64 a3, (g_ 4), (g_ 5), (g_ 6), (g_ 7), (g_ 8), .int .i64 x1385, .int .i64 x868, (g_ 11), .int .i64 x1386, (g_ 13), (g_ 14), (g_ 15), (g_ 16), (g_ 17), (g_ 18), (g_ 19), (g_ 20), (g_ 21), (g_ 22), (g_ 23), (g_ 24), (g_ 25), (g_ 26), (g_ 27), (g_ 28), (g_ 29), (g_ 30), (g_ 31), (g_ 32), (g_ 33), (g_ 34), (g_ 35), (g_ 36), (g_ 37), (g_ 38), (g_ 39), (g_ 40), (g_ 41), (g_ 42), (g_ 43), (g_ 44), (g_ 45), (g_ 46), (g_ 47), (g_ 48), (g_ 49), (g_ 50), (g_ 51), (g_ 52), (g_ 53), (g_ 54), (g_ 55), (g_ 56), (g_ 57), (g_ 58), (g_ 59), (g_ 60), (g_ 61), (g_ 62), (g_ 63), (g_ 64), (g_ 65), (g_ 66), (g_ 67), (g_ 68), (g_ 69)], []⟩ ∧ Step c w C1387 w1388 [] ∧ kq1389 ≤ k878 ∧ (Ft C1387 [0] w1388 (fun w_ => k35.C w_ A1 l1.length l1)) ∧ blazonref25_Least.l1 kq1389 a0 a2 a3 l1 x868 x1385 x1386 = some r) ?step fun hL_ => ?init)
   case init =>
    exact jmpL (fun a_ h_ => hL_ k878 a_ _ h_) (fun g_ => ⟨_, (-1), 0, g_, rfl, HS873, Nat.le_refl _, HJ867, H⟩) rfl
   case step =>
    intro kq1389 ih1392 a1393 w1388 hr1394
    obtain ⟨C1387, x1385, x1386, g_, rfl, HS1390, hk1391, HJ1384, H⟩ := hr1394
    refine looped_round ?_
    cases kq1389 with
    | zero => exact absurd H (by simp [blazonref25_Least.l1])
    | succ k1395 =>
     simp only [blazonref25_Least.l1] at H
     refine wp_seq_k fun K1396 hK1396 => ?_
     refine wp_seq_k fun K1397 hK1397 => ?_
     refine wl_region ?_
     refine mv_ rfl ?_
     refine mv_ rfl ?_
     refine st (.bool (decide (x1386 < x868))) rfl rfl (xr_bin _ _ _ rfl rfl rfl (B.lss_i64 _ _)) ?_
     refine wl_end ?_
     (try simp only [ls0, ls1])
     refine hK1397 _ _ ?_
     (try clear hK1397 K1397)
     by_cases c1398 : x1386 < x868
     ·rw [if_pos c1398] at H
      (try rw [(decide_eq_true c1398)])
      refine wp_cond_true rfl ?_
      refine wp_skip ?_
      (try simp only [ls0, ls1])
      refine hK1396 _ _ ?_
      (try clear hK1396 K1396)
      refine wp_seq_k fun K1399 hK1399 => ?_
      refine wp_block ?_
      refine wp_seq_k fun K1400 hK1400 => ?_
      refine wl_region ?_
      refine st (.slice none 0 0) rfl rfl (xr_assign _ rfl rfl) ?_
      refine wl_end ?_
      (try simp only [ls0, ls1])
      refine hK1400 _ _ ?_
      (try clear hK1400 K1400)
      refine wp_seq_k fun K1401 hK1401 => ?_
      refine wl_region ?_
      refine mv_ rfl ?_
      refine as_ rfl ?_
      refine wl_end ?_
      (try simp only [ls0, ls1])
      refine hK1401 _ _ ?_
      (try clear hK1401 K1401)
      refine wp_seq_k fun K1402 hK1402 => ?_
      refine wp_seq_k fun K1478 hK1478 => ?_
      refine wl_region ?_
      refine st (.int .i64 0) rfl rfl (xr_assign _ rfl rfl) ?_
      refine wl_end ?_
      (try simp only [ls0, ls1])
      refine hK1478 _ _ ?_
      (try clear hK1478 K1478)
      refine wp_block ?_
      (try simp only [ls0, ls1])
      refine wp_looped (looped_fin (fun kq1531 a_ w1530 => ∃ (C1529 : Nat → Nat) (x1527 : Int) (x1528 : Int) (A1522 : Option Addr) (n1523 cp1524 : Nat) (x1521 : List Bool) (g_ : Nat → Value), a_ = ⟨#[.int .i64 a0, .slice A1 l1.length c1, .int .i64 a2, .int .i64 a3, (g_ 4), (g_ 5), (g_ 6), (g_ 7), (g_ 8), .int .i64 x1385, .int .i64 x868, (g_ 11), .int .i64 x1386, .slice A1522 n1523 cp1524, .int .i64 x1527, .int .i64 x1528, (g_ 16), (g_ 17), (g_ 18), (g_ 19), (g_ 20), (g_ 21), (g_ 22), (g_ 23), (g_ 24), (g_ 25), (g_ 26), (g_ 27), (g_ 28), (g_ 29), (g_ 30), (g_ 31), (g_ 32), (g_ 33), (g_ 34), (g_ 35), (g_ 36), (g_ 37), (g_ 38), (g_ 39), (g_ 40), (g_ 41), (g_ 42), (g_ 43), (g_ 44), (g_ 45), (g_ 46), (g_ 47), (g_ 48), (g_ 49), (g_ 50), (g_ 51), (g_ 52), (g_ 53), (g_ 54), (g_ 55), (g_ 56), (g_ 57), (g_ 58), (g_ 59), (g_ 60), (g_ 61), (g_ 62), (g_ 63), (g_ 64), (g_ 65), (g_ 66), (g_ 67), (g_ 68), (g_ 69)], []⟩ ∧ Step c w C1529 w1530 [] ∧ kq1531 ≤ k1395 ∧ (Ft C1529 [0] w1530 (fun w_ => k35.C w_ A1 l1.length l1)) ∧ (Own C1529 11 w1530 Kd.bool 4 (.slice A1522 n1523 cp1524) x1521) ∧ (n1523 ≤ cp1524) ∧ blazonref25_Least.l0 kq1531 a0 a2 a3 l1 x868 x1385 x1386 x1521 x1527 x1528 = some r) ?step fun hL_ => ?init)
      case init =>
       exact jmpL (fun a_ h_ => hL_ k1395 a_ _ h_) (fun g_ => ⟨_, x1386, 0, none, 0, 0, ([] : List Bool), g_, rfl, HS1390, Nat.le_refl _, HJ1384, (Own.nil _ _ _ _ _), (Nat.le_refl 0), H⟩) rfl
      case step =>
       intro kq1531 ih1534 a1535 w1530 hr1536
       obtain ⟨C1529, x1527, x1528, A1522, n1523, cp1524, x1521, g_, rfl, HS1532, hk1533, HJ1520, HJ1526, HC1525, H⟩ := hr1536
       refine looped_round ?_
       obtain rfl : n1523 = x1521.length := HJ1526.at_.1
       cases kq1531 with
       | zero => exact absurd H (by simp [blazonref25_Least.l0])
       | succ k1537 =>
        simp only [blazonref25_Least.l0] at H
        refine wp_seq_k fun K1538 hK1538 => ?_
        refine wp_seq_k fun K1539 hK1539 => ?_
        refine wl_region ?_
        refine mv_ rfl ?_
        refine mv_ rfl ?_
        refine st (.bool (decide (x1528 < a0))) rfl rfl (xr_bin _ _ _ rfl rfl rfl (B.lss_i64 _ _)) ?_
        refine wl_end ?_
        (try simp only [ls0, ls1])
        refine hK1539 _ _ ?_
        (try clear hK1539 K1539)
        by_cases c1540 : x1528 < a0
        ·rw [if_pos c1540] at H
         (try rw [(decide_eq_true c1540)])
         refine wp_cond_true rfl ?_
         refine wp_skip ?_
         (try simp only [ls0, ls1])
         refine hK1538 _ _ ?_
         (try clear hK1538 K1538)
         refine wp_seq_k fun K1541 hK1541 => ?_
         refine wp_block ?_
         refine wp_seq_k fun K1542 hK1542 => ?_
         refine wl_region ?_
         refine mv_ rfl ?_
         refine mv_ rfl ?_
         refine st (.int .i64 (Int.tmod x1527 2)) rfl rfl (xr_bin _ _ _ rfl rfl rfl (B.rem_i64 _ _ (by decide))) ?_
         refine st (.bool (decide ((Int.tmod x1527 2) = 1))) rfl rfl (xr_bin _ _ _ rfl rfl rfl (B.eql_i64 _ _)) ?_
         simp only [ls0, ls1]
         refine ev_run (w1 := w1530.alloc (.cells #[.bool (decide ((Int.tmod x1527 2) = 1))] 4)) (.slice (some ⟨w1530.heap.size, 0, none⟩) 1 1) rfl rfl (by first | (go_simp; done) | (go_simp; rfl)) ?_
         (try simp only [Act.put, List.setIfInBounds_toArray, ls0, ls1])
         obtain ⟨c1543, H⟩ := if_some H
         obtain ⟨y1544, A1545, H⟩ := bnd H
         refine Own.append Kd.bool (C := C1529) (i := 11) rfl (.tmp 35) (.tmp 39) 43 4 (.bool false) 1 rfl Try.underlying43 info4 rfl (by decide) (by decide) (.slice A1522 x1521.length cp1524) x1521 (decide ((Int.tmod x1527 2) = 1)) [.bool (decide ((Int.tmod x1527 2) = 1))] rfl rfl (fk_bool _ _ (decide ((Int.tmod x1527 2) = 1))) HJ1526 (by decide) (by omega) (Option.some.inj A1545) ?_
         intro A1546 cp1547 w1548 C1549 HO1550 HC1551 hs1552
         replace HJ1520 := HJ1520.thru hs1552 rfl
         replace HS1532 := HS1532.trans hs1552 hc rfl
         (try simp only [Act.put, List.setIfInBounds_toArray, ls0, ls1])
         refine as_ rfl ?_
         refine wl_end ?_
         (try simp only [ls0, ls1])
         refine hK1542 _ _ ?_
         (try clear hK1542 K1542)
         refine wl_region ?_
         refine mv_ rfl ?_
         refine st (.int .i64 (wrap64 (Int.tdiv x1527 2))) rfl rfl (xr_bin _ _ _ rfl rfl rfl (B.quo_i64 _ _ (by decide))) ?_
         refine as_ rfl ?_
         refine wl_end ?_
         (try simp only [ls0, ls1])
         refine hK1541 _ _ ?_
         (try clear hK1541 K1541)
         refine wl_region ?_
         refine mv_ rfl ?_
         refine st (.int .i64 (wrap64 (x1528 + 1))) rfl rfl (xr_bin _ _ _ rfl rfl rfl (B.add_i64 _ _)) ?_
         refine as_ rfl ?_
         refine wl_end ?_
         (try simp only [ls0, ls1])
         exact jmpL (fun a_ h_ => ih1534 k1537 (by omega) a_ _ h_) (fun g_ => ⟨_, wrap64 (Int.tdiv x1527 2), wrap64 (x1528 + 1), A1546, y1544.length, cp1547, y1544, g_, rfl, HS1532, (by omega), HJ1520, HO1550, HC1551, H⟩) rfl
        rw [if_neg c1540] at H
        (try rw [(decide_eq_false c1540)])
        refine wp_cond_false rfl ?_
        refine wp_exit ?_
        (try simp only [ls0, ls1])
        refine hK1402 _ _ ?_
        (try clear hK1402 K1402)
        refine wp_seq_k fun K1553 hK1553 => ?_
        refine wp_seq_k fun K1584 hK1584 => ?_
        have hj1594 : ∀ (kq1601 : Nat) (C1595 : Nat → Nat) (w1596 : World) (x1600 : Bool) (g_ : Nat → Value), Step c w C1595 w1596 [] → kq1601 ≤ k1537 → (Ft C1595 [0] w1596 (fun w_ => k35.C w_ A1 l1.length l1)) → (Own C1595 11 w1596 Kd.bool 4 (.slice A1522 x1521.length cp1524) x1521) → blazonref25_Least.j1 kq1601 a0 a2 a3 l1 x868 x1385 x1386 x1521 x1600 = some r → K1584 ⟨#[.int .i64 a0, .slice A1 l1.length c1, .int .i64 a2, .int .i64 a3, (g_ 4), (g_ 5), (g_ 6), (g_ 7), (g_ 8), .int .i64 x1385, .int .i64 x868, (g_ 11), .int .i64 x1386, .slice A1522 x1521.length cp1524, (g_ 14), (g_ 15), (g_ 16), (g_ 17), (g_ 18), (g_ 19), (g_ 20), (g_ 21), (g_ 22), (g_ 23), (g_ 24), (g_ 25), (g_ 26), (g_ 27), (g_ 28), (g_ 29), (g_ 30), (g_ 31), (g_ 32), (g_ 33), (g_ 34), (g_ 35), (g_ 36), (g_ 37), (g_ 38), (g_ 39), (g_ 40), (g_ 41), (g_ 42), (g_ 43), (g_ 44), (g_ 45), (g_ 46), (g_ 47), (g_ 48), (g_ 49), (g_ 50), (g_ 51), (g_ 52), .bool x1600, (g_ 54), (g_ 55), (g_ 56), (g_ 57), (g_ 58), (g_ 59), (g_ 60), (g_ 61), (g_ 62), (g_ 63), (g_ 64), (g_ 65), (g_ 66), (g_ 67), (g_ 68), (g_ 69)], []⟩ w1596 := by
         intro kq1601 C1595 w1596 x1600 g_ HS1597 hk1602 HJ1598 HJ1599 H
         cases kq1601 with
         | zero => exact absurd H (by simp [blazonref25_Least.j1])
         | succ k1603 =>
          simp only [blazonref25_Least.j1] at H
          refine hK1584 _ _ ?_
          (try clear hK1584)
          by_cases c1604 : x1600 = true
          ·rw [if_pos c1604] at H
           (try rw [c1604])
           refine wp_cond_true rfl ?_
           refine wp_exit ?_
           (try simp only [ls0, ls1])
           refine hK1399 _ _ ?_
           (try clear hK1399 K1399)
           refine wl_region ?_
           refine mv_ rfl ?_
           refine st (.int .i64 (wrap64 (x1386 + 1))) rfl rfl (xr_bin _ _ _ rfl rfl rfl (B.add_i64 _ _)) ?_
           refine as_ rfl ?_
           refine wl_end ?_
           (try simp only [ls0, ls1])
           exact jmpL (fun a_ h_ => ih1392 k1603 (by omega) a_ _ h_) (fun g_ => ⟨_, x1385, wrap64 (x1386 + 1), g_, rfl, HS1597, (by omega), HJ1598, H⟩) rfl
          rw [if_neg c1604] at H
          (try rw [(Bool.eq_false_iff.mpr c1604)])
          refine wp_cond_false rfl ?_
          refine wp_skip ?_
          (try simp only [ls0, ls1])
          refine hK1553 _ _ ?_
          (try clear hK1553 K1553)
          refine wp_seq_k fun K1605 hK1605 => ?_
          refine wl_region ?_
          refine mv_ rfl ?_
          refine mv_ rfl ?_
          obtain ⟨t1606, A1607, H⟩ := bnd H
          refine st_call #[.slice A1 l1.length c1, .slice A1522 x1521.length cp1524] rfl rfl Try.func26 (by kernel_rfl) rfl rfl (mp_ rfl) ?_
          refine (blazonref25_Cut.calls k1603 A1 c1 l1 A1522 cp1524 x1521 t1606  (fun z_ => pal [(0, 0), (11, 0)] (C1595 z_)) w1596 (fun _ => pal_lt rfl _) (Ft.arg HJ1598 rfl) HCP1 (Ft.arg (HJ1599.ft) rfl) HC1525 A1607).mono ?_
          rintro _ w1609 ⟨C1610, rfl, hs1611⟩
          refine ⟨_, rfl, ?_⟩
          replace hs1611 := Step.lift (U := [(0, 0)]) hs1611 [] rfl rfl
          generalize up C1595 C1610 w1596.heap.size [(0, 0)] = C1610_ at hs1611
          replace HJ1598 := HJ1598.thru hs1611 rfl
          replace HS1597 := HS1597.trans hs1611 hc rfl
          (try simp only [Act.put, List.setIfInBounds_toArray, ls0, ls1])
          refine as_ rfl ?_
          refine wl_end ?_
          (try simp only [ls0, ls1])
          refine hK1605 _ _ ?_
          (try clear hK1605 K1605)
          refine wp_seq_k fun K1612 hK1612 => ?_
          have hj1615 : ∀ (kq1621 : Nat) (C1616 : Nat → Nat) (w1617 : World) (x1620 : Bool) (g_ : Nat → Value), Step c w C1616 w1617 [] → kq1621 ≤ k1603 → (Ft C1616 [0] w1617 (fun w_ => k35.C w_ A1 l1.length l1)) → blazonref25_Least.j0 kq1621 a0 a2 a3 l1 t1606 x868 x1385 x1386 x1620 = some r → K1612 ⟨#[.int .i64 a0, .slice A1 l1.length c1, .int .i64 a2, .int .i64 a3, (g_ 4), (g_ 5), (g_ 6), (g_ 7), (g_ 8), .int .i64 x1385, .int .i64 x868, (g_ 11), .int .i64 x1386, (g_ 13), (g_ 14), (g_ 15), .int .i64 t1606, (g_ 17), (g_ 18), (g_ 19), (g_ 20), (g_ 21), (g_ 22), (g_ 23), (g_ 24), (g_ 25), (g_ 26), (g_ 27), (g_ 28), (g_ 29), (g_ 30), (g_ 31), (g_ 32), (g_ 33), (g_ 34), (g_ 35), (g_ 36), (g_ 37), (g_ 38), (g_ 39), (g_ 40), (g_ 41), (g_ 42), (g_ 43), (g_ 44), (g_ 45), (g_ 46), (g_ 47), (g_ 48), (g_ 49), (g_ 50), (g_ 51), (g_ 52), (g_ 53), (g_ 54), (g_ 55), (g_ 56), (g_ 57), (g_ 58), (g_ 59), (g_ 60), (g_ 61), (g_ 62), (g_ 63), (g_ 64), (g_ 65), (g_ 66), .bool x1620, (g_ 68), (g_ 69)], []⟩ w1617 := by
           intro kq1621 C1616 w1617 x1620 g_ HS1618 hk1622 HJ1619 H
           cases kq1621 with
           | zero => exact absurd H (by simp [blazonref25_Least.j0])
           | succ k1623 =>
            simp only [blazonref25_Least.j0] at H
            refine hK1612 _ _ ?_
            (try clear hK1612)
            by_cases c1624 : x1620 = true
            ·rw [if_pos c1624] at H
             (try rw [c1624])
             refine wp_cond_true rfl ?_
             refine wl_region ?_
             refine mv_ rfl ?_
             refine as_ rfl ?_
             refine wl_end ?_
             (try simp only [ls0, ls1])
             refine hK1399 _ _ ?_
             (try clear hK1399 K1399)
             refine wl_region ?_
             refine mv_ rfl ?_
             refine st (.int .i64 (wrap64 (x1386 + 1))) rfl rfl (xr_bin _ _ _ rfl rfl rfl (B.add_i64 _ _)) ?_
             refine as_ rfl ?_
             refine wl_end ?_
             (try simp only [ls0, ls1])
             exact jmpL (fun a_ h_ => ih1392 k1623 (by omega) a_ _ h_) (fun g_ => ⟨_, t1606, wrap64 (x1386 + 1), g_, rfl, HS1618, (by omega), HJ1619, H⟩) rfl
            rw [if_neg c1624] at H
            (try rw [(Bool.eq_false_iff.mpr c1624)])
            refine wp_cond_false rfl ?_
            refine wp_skip ?_
            (try simp only [ls0, ls1])
            refine hK1399 _ _ ?_
            (try clear hK1399 K1399)
            refine wl_region ?_
            refine mv_ rfl ?_
            refine st (.int .i64 (wrap64 (x1386 + 1))) rfl rfl (xr_bin _ _ _ rfl rfl rfl (B.add_i64 _ _)) ?_
            refine as_ rfl ?_
            refine wl_end ?_
            (try simp only [ls0, ls1])
            exact jmpL (fun a_ h_ => ih1392 k1623 (by omega) a_ _ h_) (fun g_ => ⟨_, x1385, wrap64 (x1386 + 1), g_, rfl, HS1618, (by omega), HJ1619, H⟩) rfl
          refine wl_region ?_
          refine mv_ rfl ?_
          refine st (.bool (decide (t1606 ≥ 0))) rfl rfl (xr_bin _ _ _ rfl rfl rfl (B.geq_i64 _ _)) ?_
          refine mv_ rfl ?_
          by_cases c1625 : t1606 ≥ 0
          ·rw [if_pos c1625] at H
           (try rw [(decide_eq_true c1625)])
           refine on_guard (guard_on 2 true 59 rfl rfl rfl) ?_
           refine mv_ rfl ?_
           simp only [ls0, ls1]
           refine on_guard (guard_on 2 true 59 rfl rfl rfl) ?_
           refine st (.bool (decide (x1385 < 0))) rfl rfl (xr_bin _ _ _ rfl rfl rfl (B.lss_i64 _ _)) ?_
           refine on_guard (guard_on 2 true 59 rfl rfl rfl) ?_
           refine mv_ rfl ?_
           by_cases c1626 : x1385 < 0
           ·rw [if_pos c1626] at H
            (try rw [(decide_eq_true c1626)])
            refine sk_guard (guard_off 5 false 62 rfl rfl true (by decide) rfl) rfl ?_
            refine sk_guard (guard_off 5 false 62 rfl rfl true (by decide) rfl) rfl ?_
            simp only [ls0, ls1]
            refine sk_guard (guard_off 5 false 62 rfl rfl true (by decide) rfl) rfl ?_
            refine on_guard (guard_on 2 true 59 rfl rfl rfl) ?_
            refine st (.bool true) rfl rfl (xr_pick true _ rfl rfl rfl) ?_
            refine st (.bool true) rfl rfl (xr_pick true _ rfl rfl rfl) ?_
            refine wl_end ?_
            (try simp only [ls0, ls1])
            exact jmp (fun g_ => hj1615 _ _ _ (true) g_ HS1597 (by omega) HJ1598 H) rfl
           rw [if_neg c1626] at H
           (try rw [(decide_eq_false c1626)])
           refine on_guard (guard_on 5 false 62 rfl rfl rfl) ?_
           refine mv_ rfl ?_
           refine on_guard (guard_on 5 false 62 rfl rfl rfl) ?_
           refine mv_ rfl ?_
           refine on_guard (guard_on 5 false 62 rfl rfl rfl) ?_
           refine st (.bool (decide (t1606 < x1385))) rfl rfl (xr_bin _ _ _ rfl rfl rfl (B.lss_i64 _ _)) ?_
           refine on_guard (guard_on 2 true 59 rfl rfl rfl) ?_
           refine st (.bool (decide (t1606 < x1385))) rfl rfl (xr_pick false _ rfl rfl rfl) ?_
           simp only [ls0, ls1]
           refine st (.bool (decide (t1606 < x1385))) rfl rfl (xr_pick true _ rfl rfl rfl) ?_
           refine wl_end ?_
           (try simp only [ls0, ls1])
           exact jmp (fun g_ => hj1615 _ _ _ (decide (t1606 < x1385)) g_ HS1597 (by omega) HJ1598 H) rfl
          rw [if_neg c1625] at H
          (try rw [(decide_eq_false c1625)])
          refine sk_guard (guard_off 2 true 59 rfl rfl false (by decide) rfl) rfl ?_
          refine sk_guard (guard_off 2 true 59 rfl rfl false (by decide) rfl) rfl ?_
          refine sk_guard (guard_off 2 true 59 rfl rfl false (by decide) rfl) rfl ?_
          refine sk_guard (guard_und 5 false 62 rfl rfl rfl) rfl ?_
          simp only [ls0, ls1]
          refine sk_guard (guard_und 5 false 62 rfl rfl rfl) rfl ?_
          refine sk_guard (guard_und 5 false 62 rfl rfl rfl) rfl ?_
          refine sk_guard (guard_off 2 true 59 rfl rfl false (by decide) rfl) rfl ?_
          refine st (.bool false) rfl rfl (xr_pick false _ rfl rfl rfl) ?_
          simp only [ls0, ls1]
          refine wl_end ?_
          (try simp only [ls0, ls1])
          exact jmp (fun g_ => hj1615 _ _ _ (false) g_ HS1597 (by omega) HJ1598 H) rfl
        refine wl_region ?_
        refine mv_ rfl ?_
        refine mv_ rfl ?_
        obtain ⟨c1627, H⟩ := if_some H
        obtain ⟨c1628, H⟩ := if_some H
        obtain ⟨g1629, hA1630⟩ := HJ1526.form (pos_of (j := a2) (by first | assumption | decide) (by first | assumption | omega))
        refine st (.pointer (some ((⟨g1629, 0, none⟩ : Addr).add ((a2 : Int).toNat * 1)))) rfl rfl (xr_indexAddr _ _ _ rfl rfl rfl (index_at Try.underlying43 info4 hA1630 (by first | assumption | decide | omega) (by first | assumption | decide | omega))) ?_
        refine st (.bool (rdOf false x1521 a2)) rfl rfl (xr_load _ _ rfl rfl (load_bool Try.underlying4 rfl hA1630 (Ft.now (HJ1526.ft)) (by first | assumption | decide | omega) (by first | assumption | decide | omega))) ?_
        simp only [ls0, ls1]
        refine st (.bool (!(rdOf false x1521 a2))) rfl rfl (xr_un (.bool (rdOf false x1521 a2)) _ rfl rfl (by first | rfl | (go_simp; done) | (go_simp; rfl) | (go_simp; exact i64_w _) | (go_simp; exact i32_w _))) ?_
        refine mv_ rfl ?_
        by_cases c1631 : rdOf false x1521 a2 = true
        ·rw [if_pos c1631] at H
         (try rw [c1631])
         (try simp only [Bool.not_true, Bool.not_false])
         refine on_guard (guard_on 5 false 48 rfl rfl rfl) ?_
         refine mv_ rfl ?_
         refine on_guard (guard_on 5 false 48 rfl rfl rfl) ?_
         refine mv_ rfl ?_
         simp only [ls0, ls1]
         refine on_guard (guard_on 5 false 48 rfl rfl rfl) ?_
         obtain ⟨c1632, H⟩ := if_some H
         obtain ⟨c1633, H⟩ := if_some H
         obtain ⟨g1634, hA1635⟩ := HJ1526.form (pos_of (j := a3) (by first | assumption | decide) (by first | assumption | omega))
         refine st (.pointer (some ((⟨g1634, 0, none⟩ : Addr).add ((a3 : Int).toNat * 1)))) rfl rfl (xr_indexAddr _ _ _ rfl rfl rfl (index_at Try.underlying43 info4 hA1635 (by first | assumption | decide | omega) (by first | assumption | decide | omega))) ?_
         refine on_guard (guard_on 5 false 48 rfl rfl rfl) ?_
         refine st (.bool (rdOf false x1521 a3)) rfl rfl (xr_load _ _ rfl rfl (load_bool Try.underlying4 rfl hA1635 (Ft.now (HJ1526.ft)) (by first | assumption | decide | omega) (by first | assumption | decide | omega))) ?_
         refine st (.bool (rdOf false x1521 a3)) rfl rfl (xr_pick false _ rfl rfl rfl) ?_
         refine wl_end ?_
         (try simp only [ls0, ls1])
         exact jmp (fun g_ => hj1594 _ _ _ (rdOf false x1521 a3) g_ HS1532 (by omega) HJ1520 HJ1526 H) rfl
        rw [if_neg c1631] at H
        (try rw [(Bool.eq_false_iff.mpr c1631)])
        (try simp only [Bool.not_true, Bool.not_false])
        refine sk_guard (guard_off 5 false 48 rfl rfl true (by decide) rfl) rfl ?_
        refine sk_guard (guard_off 5 false 48 rfl rfl true (by decide) rfl) rfl ?_
        refine sk_guard (guard_off 5 false 48 rfl rfl true (by decide) rfl) rfl ?_
        refine sk_guard (guard_off 5 false 48 rfl rfl true (by decide) rfl) rfl ?_
        simp only [ls0, ls1]
        refine st (.bool true) rfl rfl (xr_pick true _ rfl rfl rfl) ?_
        refine wl_end ?_
        (try simp only [ls0, ls1])
        exact jmp (fun g_ => hj1594 _ _ _ (true) g_ HS1532 (by omega) HJ1520 HJ1526 H) rfl
     rw [if_neg c1398] at H
     (try rw [(decide_eq_false c1398)])
     refine wp_cond_false rfl ?_
     refine wp_exit ?_
     (try simp only [ls0, ls1])
     refine hK883 _ _ ?_
     (try clear hK883 K883)
     refine wp_seq_k fun K1636 hK1636 => ?_
     refine wl_region ?_
     refine mv_ rfl ?_
     refine as_ rfl ?_
     refine wl_end ?_
     (try simp only [ls0, ls1])
     refine hK1636 _ _ ?_
     (try clear hK1636 K1636)
     refine wp_ret ?_
     (try simp only [Exit.inBlock, Exit.then, Exit.noGoto])
     (try simp only [ls0, ls1])
     obtain rfl := Option.some.inj H
     refine bodyPost_ret (results_tmp rfl _ _ _) rfl ?_
     exact ⟨_, rfl, HS1390⟩

end Go.Proofs.Ytdkbmchbkkhpoaa.PMls
