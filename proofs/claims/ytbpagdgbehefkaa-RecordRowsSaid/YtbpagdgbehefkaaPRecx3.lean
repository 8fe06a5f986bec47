-- By cprint.py, a program of this work. Lean checks it.
import Derived.Test.YtbpagdgbehefkaaPRecx0
import Derived.Test.YtbpagdgbehefkaaPRecx1
import Derived.Test.YtbpagdgbehefkaaPRecx2
namespace Go.Proofs.Ytbpagdgbehefkaa.PRec
open Go.RowKit Go.Proofs.YtbpagdgbehefkaaW.PrintWords Go.Proofs.YtbpagdgbehefkaaW.PrintLast Go.Proofs.YtbpagdgbehefkaaW.PrintMore
set_option linter.unusedVariables false
set_option linter.unusedSimpArgs false

/-! ### blazonref02_Of: function 37 -/
def blazonref02_Of.f (k : Nat) (l0 : List Int) : Option (Int) := (blazonref02_More.f k 0 l0).bind fun t1962 => (some t1962)
theorem blazonref02_Of.mono : ∀ a0 k, LeO (blazonref02_Of.f k a0) (blazonref02_Of.f (k + 1) a0) := by
  intro a0 k
  unfold blazonref02_Of.f
  repeat' first
      | (with_reducible exact blazonref02_More.mono _ _ _)
      | (with_reducible exact LeO.refl _)
      | (with_reducible exact LeO.none _)
      | (with_reducible refine LeO.ite ?_ ?_)
      | (with_reducible refine LeO.bind ?_ (fun _ => ?_))
      | exact blazonref02_More.mono _ _ _
      | exact LeO.none _
      | refine LeO.ite ?_ ?_
      | refine LeO.bind ?_ (fun _ => ?_)
set_option maxHeartbeats 2000000 in
set_option maxRecDepth 100000 in
theorem blazonref02_Of.calls (k : Nat) (A0 : Option Addr) (c0 : Nat) (l0 : List Int) (r : Int) (c : Nat → Nat) (w : World) (hc : ∀ k, c k < 10) (HP0 : Ft c [0] w (fun w_ => (Kd.int .u8).C w_ A0 l0.length l0)) (HCP0 : l0.length ≤ c0) (H : blazonref02_Of.f k l0 = some r) :
    Calls Try.prog 37 #[.slice A0 l0.length c0] w fun e w' => ∃ (c' : Nat → Nat) , e = .returned (.int .u32 r) ∧ Step c w c' w' [] := by
  unfold blazonref02_Of.f at H
  have HS := Step.refl c w []
  go_enter Try.func37, Try.ntmps37
  refine wp_seq_k fun K1960 hK1960 => ?_
  refine wl_region ?_
  refine st (.int .u32 0) rfl rfl (xr_assign (.int .u32 0) rfl rfl) ?_
  simp only [List.set_cons_zero, List.set_cons_succ]
  refine wl_end ?_
  (try simp only [Act.put, List.setIfInBounds_toArray, List.set_cons_zero, List.set_cons_succ])
  refine hK1960 _ _ ?_
  (try clear hK1960 K1960)
  refine wp_seq_k fun K1961 hK1961 => ?_
  refine wl_region ?_
  refine st (.slice A0 l0.length c0) rfl rfl (xr_move (.slice A0 l0.length c0) rfl rfl) ?_
  simp only [List.set_cons_zero, List.set_cons_succ]
  obtain ⟨t1962, A1963, H⟩ := Option.bind_eq_some_iff.mp H
  (try dsimp only at H)
  refine st_call #[.int .u32 0, .slice A0 l0.length c0] rfl rfl Try.func39 (by kernel_rfl) rfl rfl (by simp only [List.map_toArray, List.map_cons, List.map_nil]; first | done | rfl) ?_
  refine (blazonref02_More.calls k 0 A0 c0 l0 t1962  (fun z_ => pal [(0, 0)] (c z_)) w (fun _ => pal_lt rfl _) (Ft.arg HP0 rfl) HCP0 A1963).mono ?_
  rintro _ w1965 ⟨C1966, rfl, hs1967⟩
  refine ⟨_, rfl, ?_⟩
  replace hs1967 := Step.lift (U := [(0, 0)]) hs1967 [] rfl rfl
  generalize up c C1966 w.heap.size [(0, 0)] = C1966_ at hs1967
  replace HS := HS.trans hs1967 hc rfl
  (try simp only [Act.put, List.setIfInBounds_toArray, List.set_cons_zero, List.set_cons_succ])
  refine st (.int .u32 t1962) rfl rfl (xr_assign (.int .u32 t1962) rfl rfl) ?_
  simp only [List.set_cons_zero, List.set_cons_succ]
  refine wl_end ?_
  (try simp only [Act.put, List.setIfInBounds_toArray, List.set_cons_zero, List.set_cons_succ])
  refine hK1961 _ _ ?_
  (try clear hK1961 K1961)
  refine wp_ret ?_
  (try simp only [Exit.inBlock, Exit.then, Exit.noGoto])
  (try simp only [Act.put, List.setIfInBounds_toArray, List.set_cons_zero, List.set_cons_succ])
  obtain rfl := Option.some.inj H
  refine bodyPost_ret (results_tmp rfl _ _ _) rfl ?_
  exact ⟨_, rfl, HS⟩

/-! ### blazonref04_Form: function 43 -/
def blazonref04_Form.f (k : Nat) (a0 : Int) (l1 : List Int) : Option (List Int) := (some ([(a0) % 256] : List Int)).bind fun y2042 => (if y2042.length + l1.length < 140737488355328 then ((some (y2042 ++ l1 : List Int)).bind fun y2052 => ((blazonref01_Four.f k (((l1.length : Int)) % 4294967296)).bind fun t2062 => ((blazonref02_Of.f k y2052).bind fun t2073 => ((blazonref01_Four.f k t2073).bind fun t2079 => (if t2062.length + t2079.length < 140737488355328 then ((some (t2062 ++ t2079 : List Int)).bind fun y2091 => (if y2091.length + y2052.length < 140737488355328 then ((some (y2091 ++ y2052 : List Int)).bind fun y2103 => (some y2103)) else (none))) else (none)))))) else (none))
theorem blazonref04_Form.mono : ∀ a0 a1 k, LeO (blazonref04_Form.f k a0 a1) (blazonref04_Form.f (k + 1) a0 a1) := by
  intro a0 a1 k
  unfold blazonref04_Form.f
  repeat' first
      | (with_reducible exact blazonref01_Four.mono _ _)
      | (with_reducible exact blazonref02_Of.mono _ _)
      | (with_reducible exact LeO.refl _)
      | (with_reducible exact LeO.none _)
      | (with_reducible refine LeO.ite ?_ ?_)
      | (with_reducible refine LeO.bind ?_ (fun _ => ?_))
      | exact blazonref01_Four.mono _ _
      | exact blazonref02_Of.mono _ _
      | exact LeO.none _
      | refine LeO.ite ?_ ?_
      | refine LeO.bind ?_ (fun _ => ?_)
set_option maxHeartbeats 2000000 in
set_option maxRecDepth 100000 in
theorem blazonref04_Form.calls (k : Nat) (a0 : Int) (A1 : Option Addr) (c1 : Nat) (l1 : List Int) (r : List Int) (c : Nat → Nat) (w : World) (hc : ∀ k, c k < 10) (HP1 : Ft c [0] w (fun w_ => (Kd.int .u8).C w_ A1 l1.length l1)) (HCP1 : l1.length ≤ c1) (H : blazonref04_Form.f k a0 l1 = some r) :
    Calls Try.prog 43 #[.int .i64 a0, .slice A1 l1.length c1] w fun e w' => ∃ (c' : Nat → Nat) (A_r : Option Addr) (c_r : Nat), e = .returned (.slice A_r r.length c_r) ∧ Step c w c' w' [] ∧ Own c' 5 w' (Kd.int .u8) 5 (.slice A_r r.length c_r) r ∧ r.length ≤ c_r := by
  unfold blazonref04_Form.f at H
  have HS := Step.refl c w []
  go_enter Try.func43, Try.ntmps43
  refine wp_seq_k fun K2040 hK2040 => ?_
  refine wl_region ?_
  refine st (.slice none 0 0) rfl rfl (xr_assign (.slice none 0 0) rfl rfl) ?_
  simp only [List.set_cons_zero, List.set_cons_succ]
  refine wl_end ?_
  (try simp only [Act.put, List.setIfInBounds_toArray, List.set_cons_zero, List.set_cons_succ])
  refine hK2040 _ _ ?_
  (try clear hK2040 K2040)
  refine wp_seq_k fun K2041 hK2041 => ?_
  refine wl_region ?_
  refine st (.int .i64 a0) rfl rfl (xr_move (.int .i64 a0) rfl rfl) ?_
  simp only [List.set_cons_zero, List.set_cons_succ]
  refine st (.int .u8 ((a0) % 256)) rfl rfl (xr_conv (.int .i64 a0) (.int .u8 ((a0) % 256)) rfl rfl (by first | rfl | (go_simp; done) | (go_simp; rfl) | (go_simp; exact i64_w _) | (go_simp; exact i32_w _))) ?_
  simp only [List.set_cons_zero, List.set_cons_succ]
  obtain ⟨y2042, A2043, H⟩ := Option.bind_eq_some_iff.mp H
  (try dsimp only at H)
  refine Own.lit (Kd.int .u8) (C := c) (i := 11) rfl 5 rfl (xs := [(a0) % 256]) (inner := [.int .u8 ((a0) % 256)]) (by first | (go_simp; done) | (go_simp; rfl)) (reps_cons (fk_int .u8 _ _ ((a0) % 256)) rfl (Reps.none _ _)) (by simp only [List.length_cons, List.length_nil]; omega) (Option.some.inj A2043) ?_
  intro A2044 cp2045 w2046 C2047 HO2048 HC2049 hs2050
  replace HP1 := HP1.thru hs2050 rfl
  replace HS := HS.trans hs2050 hc rfl
  (try simp only [Act.put, List.setIfInBounds_toArray, List.set_cons_zero, List.set_cons_succ])
  refine st (.slice A1 l1.length c1) rfl rfl (xr_move (.slice A1 l1.length c1) rfl rfl) ?_
  simp only [List.set_cons_zero, List.set_cons_succ]
  by_cases c2051 : y2042.length + l1.length < 140737488355328
  · rw [if_pos c2051] at H
    obtain ⟨y2052, A2053, H⟩ := Option.bind_eq_some_iff.mp H
    (try dsimp only at H)
    refine Own.append_rows (Kd.int .u8) (C := C2047) (i := 11) rfl (.tmp 9) (.tmp 10) 23 5 (.int .u8 0) 1 rfl Try.underlying23 info5 rfl (by decide) (by decide) (.slice A2044 y2042.length cp2045) y2042 l1 A1 l1.length c1 rfl rfl HO2048 HP1 (by decide) (by omega) (Option.some.inj A2053) ?_
    intro A2054 cp2055 w2056 C2057 HO2058 HC2059 hs2060
    replace HP1 := HP1.thru hs2060 rfl
    replace HS := HS.trans hs2060 hc rfl
    (try simp only [Act.put, List.setIfInBounds_toArray, List.set_cons_zero, List.set_cons_succ])
    refine st (.slice A2054 y2052.length cp2055) rfl rfl (xr_assign (.slice A2054 y2052.length cp2055) rfl rfl) ?_
    simp only [List.set_cons_zero, List.set_cons_succ]
    refine wl_end ?_
    (try simp only [Act.put, List.setIfInBounds_toArray, List.set_cons_zero, List.set_cons_succ])
    refine hK2041 _ _ ?_
    (try clear hK2041 K2041)
    refine wp_seq_k fun K2061 hK2061 => ?_
    refine wl_region ?_
    refine st (.slice A1 l1.length c1) rfl rfl (xr_move (.slice A1 l1.length c1) rfl rfl) ?_
    simp only [List.set_cons_zero, List.set_cons_succ]
    refine st (.int .i64 (l1.length : Int)) rfl rfl (xr_builtin #[.slice A1 l1.length c1] (.int .i64 (l1.length : Int)) rfl (by simp only [List.map_toArray, List.map_cons, List.map_nil]; first | done | rfl) (by first | rfl | (go_simp; done) | (go_simp; rfl) | (go_simp; exact i64_w _) | (go_simp; exact i32_w _))) ?_
    simp only [List.set_cons_zero, List.set_cons_succ]
    refine st (.int .u32 (((l1.length : Int)) % 4294967296)) rfl rfl (xr_conv (.int .i64 (l1.length : Int)) (.int .u32 (((l1.length : Int)) % 4294967296)) rfl rfl (by first | rfl | (go_simp; done) | (go_simp; rfl) | (go_simp; exact i64_w _) | (go_simp; exact i32_w _))) ?_
    simp only [List.set_cons_zero, List.set_cons_succ]
    obtain ⟨t2062, A2063, H⟩ := Option.bind_eq_some_iff.mp H
    (try dsimp only at H)
    refine st_call #[.int .u32 (((l1.length : Int)) % 4294967296)] rfl rfl Try.func21 (by kernel_rfl) rfl rfl (by simp only [List.map_toArray, List.map_cons, List.map_nil]; first | done | rfl) ?_
    refine (blazonref01_Four.calls k (((l1.length : Int)) % 4294967296) t2062  (fun z_ => pal [(0, 0)] (C2057 z_)) w2056 (fun _ => pal_lt rfl _) A2063).mono ?_
    rintro _ w2065 ⟨C2066, A2068, cp2069, rfl, hs2067, HO2070, HC2071⟩
    refine ⟨_, rfl, ?_⟩
    replace HO2070 := Own.res (U := [(0, 0), (5, 12)]) (j := 12) HO2070 hs2067 (by rfl) (by decide) rfl rfl
    replace hs2067 := Step.lift (U := [(0, 0), (5, 12)]) hs2067 [] rfl rfl
    generalize up C2057 C2066 w2056.heap.size [(0, 0), (5, 12)] = C2066_ at HO2070 hs2067
    replace HO2058 := HO2058.thru hs2067 rfl
    replace HS := HS.trans hs2067 hc rfl
    (try simp only [Act.put, List.setIfInBounds_toArray, List.set_cons_zero, List.set_cons_succ])
    refine st (.slice A2068 t2062.length cp2069) rfl rfl (xr_assign (.slice A2068 t2062.length cp2069) rfl rfl) ?_
    simp only [List.set_cons_zero, List.set_cons_succ]
    refine wl_end ?_
    (try simp only [Act.put, List.setIfInBounds_toArray, List.set_cons_zero, List.set_cons_succ])
    refine hK2061 _ _ ?_
    (try clear hK2061 K2061)
    refine wp_seq_k fun K2072 hK2072 => ?_
    refine wl_region ?_
    refine st (.slice A2068 t2062.length cp2069) rfl rfl (xr_move (.slice A2068 t2062.length cp2069) rfl rfl) ?_
    simp only [List.set_cons_zero, List.set_cons_succ]
    refine st (.slice A2054 y2052.length cp2055) rfl rfl (xr_move (.slice A2054 y2052.length cp2055) rfl rfl) ?_
    simp only [List.set_cons_zero, List.set_cons_succ]
    obtain ⟨t2073, A2074, H⟩ := Option.bind_eq_some_iff.mp H
    (try dsimp only at H)
    refine st_call #[.slice A2054 y2052.length cp2055] rfl rfl Try.func37 (by kernel_rfl) rfl rfl (by simp only [List.map_toArray, List.map_cons, List.map_nil]; first | done | rfl) ?_
    refine (blazonref02_Of.calls k A2054 cp2055 y2052 t2073  (fun z_ => pal [(0, 0), (11, 0)] (C2066_ z_)) w2065 (fun _ => pal_lt rfl _) (Ft.arg (HO2058.ft) rfl) HC2059 A2074).mono ?_
    rintro _ w2076 ⟨C2077, rfl, hs2078⟩
    refine ⟨_, rfl, ?_⟩
    replace hs2078 := Step.lift (U := [(0, 0)]) hs2078 [] rfl rfl
    generalize up C2066_ C2077 w2065.heap.size [(0, 0)] = C2077_ at hs2078
    replace HO2058 := HO2058.thru hs2078 rfl
    replace HO2070 := HO2070.thru hs2078 rfl
    replace HS := HS.trans hs2078 hc rfl
    (try simp only [Act.put, List.setIfInBounds_toArray, List.set_cons_zero, List.set_cons_succ])
    obtain ⟨t2079, A2080, H⟩ := Option.bind_eq_some_iff.mp H
    (try dsimp only at H)
    refine st_call #[.int .u32 t2073] rfl rfl Try.func21 (by kernel_rfl) rfl rfl (by simp only [List.map_toArray, List.map_cons, List.map_nil]; first | done | rfl) ?_
    refine (blazonref01_Four.calls k t2073 t2079  (fun z_ => pal [(0, 0)] (C2077_ z_)) w2076 (fun _ => pal_lt rfl _) A2080).mono ?_
    rintro _ w2082 ⟨C2083, A2085, cp2086, rfl, hs2084, HO2087, HC2088⟩
    refine ⟨_, rfl, ?_⟩
    replace HO2087 := Own.res (U := [(0, 0), (5, 13)]) (j := 13) HO2087 hs2084 (by rfl) (by decide) rfl rfl
    replace hs2084 := Step.lift (U := [(0, 0), (5, 13)]) hs2084 [] rfl rfl
    generalize up C2077_ C2083 w2076.heap.size [(0, 0), (5, 13)] = C2083_ at HO2087 hs2084
    replace HO2058 := HO2058.thru hs2084 rfl
    replace HO2070 := HO2070.thru hs2084 rfl
    replace HS := HS.trans hs2084 hc rfl
    (try simp only [Act.put, List.setIfInBounds_toArray, List.set_cons_zero, List.set_cons_succ])
    replace HO2058 := Own.recol (a := 13) (b := 0) HO2058 (by decide) (by decide)
    replace HO2070 := Own.recol (a := 13) (b := 0) HO2070 (by decide) (by decide)
    have HR2089 := Ft.recolor (a := 13) (b := 0) (HO2087.ft) [0] rfl
    replace HS := Step.recol (a := 13) (b := 0) HS hc (by decide)
    by_cases c2090 : t2062.length + t2079.length < 140737488355328
    · rw [if_pos c2090] at H
      obtain ⟨y2091, A2092, H⟩ := Option.bind_eq_some_iff.mp H
      (try dsimp only at H)
      refine Own.append_rows (Kd.int .u8) (C := (recol C2083_ 13 0)) (i := 12) rfl (.tmp 16) (.tmp 19) 23 5 (.int .u8 0) 1 rfl Try.underlying23 info5 rfl (by decide) (by decide) (.slice A2068 t2062.length cp2069) t2062 t2079 A2085 t2079.length cp2086 rfl rfl HO2070 HR2089 (by decide) (by omega) (Option.some.inj A2092) ?_
      intro A2093 cp2094 w2095 C2096 HO2097 HC2098 hs2099
      replace HO2058 := HO2058.thru hs2099 rfl
      replace HS := HS.trans hs2099 hc rfl
      (try simp only [Act.put, List.setIfInBounds_toArray, List.set_cons_zero, List.set_cons_succ])
      refine st (.slice A2093 y2091.length cp2094) rfl rfl (xr_assign (.slice A2093 y2091.length cp2094) rfl rfl) ?_
      simp only [List.set_cons_zero, List.set_cons_succ]
      refine wl_end ?_
      (try simp only [Act.put, List.setIfInBounds_toArray, List.set_cons_zero, List.set_cons_succ])
      refine hK2072 _ _ ?_
      (try clear hK2072 K2072)
      refine wp_seq_k fun K2100 hK2100 => ?_
      refine wl_region ?_
      refine st (.slice A2093 y2091.length cp2094) rfl rfl (xr_move (.slice A2093 y2091.length cp2094) rfl rfl) ?_
      simp only [List.set_cons_zero, List.set_cons_succ]
      refine st (.slice A2054 y2052.length cp2055) rfl rfl (xr_move (.slice A2054 y2052.length cp2055) rfl rfl) ?_
      simp only [List.set_cons_zero, List.set_cons_succ]
      have HR2101 := Ft.recolor (a := 11) (b := 0) (HO2058.ft) [0] rfl
      replace HO2097 := Own.recol (a := 11) (b := 0) HO2097 (by decide) (by decide)
      replace HS := Step.recol (a := 11) (b := 0) HS hc (by decide)
      by_cases c2102 : y2091.length + y2052.length < 140737488355328
      · rw [if_pos c2102] at H
        obtain ⟨y2103, A2104, H⟩ := Option.bind_eq_some_iff.mp H
        (try dsimp only at H)
        refine Own.append_rows (Kd.int .u8) (C := (recol C2096 11 0)) (i := 12) rfl (.tmp 21) (.tmp 22) 23 5 (.int .u8 0) 1 rfl Try.underlying23 info5 rfl (by decide) (by decide) (.slice A2093 y2091.length cp2094) y2091 y2052 A2054 y2052.length cp2055 rfl rfl HO2097 HR2101 (by decide) (by omega) (Option.some.inj A2104) ?_
        intro A2105 cp2106 w2107 C2108 HO2109 HC2110 hs2111
        replace HS := HS.trans hs2111 hc rfl
        (try simp only [Act.put, List.setIfInBounds_toArray, List.set_cons_zero, List.set_cons_succ])
        refine st (.slice A2105 y2103.length cp2106) rfl rfl (xr_assign (.slice A2105 y2103.length cp2106) rfl rfl) ?_
        simp only [List.set_cons_zero, List.set_cons_succ]
        refine wl_end ?_
        (try simp only [Act.put, List.setIfInBounds_toArray, List.set_cons_zero, List.set_cons_succ])
        refine hK2100 _ _ ?_
        (try clear hK2100 K2100)
        refine wp_ret ?_
        (try simp only [Exit.inBlock, Exit.then, Exit.noGoto])
        (try simp only [Act.put, List.setIfInBounds_toArray, List.set_cons_zero, List.set_cons_succ])
        replace HO2109 := Own.recolor (b := 5) HO2109 (by decide)
        replace HS := Step.recol (a := 12) (b := 5) HS hc (by decide)
        obtain rfl := Option.some.inj H
        refine bodyPost_ret (results_tmp rfl _ _ _) rfl ?_
        exact ⟨_, A2105, cp2106, rfl, HS, HO2109, HC2110⟩
      · rw [if_neg c2102] at H
        exact absurd H (by simp)
    · rw [if_neg c2090] at H
      exact absurd H (by simp)
  · rw [if_neg c2051] at H
    exact absurd H (by simp)

/-! ### blazonlaw04_RecordPuts: function 12 -/
mutual
def blazonlaw04_RecordPuts.j0 : Nat → Int → (List Int) → (List Int) → Int → (List Int) → Int → Option (Bool)
  | 0, _, _, _, _, _, _ => none
  | k + 1, a1, l0, t2430, t2431, x2410, x2470 => if t2431 = x2470 then (if t2431 = 0 then ((some ([] : List Int)).bind fun y2482 => (if y2482.length + l0.length < 140737488355328 then ((some (y2482 ++ l0 : List Int)).bind fun y2492 => ((blazonref04_Form.f k a1 x2410).bind fun t2501 => (if y2492.length + t2501.length < 140737488355328 then ((some (y2492 ++ t2501 : List Int)).bind fun y2513 => ((blazonref01_Same.f k t2430 y2513).bind fun t2522 => (if t2522 = true then ((blazonlaw04_awake.f k).bind fun t2529 => (some t2529)) else (some false)))) else (none)))) else (none))) else ((blazonref01_Same.f k t2430 l0).bind fun t2536 => (if t2536 = true then ((blazonlaw04_awake.f k).bind fun t2543 => (some t2543)) else (some false)))) else (some false)
def blazonlaw04_RecordPuts.j1 : Nat → Int → (List Int) → (List Int) → Int → (List Int) → Bool → Bool → Option (Bool)
  | 0, _, _, _, _, _, _, _ => none
  | k + 1, a1, l0, t2430, t2431, x2410, x2416, x2559 => if x2559 = true then (blazonlaw04_RecordPuts.j0 k a1 l0 t2430 t2431 x2410 1) else (if x2416 = true then (blazonlaw04_RecordPuts.j0 k a1 l0 t2430 t2431 x2410 3) else (blazonlaw04_RecordPuts.j0 k a1 l0 t2430 t2431 x2410 0))
def blazonlaw04_RecordPuts.j2 : Nat → Int → (List Int) → (List Int) → Bool → Option (Bool)
  | 0, _, _, _, _ => none
  | k + 1, a1, l0, x2410, x2416 => (crc_New.f).bind fun t2422 => ((record_Put.f t2422 l0 a1 x2410).bind fun bt2430 => (if a1 < 0 then (blazonlaw04_RecordPuts.j1 k a1 l0 bt2430.1 bt2430.2.1 x2410 x2416 true) else (blazonlaw04_RecordPuts.j1 k a1 l0 bt2430.1 bt2430.2.1 x2410 x2416 (decide (a1 > 255)))))
def blazonlaw04_RecordPuts.j3 : Nat → Int → Bool → (List Int) → (List Int) → Bool → Option (Bool)
  | 0, _, _, _, _, _ => none
  | k + 1, a1, a3, l0, l2, x2379 => if x2379 = true then ((blazonlaw04_awake.f k).bind fun t2386 => (some t2386)) else (if a3 = true then (if (65537 : Int).toNat * 1 ≤ 281474976710656 then ((some (List.replicate (65537 : Int).toNat 0 : List Int)).bind fun y2571 => (blazonlaw04_RecordPuts.j2 k a1 l0 y2571 true)) else (none)) else (blazonlaw04_RecordPuts.j2 k a1 l0 l2 false))
end
def blazonlaw04_RecordPuts.f (k : Nat) (l0 : List Int) (a1 : Int) (l2 : List Int) (a3 : Bool) : Option (Bool) := if (l0.length : Int) > 1000 then (blazonlaw04_RecordPuts.j3 k a1 a3 l0 l2 true) else (blazonlaw04_RecordPuts.j3 k a1 a3 l0 l2 (decide ((l2.length : Int) > 1000)))
theorem blazonlaw04_RecordPuts.mono_l : ∀ k, (∀ y0 y1 y2 y3 y4 y5, LeO (blazonlaw04_RecordPuts.j0 k y0 y1 y2 y3 y4 y5) (blazonlaw04_RecordPuts.j0 (k + 1) y0 y1 y2 y3 y4 y5)) ∧ (∀ y0 y1 y2 y3 y4 y5 y6, LeO (blazonlaw04_RecordPuts.j1 k y0 y1 y2 y3 y4 y5 y6) (blazonlaw04_RecordPuts.j1 (k + 1) y0 y1 y2 y3 y4 y5 y6)) ∧ (∀ y0 y1 y2 y3, LeO (blazonlaw04_RecordPuts.j2 k y0 y1 y2 y3) (blazonlaw04_RecordPuts.j2 (k + 1) y0 y1 y2 y3)) ∧ (∀ y0 y1 y2 y3 y4, LeO (blazonlaw04_RecordPuts.j3 k y0 y1 y2 y3 y4) (blazonlaw04_RecordPuts.j3 (k + 1) y0 y1 y2 y3 y4))
  | 0 => ⟨fun _ _ _ _ _ _ r h => by simp [blazonlaw04_RecordPuts.j0] at h, fun _ _ _ _ _ _ _ r h => by simp [blazonlaw04_RecordPuts.j1] at h, fun _ _ _ _ r h => by simp [blazonlaw04_RecordPuts.j2] at h, fun _ _ _ _ _ r h => by simp [blazonlaw04_RecordPuts.j3] at h⟩
  | k + 1 => by
    obtain ⟨ih0, ih1, ih2, ih3⟩ := blazonlaw04_RecordPuts.mono_l k
    refine ⟨?_, ?_, ?_, ?_⟩
    · intro y0 y1 y2 y3 y4 y5
      unfold blazonlaw04_RecordPuts.j0
      repeat' first
      | (with_reducible exact ih0 _ _ _ _ _ _)
      | (with_reducible exact ih1 _ _ _ _ _ _ _)
      | (with_reducible exact ih2 _ _ _ _)
      | (with_reducible exact ih3 _ _ _ _ _)
      | (with_reducible exact blazonlaw04_awake.mono _)
      | (with_reducible exact blazonref01_Same.mono _ _ _)
      | (with_reducible exact blazonref04_Form.mono _ _ _)
      | (with_reducible exact LeO.refl _)
      | (with_reducible exact LeO.none _)
      | (with_reducible refine LeO.ite ?_ ?_)
      | (with_reducible refine LeO.bind ?_ (fun _ => ?_))
      | exact ih0 _ _ _ _ _ _
      | exact ih1 _ _ _ _ _ _ _
      | exact ih2 _ _ _ _
      | exact ih3 _ _ _ _ _
      | exact blazonlaw04_awake.mono _
      | exact blazonref01_Same.mono _ _ _
      | exact blazonref04_Form.mono _ _ _
      | exact LeO.none _
      | refine LeO.ite ?_ ?_
      | refine LeO.bind ?_ (fun _ => ?_)
    · intro y0 y1 y2 y3 y4 y5 y6
      unfold blazonlaw04_RecordPuts.j1
      repeat' first
      | (with_reducible exact ih0 _ _ _ _ _ _)
      | (with_reducible exact ih1 _ _ _ _ _ _ _)
      | (with_reducible exact ih2 _ _ _ _)
      | (with_reducible exact ih3 _ _ _ _ _)
      | (with_reducible exact blazonlaw04_awake.mono _)
      | (with_reducible exact blazonref01_Same.mono _ _ _)
      | (with_reducible exact blazonref04_Form.mono _ _ _)
      | (with_reducible exact LeO.refl _)
      | (with_reducible exact LeO.none _)
      | (with_reducible refine LeO.ite ?_ ?_)
      | (with_reducible refine LeO.bind ?_ (fun _ => ?_))
      | exact ih0 _ _ _ _ _ _
      | exact ih1 _ _ _ _ _ _ _
      | exact ih2 _ _ _ _
      | exact ih3 _ _ _ _ _
      | exact blazonlaw04_awake.mono _
      | exact blazonref01_Same.mono _ _ _
      | exact blazonref04_Form.mono _ _ _
      | exact LeO.none _
      | refine LeO.ite ?_ ?_
      | refine LeO.bind ?_ (fun _ => ?_)
    · intro y0 y1 y2 y3
      unfold blazonlaw04_RecordPuts.j2
      repeat' first
      | (with_reducible exact ih0 _ _ _ _ _ _)
      | (with_reducible exact ih1 _ _ _ _ _ _ _)
      | (with_reducible exact ih2 _ _ _ _)
      | (with_reducible exact ih3 _ _ _ _ _)
      | (with_reducible exact blazonlaw04_awake.mono _)
      | (with_reducible exact blazonref01_Same.mono _ _ _)
      | (with_reducible exact blazonref04_Form.mono _ _ _)
      | (with_reducible exact LeO.refl _)
      | (with_reducible exact LeO.none _)
      | (with_reducible refine LeO.ite ?_ ?_)
      | (with_reducible refine LeO.bind ?_ (fun _ => ?_))
      | exact ih0 _ _ _ _ _ _
      | exact ih1 _ _ _ _ _ _ _
      | exact ih2 _ _ _ _
      | exact ih3 _ _ _ _ _
      | exact blazonlaw04_awake.mono _
      | exact blazonref01_Same.mono _ _ _
      | exact blazonref04_Form.mono _ _ _
      | exact LeO.none _
      | refine LeO.ite ?_ ?_
      | refine LeO.bind ?_ (fun _ => ?_)
    · intro y0 y1 y2 y3 y4
      unfold blazonlaw04_RecordPuts.j3
      repeat' first
      | (with_reducible exact ih0 _ _ _ _ _ _)
      | (with_reducible exact ih1 _ _ _ _ _ _ _)
      | (with_reducible exact ih2 _ _ _ _)
      | (with_reducible exact ih3 _ _ _ _ _)
      | (with_reducible exact blazonlaw04_awake.mono _)
      | (with_reducible exact blazonref01_Same.mono _ _ _)
      | (with_reducible exact blazonref04_Form.mono _ _ _)
      | (with_reducible exact LeO.refl _)
      | (with_reducible exact LeO.none _)
      | (with_reducible refine LeO.ite ?_ ?_)
      | (with_reducible refine LeO.bind ?_ (fun _ => ?_))
      | exact ih0 _ _ _ _ _ _
      | exact ih1 _ _ _ _ _ _ _
      | exact ih2 _ _ _ _
      | exact ih3 _ _ _ _ _
      | exact blazonlaw04_awake.mono _
      | exact blazonref01_Same.mono _ _ _
      | exact blazonref04_Form.mono _ _ _
      | exact LeO.none _
      | refine LeO.ite ?_ ?_
      | refine LeO.bind ?_ (fun _ => ?_)
theorem blazonlaw04_RecordPuts.mono : ∀ a0 a1 a2 a3 k, LeO (blazonlaw04_RecordPuts.f k a0 a1 a2 a3) (blazonlaw04_RecordPuts.f (k + 1) a0 a1 a2 a3) := by
  intro a0 a1 a2 a3 k
  obtain ⟨ih0, ih1, ih2, ih3⟩ := blazonlaw04_RecordPuts.mono_l k
  unfold blazonlaw04_RecordPuts.f
  repeat' first
      | (with_reducible exact ih0 _ _ _ _ _ _)
      | (with_reducible exact ih1 _ _ _ _ _ _ _)
      | (with_reducible exact ih2 _ _ _ _)
      | (with_reducible exact ih3 _ _ _ _ _)
      | (with_reducible exact blazonlaw04_awake.mono _)
      | (with_reducible exact blazonref01_Same.mono _ _ _)
      | (with_reducible exact blazonref04_Form.mono _ _ _)
      | (with_reducible exact LeO.refl _)
      | (with_reducible exact LeO.none _)
      | (with_reducible refine LeO.ite ?_ ?_)
      | (with_reducible refine LeO.bind ?_ (fun _ => ?_))
      | exact ih0 _ _ _ _ _ _
      | exact ih1 _ _ _ _ _ _ _
      | exact ih2 _ _ _ _
      | exact ih3 _ _ _ _ _
      | exact blazonlaw04_awake.mono _
      | exact blazonref01_Same.mono _ _ _
      | exact blazonref04_Form.mono _ _ _
      | exact LeO.none _
      | refine LeO.ite ?_ ?_
      | refine LeO.bind ?_ (fun _ => ?_)
set_option maxHeartbeats 2000000 in
set_option maxRecDepth 100000 in
theorem blazonlaw04_RecordPuts.calls (k : Nat) (A0 : Option Addr) (c0 : Nat) (l0 : List Int) (a1 : Int) (A2 : Option Addr) (c2 : Nat) (l2 : List Int) (a3 : Bool) (r : Bool) (c : Nat → Nat) (w : World) (hc : ∀ k, c k < 10) (HP0 : Ft c [0] w (fun w_ => (Kd.int .u8).C w_ A0 l0.length l0)) (HCP0 : l0.length ≤ c0) (HP2 : Ft c [0] w (fun w_ => (Kd.int .u8).C w_ A2 l2.length l2)) (HCP2 : l2.length ≤ c2) (H : blazonlaw04_RecordPuts.f k l0 a1 l2 a3 = some r) :
    Calls Try.prog 12 #[.slice A0 l0.length c0, .int .i64 a1, .slice A2 l2.length c2, .bool a3] w fun e w' => ∃ (c' : Nat → Nat) , e = .returned (.bool r) ∧ Step c w c' w' [] := by
  unfold blazonlaw04_RecordPuts.f at H
  have HS := Step.refl c w []
  go_enter Try.func12, Try.ntmps12
  refine wp_seq_k fun K2347 hK2347 => ?_
  refine wl_region ?_
  refine st (.bool false) rfl rfl (xr_assign (.bool false) rfl rfl) ?_
  simp only [List.set_cons_zero, List.set_cons_succ]
  refine wl_end ?_
  (try simp only [Act.put, List.setIfInBounds_toArray, List.set_cons_zero, List.set_cons_succ])
  refine hK2347 _ _ ?_
  (try clear hK2347 K2347)
  refine wp_seq_k fun K2348 hK2348 => ?_
  refine wp_seq_k fun K2371 hK2371 => ?_
  have hj2373 : ∀ (kq2381 : Nat) (C2374 : Nat → Nat) (w2375 : World) (x2379 : Bool) (g2380 : Nat → Value), Step c w C2374 w2375 [] → kq2381 ≤ k → (Ft C2374 [0] w2375 (fun w_ => (Kd.int .u8).C w_ A0 l0.length l0)) → (Ft C2374 [0] w2375 (fun w_ => (Kd.int .u8).C w_ A2 l2.length l2)) → blazonlaw04_RecordPuts.j3 kq2381 a1 a3 l0 l2 x2379 = some r → K2371 ⟨#[.slice A0 l0.length c0, .int .i64 a1, .slice A2 l2.length c2, .bool a3, (g2380 4), (g2380 5), (g2380 6), (g2380 7), (g2380 8), (g2380 9), (g2380 10), (g2380 11), (g2380 12), (g2380 13), (g2380 14), (g2380 15), (g2380 16), (g2380 17), (g2380 18), .bool x2379, (g2380 20), (g2380 21), (g2380 22), (g2380 23), (g2380 24), (g2380 25), (g2380 26), (g2380 27), (g2380 28), (g2380 29), (g2380 30), (g2380 31), (g2380 32), (g2380 33), (g2380 34), (g2380 35), (g2380 36), (g2380 37), (g2380 38), (g2380 39), (g2380 40), (g2380 41), (g2380 42), (g2380 43), (g2380 44), (g2380 45), (g2380 46), (g2380 47), (g2380 48), (g2380 49), (g2380 50), (g2380 51), (g2380 52), (g2380 53), (g2380 54), (g2380 55), (g2380 56), (g2380 57), (g2380 58), (g2380 59), (g2380 60), (g2380 61)], []⟩ w2375 := by
    intro kq2381 C2374 w2375 x2379 g2380 HS2376 hk2382 HJ2377 HJ2378 H
    cases kq2381 with
    | zero => exact absurd H (by simp [blazonlaw04_RecordPuts.j3])
    | succ k2383 =>
      simp only [blazonlaw04_RecordPuts.j3] at H
      refine hK2371 _ _ ?_
      (try clear hK2371)
      by_cases c2384 : x2379 = true
      · rw [if_pos c2384] at H
        (try rw [c2384])
        (try simp only [Bool.not_true, Bool.not_false])
        refine wp_cond_true rfl ?_
        refine wp_seq_k fun K2385 hK2385 => ?_
        refine wl_region ?_
        obtain ⟨t2386, A2387, H⟩ := Option.bind_eq_some_iff.mp H
        (try dsimp only at H)
        refine st_call #[] rfl rfl Try.func41 (by kernel_rfl) rfl rfl (by simp only [List.map_toArray, List.map_cons, List.map_nil]; first | done | rfl) ?_
        refine (blazonlaw04_awake.calls k2383 t2386  (fun z_ => pal [(0, 0)] (C2374 z_)) w2375 (fun _ => pal_lt rfl _) A2387).mono ?_
        rintro _ w2389 ⟨C2390, rfl, hs2391⟩
        refine ⟨_, rfl, ?_⟩
        replace hs2391 := Step.lift (U := [(0, 0)]) hs2391 [] rfl rfl
        generalize up C2374 C2390 w2375.heap.size [(0, 0)] = C2390_ at hs2391
        replace HS2376 := HS2376.trans hs2391 hc rfl
        (try simp only [Act.put, List.setIfInBounds_toArray, List.set_cons_zero, List.set_cons_succ])
        refine st (.bool t2386) rfl rfl (xr_assign (.bool t2386) rfl rfl) ?_
        simp only [List.set_cons_zero, List.set_cons_succ]
        refine wl_end ?_
        (try simp only [Act.put, List.setIfInBounds_toArray, List.set_cons_zero, List.set_cons_succ])
        refine hK2385 _ _ ?_
        (try clear hK2385 K2385)
        refine wp_ret ?_
        (try simp only [Exit.inBlock, Exit.then, Exit.noGoto])
        (try simp only [Act.put, List.setIfInBounds_toArray, List.set_cons_zero, List.set_cons_succ])
        obtain rfl := Option.some.inj H
        refine bodyPost_ret (results_tmp rfl _ _ _) rfl ?_
        exact ⟨_, rfl, HS2376⟩
      · rw [if_neg c2384] at H
        (try rw [(Bool.eq_false_iff.mpr c2384)])
        (try simp only [Bool.not_true, Bool.not_false])
        refine wp_cond_false rfl ?_
        refine wp_skip ?_
        (try simp only [Act.put, List.setIfInBounds_toArray, List.set_cons_zero, List.set_cons_succ])
        refine hK2348 _ _ ?_
        (try clear hK2348 K2348)
        refine wp_seq_k fun K2392 hK2392 => ?_
        have hj2405 : ∀ (kq2418 : Nat) (C2406 : Nat → Nat) (w2407 : World) (x2416 : Bool) (A2411 : Option Addr) (n2412 cp2413 : Nat) (x2410 : List Int) (g2417 : Nat → Value), Step c w C2406 w2407 [] → kq2418 ≤ k2383 → (Ft C2406 [0] w2407 (fun w_ => (Kd.int .u8).C w_ A0 l0.length l0)) → (Ft C2406 [0] w2407 (fun w_ => (Kd.int .u8).C w_ A2411 n2412 x2410)) → (n2412 ≤ cp2413) → blazonlaw04_RecordPuts.j2 kq2418 a1 l0 x2410 x2416 = some r → K2392 ⟨#[.slice A0 l0.length c0, .int .i64 a1, .slice A2411 n2412 cp2413, .bool x2416, (g2417 4), (g2417 5), (g2417 6), (g2417 7), (g2417 8), (g2417 9), (g2417 10), (g2417 11), (g2417 12), (g2417 13), (g2417 14), (g2417 15), (g2417 16), (g2417 17), (g2417 18), (g2417 19), (g2417 20), (g2417 21), (g2417 22), (g2417 23), (g2417 24), (g2417 25), (g2417 26), (g2417 27), (g2417 28), (g2417 29), (g2417 30), (g2417 31), (g2417 32), (g2417 33), (g2417 34), (g2417 35), (g2417 36), (g2417 37), (g2417 38), (g2417 39), (g2417 40), (g2417 41), (g2417 42), (g2417 43), (g2417 44), (g2417 45), (g2417 46), (g2417 47), (g2417 48), (g2417 49), (g2417 50), (g2417 51), (g2417 52), (g2417 53), (g2417 54), (g2417 55), (g2417 56), (g2417 57), (g2417 58), (g2417 59), (g2417 60), (g2417 61)], []⟩ w2407 := by
          intro kq2418 C2406 w2407 x2416 A2411 n2412 cp2413 x2410 g2417 HS2408 hk2419 HJ2409 HJ2415 HC2414 H
          obtain rfl : n2412 = x2410.length := (Ft.now HJ2415).1.symm
          cases kq2418 with
          | zero => exact absurd H (by simp [blazonlaw04_RecordPuts.j2])
          | succ k2420 =>
            simp only [blazonlaw04_RecordPuts.j2] at H
            refine hK2392 _ _ ?_
            (try clear hK2392)
            refine wp_seq_k fun K2421 hK2421 => ?_
            refine wl_region ?_
            obtain ⟨t2422, A2423, H⟩ := Option.bind_eq_some_iff.mp H
            (try dsimp only at H)
            refine st_call #[] rfl rfl Try.func34 (by kernel_rfl) rfl rfl (by simp only [List.map_toArray, List.map_cons, List.map_nil]; first | done | rfl) ?_
            refine (crc_New.calls t2422  (fun z_ => pal [(0, 0)] (C2406 z_)) w2407 (fun _ => pal_lt rfl _) A2423).mono ?_
            rintro _ w2425 ⟨C2426, v2428, rfl, hs2427, HB2429⟩
            refine ⟨_, rfl, ?_⟩
            replace HB2429 := Ft.res (U := [(0, 0), (5, 11)]) HB2429 hs2427 [11] rfl rfl rfl
            replace hs2427 := Step.lift (U := [(0, 0), (5, 11)]) hs2427 [] rfl rfl
            generalize up C2406 C2426 w2407.heap.size [(0, 0), (5, 11)] = C2426_ at HB2429 hs2427
            replace HJ2409 := HJ2409.thru hs2427 rfl
            replace HJ2415 := HJ2415.thru hs2427 rfl
            replace HS2408 := HS2408.trans hs2427 hc rfl
            (try simp only [Act.put, List.setIfInBounds_toArray, List.set_cons_zero, List.set_cons_succ])
            refine st (.slice A0 l0.length c0) rfl rfl (xr_move (.slice A0 l0.length c0) rfl rfl) ?_
            simp only [List.set_cons_zero, List.set_cons_succ]
            refine st (.int .i64 a1) rfl rfl (xr_move (.int .i64 a1) rfl rfl) ?_
            simp only [List.set_cons_zero, List.set_cons_succ]
            refine st (.slice A2411 x2410.length cp2413) rfl rfl (xr_move (.slice A2411 x2410.length cp2413) rfl rfl) ?_
            simp only [List.set_cons_zero, List.set_cons_succ]
            refine st (.agg #[.int .i64 a1, .slice A2411 x2410.length cp2413]) rfl rfl (xr_build #[(0, .int .i64 a1), (1, .slice A2411 x2410.length cp2413)] (.agg #[.int .i64 a1, .slice A2411 x2410.length cp2413]) rfl (by simp only [List.map_toArray, List.map_cons, List.map_nil]; first | done | rfl) (by first | rfl | (go_simp; done) | (go_simp; rfl) | (go_simp; exact i64_w _) | (go_simp; exact i32_w _))) ?_
            simp only [List.set_cons_zero, List.set_cons_succ]
            obtain ⟨⟨t2430, t2431, t2432⟩, A2433, H⟩ := Option.bind_eq_some_iff.mp H
            (try dsimp only at H)
            refine st_call #[v2428, .slice A0 l0.length c0, .agg #[.int .i64 a1, .slice A2411 x2410.length cp2413]] rfl rfl Try.func42 (by kernel_rfl) rfl rfl (by simp only [List.map_toArray, List.map_cons, List.map_nil]; first | done | rfl) ?_
            refine (record_Put.calls v2428 t2422 A0 c0 l0 a1 A2411 cp2413 x2410 t2430 t2431 t2432  (fun z_ => pal [(0, 0), (11, 1)] (C2426_ z_)) w2425 (fun _ => pal_lt rfl _) (Ft.arg HB2429 rfl) (Ft.arg HJ2409 rfl) HCP0 (Ft.arg HJ2415 rfl) HC2414 A2433).mono ?_
            rintro _ w2435 ⟨C2436, A2438, cp2439, rfl, hs2437, HO2440, HC2441, HM2442⟩
            refine ⟨_, rfl, ?_⟩
            replace HO2440 := Ft.res (U := [(0, 0), (1, 11)]) HO2440 hs2437 [0] rfl rfl rfl
            replace HM2442 := Ft.res (U := [(0, 0), (1, 11)]) HM2442 hs2437 [11] rfl rfl rfl
            replace hs2437 := Step.lift (U := [(0, 0), (1, 11)]) hs2437 [11] rfl rfl
            generalize up C2426_ C2436 w2425.heap.size [(0, 0), (1, 11)] = C2436_ at HO2440 HM2442 hs2437
            replace HJ2409 := HJ2409.thru hs2437 rfl
            replace HJ2415 := HJ2415.thru hs2437 rfl
            replace HS2408 := HS2408.trans hs2437 hc rfl
            (try simp only [Act.put, List.setIfInBounds_toArray, List.set_cons_zero, List.set_cons_succ])
            refine st (.tuple #[.slice A2438 t2430.length cp2439, .int .i64 t2431]) rfl rfl (xr_move (.tuple #[.slice A2438 t2430.length cp2439, .int .i64 t2431]) rfl rfl) ?_
            simp only [List.set_cons_zero, List.set_cons_succ]
            refine st (.slice A2438 t2430.length cp2439) rfl rfl (xr_extract (.tuple #[.slice A2438 t2430.length cp2439, .int .i64 t2431]) (.slice A2438 t2430.length cp2439) rfl rfl rfl) ?_
            simp only [List.set_cons_zero, List.set_cons_succ]
            refine st (.int .i64 t2431) rfl rfl (xr_extract (.tuple #[.slice A2438 t2430.length cp2439, .int .i64 t2431]) (.int .i64 t2431) rfl rfl rfl) ?_
            simp only [List.set_cons_zero, List.set_cons_succ]
            refine st (.slice A2438 t2430.length cp2439) rfl rfl (xr_assign (.slice A2438 t2430.length cp2439) rfl rfl) ?_
            simp only [List.set_cons_zero, List.set_cons_succ]
            refine st (.int .i64 t2431) rfl rfl (xr_assign (.int .i64 t2431) rfl rfl) ?_
            simp only [List.set_cons_zero, List.set_cons_succ]
            refine wl_end ?_
            (try simp only [Act.put, List.setIfInBounds_toArray, List.set_cons_zero, List.set_cons_succ])
            refine hK2421 _ _ ?_
            (try clear hK2421 K2421)
            refine wp_seq_k fun K2443 hK2443 => ?_
            refine wl_region ?_
            refine st (.int .i64 0) rfl rfl (xr_assign (.int .i64 0) rfl rfl) ?_
            simp only [List.set_cons_zero, List.set_cons_succ]
            refine wl_end ?_
            (try simp only [Act.put, List.setIfInBounds_toArray, List.set_cons_zero, List.set_cons_succ])
            refine hK2443 _ _ ?_
            (try clear hK2443 K2443)
            refine wp_seq_k fun K2444 hK2444 => ?_
            have hj2463 : ∀ (kq2472 : Nat) (C2464 : Nat → Nat) (w2465 : World) (x2470 : Int) (g2471 : Nat → Value), Step c w C2464 w2465 [] → kq2472 ≤ k2420 → (Ft C2464 [0] w2465 (fun w_ => (Kd.int .u8).C w_ A0 l0.length l0)) → (Ft C2464 [0] w2465 (fun w_ => (Kd.int .u8).C w_ A2411 x2410.length x2410)) → (Ft C2464 [0] w2465 (fun w_ => (Kd.int .u8).C w_ A2438 t2430.length t2430)) → blazonlaw04_RecordPuts.j0 kq2472 a1 l0 t2430 t2431 x2410 x2470 = some r → K2444 ⟨#[.slice A0 l0.length c0, .int .i64 a1, .slice A2411 x2410.length cp2413, (g2471 3), (g2471 4), (g2471 5), (g2471 6), (g2471 7), (g2471 8), .slice A2438 t2430.length cp2439, .int .i64 t2431, .int .i64 x2470, (g2471 12), (g2471 13), (g2471 14), (g2471 15), (g2471 16), (g2471 17), (g2471 18), (g2471 19), (g2471 20), (g2471 21), (g2471 22), (g2471 23), (g2471 24), (g2471 25), (g2471 26), (g2471 27), (g2471 28), (g2471 29), (g2471 30), (g2471 31), (g2471 32), (g2471 33), (g2471 34), (g2471 35), (g2471 36), (g2471 37), (g2471 38), (g2471 39), (g2471 40), (g2471 41), (g2471 42), (g2471 43), (g2471 44), (g2471 45), (g2471 46), (g2471 47), (g2471 48), (g2471 49), (g2471 50), (g2471 51), (g2471 52), (g2471 53), (g2471 54), (g2471 55), (g2471 56), (g2471 57), (g2471 58), (g2471 59), (g2471 60), (g2471 61)], []⟩ w2465 := by
              intro kq2472 C2464 w2465 x2470 g2471 HS2466 hk2473 HJ2467 HJ2468 HJ2469 H
              cases kq2472 with
              | zero => exact absurd H (by simp [blazonlaw04_RecordPuts.j0])
              | succ k2474 =>
                simp only [blazonlaw04_RecordPuts.j0] at H
                refine hK2444 _ _ ?_
                (try clear hK2444)
                refine wp_seq_k fun K2475 hK2475 => ?_
                refine wp_seq_k fun K2476 hK2476 => ?_
                refine wl_region ?_
                refine st (.int .i64 t2431) rfl rfl (xr_move (.int .i64 t2431) rfl rfl) ?_
                simp only [List.set_cons_zero, List.set_cons_succ]
                refine st (.int .i64 x2470) rfl rfl (xr_move (.int .i64 x2470) rfl rfl) ?_
                simp only [List.set_cons_zero, List.set_cons_succ]
                refine st (.bool (!decide (t2431 = x2470))) rfl rfl (xr_bin (.int .i64 t2431) (.int .i64 x2470) (.bool (!decide (t2431 = x2470))) rfl rfl rfl (B.neq_i64 t2431 x2470)) ?_
                simp only [List.set_cons_zero, List.set_cons_succ]
                refine wl_end ?_
                (try simp only [Act.put, List.setIfInBounds_toArray, List.set_cons_zero, List.set_cons_succ])
                refine hK2476 _ _ ?_
                (try clear hK2476 K2476)
                by_cases c2477 : t2431 = x2470
                · rw [if_pos c2477] at H
                  (try rw [(decide_eq_true c2477)])
                  (try simp only [Bool.not_true, Bool.not_false])
                  refine wp_cond_false rfl ?_
                  refine wp_skip ?_
                  (try simp only [Act.put, List.setIfInBounds_toArray, List.set_cons_zero, List.set_cons_succ])
                  refine hK2475 _ _ ?_
                  (try clear hK2475 K2475)
                  refine wp_seq_k fun K2478 hK2478 => ?_
                  refine wp_seq_k fun K2479 hK2479 => ?_
                  refine wl_region ?_
                  refine st (.int .i64 t2431) rfl rfl (xr_move (.int .i64 t2431) rfl rfl) ?_
                  simp only [List.set_cons_zero, List.set_cons_succ]
                  refine st (.bool (!decide (t2431 = 0))) rfl rfl (xr_bin (.int .i64 t2431) (.int .i64 0) (.bool (!decide (t2431 = 0))) rfl rfl rfl (B.neq_i64 t2431 0)) ?_
                  simp only [List.set_cons_zero, List.set_cons_succ]
                  refine wl_end ?_
                  (try simp only [Act.put, List.setIfInBounds_toArray, List.set_cons_zero, List.set_cons_succ])
                  refine hK2479 _ _ ?_
                  (try clear hK2479 K2479)
                  by_cases c2480 : t2431 = 0
                  · rw [if_pos c2480] at H
                    (try rw [(decide_eq_true c2480)])
                    (try simp only [Bool.not_true, Bool.not_false])
                    refine wp_cond_false rfl ?_
                    refine wp_skip ?_
                    (try simp only [Act.put, List.setIfInBounds_toArray, List.set_cons_zero, List.set_cons_succ])
                    refine hK2478 _ _ ?_
                    (try clear hK2478 K2478)
                    refine wp_seq_k fun K2481 hK2481 => ?_
                    refine wl_region ?_
                    refine st (.slice A2438 t2430.length cp2439) rfl rfl (xr_move (.slice A2438 t2430.length cp2439) rfl rfl) ?_
                    simp only [List.set_cons_zero, List.set_cons_succ]
                    obtain ⟨y2482, A2483, H⟩ := Option.bind_eq_some_iff.mp H
                    (try dsimp only at H)
                    refine Own.lit (Kd.int .u8) (C := C2464) (i := 12) rfl 5 rfl (xs := ([] : List Int)) (inner := []) (by first | (go_simp; done) | (go_simp; rfl)) (Reps.none _ _) (by simp only [List.length_cons, List.length_nil]; omega) (Option.some.inj A2483) ?_
                    intro A2484 cp2485 w2486 C2487 HO2488 HC2489 hs2490
                    replace HJ2467 := HJ2467.thru hs2490 rfl
                    replace HJ2468 := HJ2468.thru hs2490 rfl
                    replace HJ2469 := HJ2469.thru hs2490 rfl
                    replace HS2466 := HS2466.trans hs2490 hc rfl
                    (try simp only [Act.put, List.setIfInBounds_toArray, List.set_cons_zero, List.set_cons_succ])
                    refine st (.slice A0 l0.length c0) rfl rfl (xr_move (.slice A0 l0.length c0) rfl rfl) ?_
                    simp only [List.set_cons_zero, List.set_cons_succ]
                    by_cases c2491 : y2482.length + l0.length < 140737488355328
                    · rw [if_pos c2491] at H
                      obtain ⟨y2492, A2493, H⟩ := Option.bind_eq_some_iff.mp H
                      (try dsimp only at H)
                      refine Own.append_rows (Kd.int .u8) (C := C2487) (i := 12) rfl (.tmp 51) (.tmp 52) 23 5 (.int .u8 0) 1 rfl Try.underlying23 info5 rfl (by decide) (by decide) (.slice A2484 y2482.length cp2485) y2482 l0 A0 l0.length c0 rfl rfl HO2488 HJ2467 (by decide) (by omega) (Option.some.inj A2493) ?_
                      intro A2494 cp2495 w2496 C2497 HO2498 HC2499 hs2500
                      replace HJ2468 := HJ2468.thru hs2500 rfl
                      replace HJ2469 := HJ2469.thru hs2500 rfl
                      replace HS2466 := HS2466.trans hs2500 hc rfl
                      (try simp only [Act.put, List.setIfInBounds_toArray, List.set_cons_zero, List.set_cons_succ])
                      refine st (.int .i64 a1) rfl rfl (xr_move (.int .i64 a1) rfl rfl) ?_
                      simp only [List.set_cons_zero, List.set_cons_succ]
                      refine st (.slice A2411 x2410.length cp2413) rfl rfl (xr_move (.slice A2411 x2410.length cp2413) rfl rfl) ?_
                      simp only [List.set_cons_zero, List.set_cons_succ]
                      obtain ⟨t2501, A2502, H⟩ := Option.bind_eq_some_iff.mp H
                      (try dsimp only at H)
                      refine st_call #[.int .i64 a1, .slice A2411 x2410.length cp2413] rfl rfl Try.func43 (by kernel_rfl) rfl rfl (by simp only [List.map_toArray, List.map_cons, List.map_nil]; first | done | rfl) ?_
                      refine (blazonref04_Form.calls k2474 a1 A2411 cp2413 x2410 t2501  (fun z_ => pal [(0, 0)] (C2497 z_)) w2496 (fun _ => pal_lt rfl _) (Ft.arg HJ2468 rfl) HC2414 A2502).mono ?_
                      rintro _ w2504 ⟨C2505, A2507, cp2508, rfl, hs2506, HO2509, HC2510⟩
                      refine ⟨_, rfl, ?_⟩
                      replace HO2509 := Own.res (U := [(0, 0), (5, 13)]) (j := 13) HO2509 hs2506 (by rfl) (by decide) rfl rfl
                      replace hs2506 := Step.lift (U := [(0, 0), (5, 13)]) hs2506 [] rfl rfl
                      generalize up C2497 C2505 w2496.heap.size [(0, 0), (5, 13)] = C2505_ at HO2509 hs2506
                      replace HJ2469 := HJ2469.thru hs2506 rfl
                      replace HO2498 := HO2498.thru hs2506 rfl
                      replace HS2466 := HS2466.trans hs2506 hc rfl
                      (try simp only [Act.put, List.setIfInBounds_toArray, List.set_cons_zero, List.set_cons_succ])
                      replace HJ2469 := Ft.recol (a := 13) (b := 0) HJ2469 (.inl rfl)
                      replace HO2498 := Own.recol (a := 13) (b := 0) HO2498 (by decide) (by decide)
                      have HR2511 := Ft.recolor (a := 13) (b := 0) (HO2509.ft) [0] rfl
                      replace HS2466 := Step.recol (a := 13) (b := 0) HS2466 hc (by decide)
                      by_cases c2512 : y2492.length + t2501.length < 140737488355328
                      · rw [if_pos c2512] at H
                        obtain ⟨y2513, A2514, H⟩ := Option.bind_eq_some_iff.mp H
                        (try dsimp only at H)
                        refine Own.append_rows (Kd.int .u8) (C := (recol C2505_ 13 0)) (i := 12) rfl (.tmp 53) (.tmp 56) 23 5 (.int .u8 0) 1 rfl Try.underlying23 info5 rfl (by decide) (by decide) (.slice A2494 y2492.length cp2495) y2492 t2501 A2507 t2501.length cp2508 rfl rfl HO2498 HR2511 (by decide) (by omega) (Option.some.inj A2514) ?_
                        intro A2515 cp2516 w2517 C2518 HO2519 HC2520 hs2521
                        replace HJ2469 := HJ2469.thru hs2521 rfl
                        replace HS2466 := HS2466.trans hs2521 hc rfl
                        (try simp only [Act.put, List.setIfInBounds_toArray, List.set_cons_zero, List.set_cons_succ])
                        obtain ⟨t2522, A2523, H⟩ := Option.bind_eq_some_iff.mp H
                        (try dsimp only at H)
                        refine st_call #[.slice A2438 t2430.length cp2439, .slice A2515 y2513.length cp2516] rfl rfl Try.func17 (by kernel_rfl) rfl rfl (by simp only [List.map_toArray, List.map_cons, List.map_nil]; first | done | rfl) ?_
                        refine (blazonref01_Same.calls k2474 A2438 cp2439 t2430 A2515 cp2516 y2513 t2522  (fun z_ => pal [(0, 0), (12, 0)] (C2518 z_)) w2517 (fun _ => pal_lt rfl _) (Ft.arg HJ2469 rfl) HC2441 (Ft.arg (HO2519.ft) rfl) HC2520 A2523).mono ?_
                        rintro _ w2525 ⟨C2526, rfl, hs2527⟩
                        refine ⟨_, rfl, ?_⟩
                        replace hs2527 := Step.lift (U := [(0, 0)]) hs2527 [] rfl rfl
                        generalize up C2518 C2526 w2517.heap.size [(0, 0)] = C2526_ at hs2527
                        replace HS2466 := HS2466.trans hs2527 hc rfl
                        (try simp only [Act.put, List.setIfInBounds_toArray, List.set_cons_zero, List.set_cons_succ])
                        refine st (.bool t2522) rfl rfl (xr_move (.bool t2522) rfl rfl) ?_
                        simp only [List.set_cons_zero, List.set_cons_succ]
                        by_cases c2528 : t2522 = true
                        · rw [if_pos c2528] at H
                          (try rw [c2528])
                          (try simp only [Bool.not_true, Bool.not_false])
                          refine on_guard (guard_on 9 true 59 rfl rfl rfl) ?_
                          obtain ⟨t2529, A2530, H⟩ := Option.bind_eq_some_iff.mp H
                          (try dsimp only at H)
                          refine st_call #[] rfl rfl Try.func41 (by kernel_rfl) rfl rfl (by simp only [List.map_toArray, List.map_cons, List.map_nil]; first | done | rfl) ?_
                          refine (blazonlaw04_awake.calls k2474 t2529  (fun z_ => pal [(0, 0)] (C2526_ z_)) w2525 (fun _ => pal_lt rfl _) A2530).mono ?_
                          rintro _ w2532 ⟨C2533, rfl, hs2534⟩
                          refine ⟨_, rfl, ?_⟩
                          replace hs2534 := Step.lift (U := [(0, 0)]) hs2534 [] rfl rfl
                          generalize up C2526_ C2533 w2525.heap.size [(0, 0)] = C2533_ at hs2534
                          replace HS2466 := HS2466.trans hs2534 hc rfl
                          (try simp only [Act.put, List.setIfInBounds_toArray, List.set_cons_zero, List.set_cons_succ])
                          refine st (.bool t2529) rfl rfl (xr_pick true (.bool t2529) rfl rfl rfl) ?_
                          simp only [List.set_cons_zero, List.set_cons_succ]
                          refine st (.bool t2529) rfl rfl (xr_assign (.bool t2529) rfl rfl) ?_
                          simp only [List.set_cons_zero, List.set_cons_succ]
                          refine wl_end ?_
                          (try simp only [Act.put, List.setIfInBounds_toArray, List.set_cons_zero, List.set_cons_succ])
                          refine hK2481 _ _ ?_
                          (try clear hK2481 K2481)
                          refine wp_ret ?_
                          (try simp only [Exit.inBlock, Exit.then, Exit.noGoto])
                          (try simp only [Act.put, List.setIfInBounds_toArray, List.set_cons_zero, List.set_cons_succ])
                          obtain rfl := Option.some.inj H
                          refine bodyPost_ret (results_tmp rfl _ _ _) rfl ?_
                          exact ⟨_, rfl, HS2466⟩
                        · rw [if_neg c2528] at H
                          (try rw [(Bool.eq_false_iff.mpr c2528)])
                          (try simp only [Bool.not_true, Bool.not_false])
                          refine sk_guard (guard_off 9 true 59 rfl rfl false (by decide) rfl) rfl ?_
                          simp only [List.set_cons_zero, List.set_cons_succ]
                          refine st (.bool false) rfl rfl (xr_pick false (.bool false) rfl rfl rfl) ?_
                          simp only [List.set_cons_zero, List.set_cons_succ]
                          refine st (.bool false) rfl rfl (xr_assign (.bool false) rfl rfl) ?_
                          simp only [List.set_cons_zero, List.set_cons_succ]
                          refine wl_end ?_
                          (try simp only [Act.put, List.setIfInBounds_toArray, List.set_cons_zero, List.set_cons_succ])
                          refine hK2481 _ _ ?_
                          (try clear hK2481 K2481)
                          refine wp_ret ?_
                          (try simp only [Exit.inBlock, Exit.then, Exit.noGoto])
                          (try simp only [Act.put, List.setIfInBounds_toArray, List.set_cons_zero, List.set_cons_succ])
                          obtain rfl := Option.some.inj H
                          refine bodyPost_ret (results_tmp rfl _ _ _) rfl ?_
                          exact ⟨_, rfl, HS2466⟩
                      · rw [if_neg c2512] at H
                        exact absurd H (by simp)
                    · rw [if_neg c2491] at H
                      exact absurd H (by simp)
                  · rw [if_neg c2480] at H
                    (try rw [(decide_eq_false c2480)])
                    (try simp only [Bool.not_true, Bool.not_false])
                    refine wp_cond_true rfl ?_
                    refine wp_seq_k fun K2535 hK2535 => ?_
                    refine wl_region ?_
                    refine st (.slice A2438 t2430.length cp2439) rfl rfl (xr_move (.slice A2438 t2430.length cp2439) rfl rfl) ?_
                    simp only [List.set_cons_zero, List.set_cons_succ]
                    refine st (.slice A0 l0.length c0) rfl rfl (xr_move (.slice A0 l0.length c0) rfl rfl) ?_
                    simp only [List.set_cons_zero, List.set_cons_succ]
                    obtain ⟨t2536, A2537, H⟩ := Option.bind_eq_some_iff.mp H
                    (try dsimp only at H)
                    refine st_call #[.slice A2438 t2430.length cp2439, .slice A0 l0.length c0] rfl rfl Try.func17 (by kernel_rfl) rfl rfl (by simp only [List.map_toArray, List.map_cons, List.map_nil]; first | done | rfl) ?_
                    refine (blazonref01_Same.calls k2474 A2438 cp2439 t2430 A0 c0 l0 t2536  (fun z_ => pal [(0, 0)] (C2464 z_)) w2465 (fun _ => pal_lt rfl _) (Ft.arg HJ2469 rfl) HC2441 (Ft.arg HJ2467 rfl) HCP0 A2537).mono ?_
                    rintro _ w2539 ⟨C2540, rfl, hs2541⟩
                    refine ⟨_, rfl, ?_⟩
                    replace hs2541 := Step.lift (U := [(0, 0)]) hs2541 [] rfl rfl
                    generalize up C2464 C2540 w2465.heap.size [(0, 0)] = C2540_ at hs2541
                    replace HS2466 := HS2466.trans hs2541 hc rfl
                    (try simp only [Act.put, List.setIfInBounds_toArray, List.set_cons_zero, List.set_cons_succ])
                    refine st (.bool t2536) rfl rfl (xr_move (.bool t2536) rfl rfl) ?_
                    simp only [List.set_cons_zero, List.set_cons_succ]
                    by_cases c2542 : t2536 = true
                    · rw [if_pos c2542] at H
                      (try rw [c2542])
                      (try simp only [Bool.not_true, Bool.not_false])
                      refine on_guard (guard_on 3 true 47 rfl rfl rfl) ?_
                      obtain ⟨t2543, A2544, H⟩ := Option.bind_eq_some_iff.mp H
                      (try dsimp only at H)
                      refine st_call #[] rfl rfl Try.func41 (by kernel_rfl) rfl rfl (by simp only [List.map_toArray, List.map_cons, List.map_nil]; first | done | rfl) ?_
                      refine (blazonlaw04_awake.calls k2474 t2543  (fun z_ => pal [(0, 0)] (C2540_ z_)) w2539 (fun _ => pal_lt rfl _) A2544).mono ?_
                      rintro _ w2546 ⟨C2547, rfl, hs2548⟩
                      refine ⟨_, rfl, ?_⟩
                      replace hs2548 := Step.lift (U := [(0, 0)]) hs2548 [] rfl rfl
                      generalize up C2540_ C2547 w2539.heap.size [(0, 0)] = C2547_ at hs2548
                      replace HS2466 := HS2466.trans hs2548 hc rfl
                      (try simp only [Act.put, List.setIfInBounds_toArray, List.set_cons_zero, List.set_cons_succ])
                      refine st (.bool t2543) rfl rfl (xr_pick true (.bool t2543) rfl rfl rfl) ?_
                      simp only [List.set_cons_zero, List.set_cons_succ]
                      refine st (.bool t2543) rfl rfl (xr_assign (.bool t2543) rfl rfl) ?_
                      simp only [List.set_cons_zero, List.set_cons_succ]
                      refine wl_end ?_
                      (try simp only [Act.put, List.setIfInBounds_toArray, List.set_cons_zero, List.set_cons_succ])
                      refine hK2535 _ _ ?_
                      (try clear hK2535 K2535)
                      refine wp_ret ?_
                      (try simp only [Exit.inBlock, Exit.then, Exit.noGoto])
                      (try simp only [Act.put, List.setIfInBounds_toArray, List.set_cons_zero, List.set_cons_succ])
                      obtain rfl := Option.some.inj H
                      refine bodyPost_ret (results_tmp rfl _ _ _) rfl ?_
                      exact ⟨_, rfl, HS2466⟩
                    · rw [if_neg c2542] at H
                      (try rw [(Bool.eq_false_iff.mpr c2542)])
                      (try simp only [Bool.not_true, Bool.not_false])
                      refine sk_guard (guard_off 3 true 47 rfl rfl false (by decide) rfl) rfl ?_
                      simp only [List.set_cons_zero, List.set_cons_succ]
                      refine st (.bool false) rfl rfl (xr_pick false (.bool false) rfl rfl rfl) ?_
                      simp only [List.set_cons_zero, List.set_cons_succ]
                      refine st (.bool false) rfl rfl (xr_assign (.bool false) rfl rfl) ?_
                      simp only [List.set_cons_zero, List.set_cons_succ]
                      refine wl_end ?_
                      (try simp only [Act.put, List.setIfInBounds_toArray, List.set_cons_zero, List.set_cons_succ])
                      refine hK2535 _ _ ?_
                      (try clear hK2535 K2535)
                      refine wp_ret ?_
                      (try simp only [Exit.inBlock, Exit.then, Exit.noGoto])
                      (try simp only [Act.put, List.setIfInBounds_toArray, List.set_cons_zero, List.set_cons_succ])
                      obtain rfl := Option.some.inj H
                      refine bodyPost_ret (results_tmp rfl _ _ _) rfl ?_
                      exact ⟨_, rfl, HS2466⟩
                · rw [if_neg c2477] at H
                  (try rw [(decide_eq_false c2477)])
                  (try simp only [Bool.not_true, Bool.not_false])
                  refine wp_cond_true rfl ?_
                  refine wp_seq_k fun K2549 hK2549 => ?_
                  refine wl_region ?_
                  refine st (.bool false) rfl rfl (xr_assign (.bool false) rfl rfl) ?_
                  simp only [List.set_cons_zero, List.set_cons_succ]
                  refine wl_end ?_
                  (try simp only [Act.put, List.setIfInBounds_toArray, List.set_cons_zero, List.set_cons_succ])
                  refine hK2549 _ _ ?_
                  (try clear hK2549 K2549)
                  refine wp_ret ?_
                  (try simp only [Exit.inBlock, Exit.then, Exit.noGoto])
                  (try simp only [Act.put, List.setIfInBounds_toArray, List.set_cons_zero, List.set_cons_succ])
                  obtain rfl := Option.some.inj H
                  refine bodyPost_ret (results_tmp rfl _ _ _) rfl ?_
                  exact ⟨_, rfl, HS2466⟩
            refine wp_seq_k fun K2550 hK2550 => ?_
            have hj2552 : ∀ (kq2561 : Nat) (C2553 : Nat → Nat) (w2554 : World) (x2559 : Bool) (g2560 : Nat → Value), Step c w C2553 w2554 [] → kq2561 ≤ k2420 → (Ft C2553 [0] w2554 (fun w_ => (Kd.int .u8).C w_ A0 l0.length l0)) → (Ft C2553 [0] w2554 (fun w_ => (Kd.int .u8).C w_ A2411 x2410.length x2410)) → (Ft C2553 [0] w2554 (fun w_ => (Kd.int .u8).C w_ A2438 t2430.length t2430)) → blazonlaw04_RecordPuts.j1 kq2561 a1 l0 t2430 t2431 x2410 x2416 x2559 = some r → K2550 ⟨#[.slice A0 l0.length c0, .int .i64 a1, .slice A2411 x2410.length cp2413, .bool x2416, (g2560 4), (g2560 5), (g2560 6), (g2560 7), (g2560 8), .slice A2438 t2430.length cp2439, .int .i64 t2431, .int .i64 0, (g2560 12), (g2560 13), (g2560 14), (g2560 15), (g2560 16), (g2560 17), (g2560 18), (g2560 19), (g2560 20), (g2560 21), (g2560 22), (g2560 23), (g2560 24), (g2560 25), (g2560 26), (g2560 27), (g2560 28), (g2560 29), (g2560 30), (g2560 31), (g2560 32), (g2560 33), (g2560 34), (g2560 35), (g2560 36), .bool x2559, (g2560 38), (g2560 39), (g2560 40), (g2560 41), (g2560 42), (g2560 43), (g2560 44), (g2560 45), (g2560 46), (g2560 47), (g2560 48), (g2560 49), (g2560 50), (g2560 51), (g2560 52), (g2560 53), (g2560 54), (g2560 55), (g2560 56), (g2560 57), (g2560 58), (g2560 59), (g2560 60), (g2560 61)], []⟩ w2554 := by
              intro kq2561 C2553 w2554 x2559 g2560 HS2555 hk2562 HJ2556 HJ2557 HJ2558 H
              cases kq2561 with
              | zero => exact absurd H (by simp [blazonlaw04_RecordPuts.j1])
              | succ k2563 =>
                simp only [blazonlaw04_RecordPuts.j1] at H
                refine hK2550 _ _ ?_
                (try clear hK2550)
                by_cases c2564 : x2559 = true
                · rw [if_pos c2564] at H
                  (try rw [c2564])
                  (try simp only [Bool.not_true, Bool.not_false])
                  refine wp_cond_true rfl ?_
                  refine wl_region ?_
                  refine st (.int .i64 1) rfl rfl (xr_assign (.int .i64 1) rfl rfl) ?_
                  simp only [List.set_cons_zero, List.set_cons_succ]
                  refine wl_end ?_
                  (try simp only [Act.put, List.setIfInBounds_toArray, List.set_cons_zero, List.set_cons_succ])
                  exact hj2463 _ _ _ (1) (fun q_ => List.getD [undef, undef, undef, .bool x2416, (g2560 4), (g2560 5), (g2560 6), (g2560 7), (g2560 8), undef, undef, undef, (g2560 12), (g2560 13), (g2560 14), (g2560 15), (g2560 16), (g2560 17), (g2560 18), (g2560 19), (g2560 20), (g2560 21), (g2560 22), (g2560 23), (g2560 24), (g2560 25), (g2560 26), (g2560 27), (g2560 28), (g2560 29), (g2560 30), (g2560 31), (g2560 32), (g2560 33), (g2560 34), (g2560 35), (g2560 36), .bool true, (g2560 38), (g2560 39), (g2560 40), (g2560 41), (g2560 42), (g2560 43), (g2560 44), (g2560 45), (g2560 46), (g2560 47), (g2560 48), (g2560 49), (g2560 50), (g2560 51), (g2560 52), (g2560 53), (g2560 54), (g2560 55), (g2560 56), (g2560 57), (g2560 58), (g2560 59), (g2560 60), (g2560 61)] q_ undef)  HS2555 (by omega) HJ2556 HJ2557 HJ2558 H
                · rw [if_neg c2564] at H
                  (try rw [(Bool.eq_false_iff.mpr c2564)])
                  (try simp only [Bool.not_true, Bool.not_false])
                  refine wp_cond_false rfl ?_
                  refine wp_seq_k fun K2565 hK2565 => ?_
                  refine wl_region ?_
                  refine st (.bool x2416) rfl rfl (xr_move (.bool x2416) rfl rfl) ?_
                  simp only [List.set_cons_zero, List.set_cons_succ]
                  refine wl_end ?_
                  (try simp only [Act.put, List.setIfInBounds_toArray, List.set_cons_zero, List.set_cons_succ])
                  refine hK2565 _ _ ?_
                  (try clear hK2565 K2565)
                  by_cases c2566 : x2416 = true
                  · rw [if_pos c2566] at H
                    (try rw [c2566])
                    (try simp only [Bool.not_true, Bool.not_false])
                    refine wp_cond_true rfl ?_
                    refine wl_region ?_
                    refine st (.int .i64 3) rfl rfl (xr_assign (.int .i64 3) rfl rfl) ?_
                    simp only [List.set_cons_zero, List.set_cons_succ]
                    refine wl_end ?_
                    (try simp only [Act.put, List.setIfInBounds_toArray, List.set_cons_zero, List.set_cons_succ])
                    exact hj2463 _ _ _ (3) (fun q_ => List.getD [undef, undef, undef, .bool true, (g2560 4), (g2560 5), (g2560 6), (g2560 7), (g2560 8), undef, undef, undef, (g2560 12), (g2560 13), (g2560 14), (g2560 15), (g2560 16), (g2560 17), (g2560 18), (g2560 19), (g2560 20), (g2560 21), (g2560 22), (g2560 23), (g2560 24), (g2560 25), (g2560 26), (g2560 27), (g2560 28), (g2560 29), (g2560 30), (g2560 31), (g2560 32), (g2560 33), (g2560 34), (g2560 35), (g2560 36), .bool false, .bool true, (g2560 39), (g2560 40), (g2560 41), (g2560 42), (g2560 43), (g2560 44), (g2560 45), (g2560 46), (g2560 47), (g2560 48), (g2560 49), (g2560 50), (g2560 51), (g2560 52), (g2560 53), (g2560 54), (g2560 55), (g2560 56), (g2560 57), (g2560 58), (g2560 59), (g2560 60), (g2560 61)] q_ undef)  HS2555 (by omega) HJ2556 HJ2557 HJ2558 H
                  · rw [if_neg c2566] at H
                    (try rw [(Bool.eq_false_iff.mpr c2566)])
                    (try simp only [Bool.not_true, Bool.not_false])
                    refine wp_cond_false rfl ?_
                    refine wp_skip ?_
                    (try simp only [Act.put, List.setIfInBounds_toArray, List.set_cons_zero, List.set_cons_succ])
                    exact hj2463 _ _ _ (0) (fun q_ => List.getD [undef, undef, undef, .bool false, (g2560 4), (g2560 5), (g2560 6), (g2560 7), (g2560 8), undef, undef, undef, (g2560 12), (g2560 13), (g2560 14), (g2560 15), (g2560 16), (g2560 17), (g2560 18), (g2560 19), (g2560 20), (g2560 21), (g2560 22), (g2560 23), (g2560 24), (g2560 25), (g2560 26), (g2560 27), (g2560 28), (g2560 29), (g2560 30), (g2560 31), (g2560 32), (g2560 33), (g2560 34), (g2560 35), (g2560 36), .bool false, .bool false, (g2560 39), (g2560 40), (g2560 41), (g2560 42), (g2560 43), (g2560 44), (g2560 45), (g2560 46), (g2560 47), (g2560 48), (g2560 49), (g2560 50), (g2560 51), (g2560 52), (g2560 53), (g2560 54), (g2560 55), (g2560 56), (g2560 57), (g2560 58), (g2560 59), (g2560 60), (g2560 61)] q_ undef)  HS2555 (by omega) HJ2556 HJ2557 HJ2558 H
            refine wl_region ?_
            refine st (.int .i64 a1) rfl rfl (xr_move (.int .i64 a1) rfl rfl) ?_
            simp only [List.set_cons_zero, List.set_cons_succ]
            refine st (.bool (decide (a1 < 0))) rfl rfl (xr_bin (.int .i64 a1) (.int .i64 0) (.bool (decide (a1 < 0))) rfl rfl rfl (B.lss_i64 a1 0)) ?_
            simp only [List.set_cons_zero, List.set_cons_succ]
            refine st (.bool (decide (a1 < 0))) rfl rfl (xr_move (.bool (decide (a1 < 0))) rfl rfl) ?_
            simp only [List.set_cons_zero, List.set_cons_succ]
            by_cases c2567 : a1 < 0
            · rw [if_pos c2567] at H
              (try rw [(decide_eq_true c2567)])
              (try simp only [Bool.not_true, Bool.not_false])
              refine sk_guard (guard_off 2 false 34 rfl rfl true (by decide) rfl) rfl ?_
              simp only [List.set_cons_zero, List.set_cons_succ]
              refine sk_guard (guard_off 2 false 34 rfl rfl true (by decide) rfl) rfl ?_
              simp only [List.set_cons_zero, List.set_cons_succ]
              refine st (.bool true) rfl rfl (xr_pick true (.bool true) rfl rfl rfl) ?_
              simp only [List.set_cons_zero, List.set_cons_succ]
              refine wl_end ?_
              (try simp only [Act.put, List.setIfInBounds_toArray, List.set_cons_zero, List.set_cons_succ])
              exact hj2552 _ _ _ (true) (fun q_ => List.getD [undef, undef, undef, undef, (g2417 4), (g2417 5), (g2417 6), (g2417 7), (g2417 8), undef, undef, undef, (g2417 12), (g2417 13), (g2417 14), (g2417 15), (g2417 16), (g2417 17), (g2417 18), (g2417 19), (g2417 20), (g2417 21), (g2417 22), .tuple #[.slice A2438 t2430.length cp2439, .int .i64 t2431], v2428, .slice A0 l0.length c0, .int .i64 a1, .slice A2411 x2410.length cp2413, .agg #[.int .i64 a1, .slice A2411 x2410.length cp2413], .tuple #[.slice A2438 t2430.length cp2439, .int .i64 t2431], .slice A2438 t2430.length cp2439, .int .i64 t2431, .int .i64 a1, .bool true, .bool true, undef, undef, undef, (g2417 38), (g2417 39), (g2417 40), (g2417 41), (g2417 42), (g2417 43), (g2417 44), (g2417 45), (g2417 46), (g2417 47), (g2417 48), (g2417 49), (g2417 50), (g2417 51), (g2417 52), (g2417 53), (g2417 54), (g2417 55), (g2417 56), (g2417 57), (g2417 58), (g2417 59), (g2417 60), (g2417 61)] q_ undef)  HS2408 (by omega) HJ2409 HJ2415 HO2440 H
            · rw [if_neg c2567] at H
              (try rw [(decide_eq_false c2567)])
              (try simp only [Bool.not_true, Bool.not_false])
              refine on_guard (guard_on 2 false 34 rfl rfl rfl) ?_
              refine st (.int .i64 a1) rfl rfl (xr_move (.int .i64 a1) rfl rfl) ?_
              simp only [List.set_cons_zero, List.set_cons_succ]
              refine on_guard (guard_on 2 false 34 rfl rfl rfl) ?_
              refine st (.bool (decide (a1 > 255))) rfl rfl (xr_bin (.int .i64 a1) (.int .i64 255) (.bool (decide (a1 > 255))) rfl rfl rfl (B.gtr_i64 a1 255)) ?_
              simp only [List.set_cons_zero, List.set_cons_succ]
              refine st (.bool (decide (a1 > 255))) rfl rfl (xr_pick false (.bool (decide (a1 > 255))) rfl rfl rfl) ?_
              simp only [List.set_cons_zero, List.set_cons_succ]
              refine wl_end ?_
              (try simp only [Act.put, List.setIfInBounds_toArray, List.set_cons_zero, List.set_cons_succ])
              exact hj2552 _ _ _ (decide (a1 > 255)) (fun q_ => List.getD [undef, undef, undef, undef, (g2417 4), (g2417 5), (g2417 6), (g2417 7), (g2417 8), undef, undef, undef, (g2417 12), (g2417 13), (g2417 14), (g2417 15), (g2417 16), (g2417 17), (g2417 18), (g2417 19), (g2417 20), (g2417 21), (g2417 22), .tuple #[.slice A2438 t2430.length cp2439, .int .i64 t2431], v2428, .slice A0 l0.length c0, .int .i64 a1, .slice A2411 x2410.length cp2413, .agg #[.int .i64 a1, .slice A2411 x2410.length cp2413], .tuple #[.slice A2438 t2430.length cp2439, .int .i64 t2431], .slice A2438 t2430.length cp2439, .int .i64 t2431, .int .i64 a1, .bool false, .bool false, .int .i64 a1, .bool (decide (a1 > 255)), undef, (g2417 38), (g2417 39), (g2417 40), (g2417 41), (g2417 42), (g2417 43), (g2417 44), (g2417 45), (g2417 46), (g2417 47), (g2417 48), (g2417 49), (g2417 50), (g2417 51), (g2417 52), (g2417 53), (g2417 54), (g2417 55), (g2417 56), (g2417 57), (g2417 58), (g2417 59), (g2417 60), (g2417 61)] q_ undef)  HS2408 (by omega) HJ2409 HJ2415 HO2440 H
        refine wp_seq_k fun K2568 hK2568 => ?_
        refine wl_region ?_
        refine st (.bool a3) rfl rfl (xr_move (.bool a3) rfl rfl) ?_
        simp only [List.set_cons_zero, List.set_cons_succ]
        refine wl_end ?_
        (try simp only [Act.put, List.setIfInBounds_toArray, List.set_cons_zero, List.set_cons_succ])
        refine hK2568 _ _ ?_
        (try clear hK2568 K2568)
        by_cases c2569 : a3 = true
        · rw [if_pos c2569] at H
          (try rw [c2569])
          (try simp only [Bool.not_true, Bool.not_false])
          refine wp_cond_true rfl ?_
          refine wl_region ?_
          by_cases c2570 : (65537 : Int).toNat * 1 ≤ 281474976710656
          · rw [if_pos c2570] at H
            obtain ⟨y2571, A2572, H⟩ := Option.bind_eq_some_iff.mp H
            (try dsimp only at H)
            refine Own.make (Kd.int .u8) (C := C2374) (i := 11) rfl 5 rfl 23 _ _ rfl 65537 rfl rfl Try.underlying23 (.int .u8 0) 1 info5 rfl (by decide) (by decide) 0 (fun _ _ => rfl) (by first | decide | assumption | omega) (by first | decide | assumption | omega) (Option.some.inj A2572) ?_
            intro A2573 cp2574 w2575 C2576 HO2577 HC2578 hs2579
            replace HJ2377 := HJ2377.thru hs2579 rfl
            replace HS2376 := HS2376.trans hs2579 hc rfl
            (try simp only [Act.put, List.setIfInBounds_toArray, List.set_cons_zero, List.set_cons_succ])
            refine st (.slice A2573 y2571.length cp2574) rfl rfl (xr_assign (.slice A2573 y2571.length cp2574) rfl rfl) ?_
            simp only [List.set_cons_zero, List.set_cons_succ]
            refine wl_end ?_
            replace HJ2377 := Ft.recol (a := 11) (b := 0) HJ2377 (.inl rfl)
            have HR2580 := Ft.recolor (a := 11) (b := 0) (HO2577.ft) [0] rfl
            replace HS2376 := Step.recol (a := 11) (b := 0) HS2376 hc (by decide)
            (try simp only [Act.put, List.setIfInBounds_toArray, List.set_cons_zero, List.set_cons_succ])
            exact hj2405 _ _ _ (true) (A2573) (y2571.length) (cp2574) (y2571) (fun q_ => List.getD [undef, undef, undef, undef, (g2380 4), (g2380 5), (g2380 6), (g2380 7), (g2380 8), (g2380 9), (g2380 10), (g2380 11), (g2380 12), (g2380 13), (g2380 14), (g2380 15), (g2380 16), (g2380 17), (g2380 18), .bool false, (g2380 20), .bool true, .slice A2573 y2571.length cp2574, (g2380 23), (g2380 24), (g2380 25), (g2380 26), (g2380 27), (g2380 28), (g2380 29), (g2380 30), (g2380 31), (g2380 32), (g2380 33), (g2380 34), (g2380 35), (g2380 36), (g2380 37), (g2380 38), (g2380 39), (g2380 40), (g2380 41), (g2380 42), (g2380 43), (g2380 44), (g2380 45), (g2380 46), (g2380 47), (g2380 48), (g2380 49), (g2380 50), (g2380 51), (g2380 52), (g2380 53), (g2380 54), (g2380 55), (g2380 56), (g2380 57), (g2380 58), (g2380 59), (g2380 60), (g2380 61)] q_ undef)  HS2376 (by omega) HJ2377 HR2580 HC2578 H
          · rw [if_neg c2570] at H
            exact absurd H (by simp)
        · rw [if_neg c2569] at H
          (try rw [(Bool.eq_false_iff.mpr c2569)])
          (try simp only [Bool.not_true, Bool.not_false])
          refine wp_cond_false rfl ?_
          refine wp_skip ?_
          (try simp only [Act.put, List.setIfInBounds_toArray, List.set_cons_zero, List.set_cons_succ])
          exact hj2405 _ _ _ (false) (A2) (l2.length) (c2) (l2) (fun q_ => List.getD [undef, undef, undef, undef, (g2380 4), (g2380 5), (g2380 6), (g2380 7), (g2380 8), (g2380 9), (g2380 10), (g2380 11), (g2380 12), (g2380 13), (g2380 14), (g2380 15), (g2380 16), (g2380 17), (g2380 18), .bool false, (g2380 20), .bool false, (g2380 22), (g2380 23), (g2380 24), (g2380 25), (g2380 26), (g2380 27), (g2380 28), (g2380 29), (g2380 30), (g2380 31), (g2380 32), (g2380 33), (g2380 34), (g2380 35), (g2380 36), (g2380 37), (g2380 38), (g2380 39), (g2380 40), (g2380 41), (g2380 42), (g2380 43), (g2380 44), (g2380 45), (g2380 46), (g2380 47), (g2380 48), (g2380 49), (g2380 50), (g2380 51), (g2380 52), (g2380 53), (g2380 54), (g2380 55), (g2380 56), (g2380 57), (g2380 58), (g2380 59), (g2380 60), (g2380 61)] q_ undef)  HS2376 (by omega) HJ2377 HJ2378 HCP2 H
  refine wl_region ?_
  refine st (.slice A0 l0.length c0) rfl rfl (xr_move (.slice A0 l0.length c0) rfl rfl) ?_
  simp only [List.set_cons_zero, List.set_cons_succ]
  refine st (.int .i64 (l0.length : Int)) rfl rfl (xr_builtin #[.slice A0 l0.length c0] (.int .i64 (l0.length : Int)) rfl (by simp only [List.map_toArray, List.map_cons, List.map_nil]; first | done | rfl) (by first | rfl | (go_simp; done) | (go_simp; rfl) | (go_simp; exact i64_w _) | (go_simp; exact i32_w _))) ?_
  simp only [List.set_cons_zero, List.set_cons_succ]
  refine st (.bool (decide ((l0.length : Int) > 1000))) rfl rfl (xr_bin (.int .i64 (l0.length : Int)) (.int .i64 1000) (.bool (decide ((l0.length : Int) > 1000))) rfl rfl rfl (B.gtr_i64 (l0.length : Int) 1000)) ?_
  simp only [List.set_cons_zero, List.set_cons_succ]
  refine st (.bool (decide ((l0.length : Int) > 1000))) rfl rfl (xr_move (.bool (decide ((l0.length : Int) > 1000))) rfl rfl) ?_
  simp only [List.set_cons_zero, List.set_cons_succ]
  by_cases c2581 : (l0.length : Int) > 1000
  · rw [if_pos c2581] at H
    (try rw [(decide_eq_true c2581)])
    (try simp only [Bool.not_true, Bool.not_false])
    refine sk_guard (guard_off 3 false 15 rfl rfl true (by decide) rfl) rfl ?_
    simp only [List.set_cons_zero, List.set_cons_succ]
    refine sk_guard (guard_off 3 false 15 rfl rfl true (by decide) rfl) rfl ?_
    simp only [List.set_cons_zero, List.set_cons_succ]
    refine sk_guard (guard_off 3 false 15 rfl rfl true (by decide) rfl) rfl ?_
    simp only [List.set_cons_zero, List.set_cons_succ]
    refine st (.bool true) rfl rfl (xr_pick true (.bool true) rfl rfl rfl) ?_
    simp only [List.set_cons_zero, List.set_cons_succ]
    refine wl_end ?_
    (try simp only [Act.put, List.setIfInBounds_toArray, List.set_cons_zero, List.set_cons_succ])
    exact hj2373 _ _ _ (true) (fun q_ => List.getD [undef, undef, undef, undef, undef, undef, undef, undef, .bool false, undef, undef, undef, .slice A0 l0.length c0, .int .i64 (l0.length : Int), .bool true, .bool true, undef, undef, undef, undef, undef, undef, undef, undef, undef, undef, undef, undef, undef, undef, undef, undef, undef, undef, undef, undef, undef, undef, undef, undef, undef, undef, undef, undef, undef, undef, undef, undef, undef, undef, undef, undef, undef, undef, undef, undef, undef, undef, undef, undef, undef, undef] q_ undef)  HS (by omega) HP0 HP2 H
  · rw [if_neg c2581] at H
    (try rw [(decide_eq_false c2581)])
    (try simp only [Bool.not_true, Bool.not_false])
    refine on_guard (guard_on 3 false 15 rfl rfl rfl) ?_
    refine st (.slice A2 l2.length c2) rfl rfl (xr_move (.slice A2 l2.length c2) rfl rfl) ?_
    simp only [List.set_cons_zero, List.set_cons_succ]
    refine on_guard (guard_on 3 false 15 rfl rfl rfl) ?_
    refine st (.int .i64 (l2.length : Int)) rfl rfl (xr_builtin #[.slice A2 l2.length c2] (.int .i64 (l2.length : Int)) rfl (by simp only [List.map_toArray, List.map_cons, List.map_nil]; first | done | rfl) (by first | rfl | (go_simp; done) | (go_simp; rfl) | (go_simp; exact i64_w _) | (go_simp; exact i32_w _))) ?_
    simp only [List.set_cons_zero, List.set_cons_succ]
    refine on_guard (guard_on 3 false 15 rfl rfl rfl) ?_
    refine st (.bool (decide ((l2.length : Int) > 1000))) rfl rfl (xr_bin (.int .i64 (l2.length : Int)) (.int .i64 1000) (.bool (decide ((l2.length : Int) > 1000))) rfl rfl rfl (B.gtr_i64 (l2.length : Int) 1000)) ?_
    simp only [List.set_cons_zero, List.set_cons_succ]
    refine st (.bool (decide ((l2.length : Int) > 1000))) rfl rfl (xr_pick false (.bool (decide ((l2.length : Int) > 1000))) rfl rfl rfl) ?_
    simp only [List.set_cons_zero, List.set_cons_succ]
    refine wl_end ?_
    (try simp only [Act.put, List.setIfInBounds_toArray, List.set_cons_zero, List.set_cons_succ])
    exact hj2373 _ _ _ (decide ((l2.length : Int) > 1000)) (fun q_ => List.getD [undef, undef, undef, undef, undef, undef, undef, undef, .bool false, undef, undef, undef, .slice A0 l0.length c0, .int .i64 (l0.length : Int), .bool false, .bool false, .slice A2 l2.length c2, .int .i64 (l2.length : Int), .bool (decide ((l2.length : Int) > 1000)), undef, undef, undef, undef, undef, undef, undef, undef, undef, undef, undef, undef, undef, undef, undef, undef, undef, undef, undef, undef, undef, undef, undef, undef, undef, undef, undef, undef, undef, undef, undef, undef, undef, undef, undef, undef, undef, undef, undef, undef, undef, undef, undef] q_ undef)  HS (by omega) HP0 HP2 H
/-- THE ONE PURE STATEMENT of blazonlaw04_RecordPuts. -/
def blazonlaw04_RecordPuts.Pure : Prop := ∀ (l0 : List Int) (a1 : Int) (l2 : List Int) (a3 : Bool), l0.length ≤ maxLen → l0.length * 1 ≤ 140737488351232 → (∀ x ∈ l0, (Lit.int .u8 x).wf = true) → (Lit.int .i64 a1).wf = true → l2.length ≤ maxLen → l2.length * 1 ≤ 140737488351232 → (∀ x ∈ l2, (Lit.int .u8 x).wf = true) → ∃ k, blazonlaw04_RecordPuts.f k l0 a1 l2 a3 = some true
theorem blazonlaw04_RecordPuts.walk (P : blazonlaw04_RecordPuts.Pure) (a0 : Option Addr) (len0 cap0 : Nat) (z0 : List Int) (a1 : Int) (a2 : Option Addr) (len2 cap2 : Nat) (z2 : List Int) (a3 : Bool) (w : World) (w0 : (a0 = none ∧ len0 = 0 ∧ cap0 = 0 ∧ z0 = []) ∨ ∃ x, a0 = some x ∧ len0 ≤ cap0 ∧ cap0 ≤ maxLen ∧ z0.length = cap0 ∧ (∀ i, i < z0.length → w.cell? (x.add i) = some (.int .u8 (z0.getD i 0))) ∧ ∀ n ∈ z0, (Lit.int .u8 n).wf = true) (y0 : len0 * 1 ≤ 140737488351232) (w1 : (Lit.int .i64 a1).wf = true) (w2 : (a2 = none ∧ len2 = 0 ∧ cap2 = 0 ∧ z2 = []) ∨ ∃ x, a2 = some x ∧ len2 ≤ cap2 ∧ cap2 ≤ maxLen ∧ z2.length = cap2 ∧ (∀ i, i < z2.length → w.cell? (x.add i) = some (.int .u8 (z2.getD i 0))) ∧ ∀ n ∈ z2, (Lit.int .u8 n).wf = true) (y2 : len2 * 1 ≤ 140737488351232) :
    Calls Try.prog 12 #[.slice a0 len0 cap0, .int .i64 a1, .slice a2 len2 cap2, .bool a3] w fun e w' => e = .returned (.bool true) ∧ Below w.heap.size w w' := by
  obtain ⟨l0, rfl, hr0, hm0, hw0, hc0⟩ := ReadsInt.ofRowC w0
  obtain ⟨l2, rfl, hr2, hm2, hw2, hc2⟩ := ReadsInt.ofRowC w2
  obtain ⟨k, h⟩ := P l0 a1 l2 a3 hm0 y0 hw0 w1 hm2 y2 hw2
  refine (blazonlaw04_RecordPuts.calls k _ _ l0 a1 _ _ l2 a3 true (fun _ => 0) w (fun _ => (by decide : (0 : Nat) < 10)) (Ft.of_C (Kd.heap_int .u8) (Kd.C_of_reads (d := (0 : Int)) (h1 := fun _ => rfl) hr0)) hc0 (Ft.of_C (Kd.heap_int .u8) (Kd.C_of_reads (d := (0 : Int)) (h1 := fun _ => rfl) hr2)) hc2 h).mono ?_
  rintro e w' ⟨c', rfl, hs⟩
  exact ⟨rfl, hs.below (fun _ => by simp)⟩

/-! ### blazonref01_Lent: function 23 -/
def blazonref01_Lent.g (l0 : List Int) : Option (List Int) := (some ([] : List Int)).bind fun y56 => (if y56.length + l0.length < 140737488355328 then ((some (y56 ++ l0 : List Int)).bind fun y66 => ((some ([77, 78, 79] : List Int)).bind fun y76 => (if y66.length + y76.length < 140737488355328 then ((some (y66 ++ y76 : List Int)).bind fun y87 => (if 0 ≤ (l0.length : Int) then (if (l0.length : Int) ≤ (y87.length : Int) then ((some (y87.take ((l0.length : Int) : Int).toNat : List Int)).bind fun y99 => (some y99)) else (none)) else (none))) else (none)))) else (none))
set_option maxHeartbeats 2000000 in
set_option maxRecDepth 100000 in
theorem blazonref01_Lent.calls_g (A0 : Option Addr) (c0 : Nat) (l0 : List Int) (r : List Int) (c : Nat → Nat) (w : World) (hc : ∀ k, c k < 10) (HP0 : Ft c [0] w (fun w_ => (Kd.int .u8).C w_ A0 l0.length l0)) (HCP0 : l0.length ≤ c0) (H : blazonref01_Lent.g l0 = some r) :
    Calls Try.prog 23 #[.slice A0 l0.length c0] w fun e w' => ∃ (c' : Nat → Nat) (A_r : Option Addr) (c_r : Nat), e = .returned (.slice A_r r.length c_r) ∧ Step c w c' w' [] ∧ Ft c' [0] w' (fun w_ => (Kd.int .u8).C w_ A_r r.length r) ∧ r.length ≤ c_r ∧ Ft c' [0] w' (fun w_ => (Kd.int .u8).C w_ A_r (r ++ [77, 78, 79]).length (r ++ [77, 78, 79])) ∧ (r ++ [77, 78, 79]).length ≤ c_r := by
  unfold blazonref01_Lent.g at H
  have HS := Step.refl c w []
  go_enter Try.func23, Try.ntmps23
  refine wp_seq_k fun K54 hK54 => ?_
  refine wl_region ?_
  refine st (.slice none 0 0) rfl rfl (xr_assign (.slice none 0 0) rfl rfl) ?_
  simp only [List.set_cons_zero, List.set_cons_succ]
  refine wl_end ?_
  (try simp only [Act.put, List.setIfInBounds_toArray, List.set_cons_zero, List.set_cons_succ])
  refine hK54 _ _ ?_
  (try clear hK54 K54)
  refine wp_seq_k fun K55 hK55 => ?_
  refine wl_region ?_
  obtain ⟨y56, A57, H⟩ := Option.bind_eq_some_iff.mp H
  (try dsimp only at H)
  refine Own.lit (Kd.int .u8) (C := c) (i := 11) rfl 5 rfl (xs := ([] : List Int)) (inner := []) (by first | (go_simp; done) | (go_simp; rfl)) (Reps.none _ _) (by simp only [List.length_cons, List.length_nil]; omega) (Option.some.inj A57) ?_
  intro A58 cp59 w60 C61 HO62 HC63 hs64
  replace HP0 := HP0.thru hs64 rfl
  replace HS := HS.trans hs64 hc rfl
  (try simp only [Act.put, List.setIfInBounds_toArray, List.set_cons_zero, List.set_cons_succ])
  refine st (.slice A0 l0.length c0) rfl rfl (xr_move (.slice A0 l0.length c0) rfl rfl) ?_
  simp only [List.set_cons_zero, List.set_cons_succ]
  by_cases c65 : y56.length + l0.length < 140737488355328
  · rw [if_pos c65] at H
    obtain ⟨y66, A67, H⟩ := Option.bind_eq_some_iff.mp H
    (try dsimp only at H)
    refine Own.append_rows (Kd.int .u8) (C := C61) (i := 11) rfl (.tmp 4) (.tmp 5) 23 5 (.int .u8 0) 1 rfl Try.underlying23 info5 rfl (by decide) (by decide) (.slice A58 y56.length cp59) y56 l0 A0 l0.length c0 rfl rfl HO62 HP0 (by decide) (by omega) (Option.some.inj A67) ?_
    intro A68 cp69 w70 C71 HO72 HC73 hs74
    replace HP0 := HP0.thru hs74 rfl
    replace HS := HS.trans hs74 hc rfl
    (try simp only [Act.put, List.setIfInBounds_toArray, List.set_cons_zero, List.set_cons_succ])
    refine st (.slice A68 y66.length cp69) rfl rfl (xr_assign (.slice A68 y66.length cp69) rfl rfl) ?_
    simp only [List.set_cons_zero, List.set_cons_succ]
    refine wl_end ?_
    (try simp only [Act.put, List.setIfInBounds_toArray, List.set_cons_zero, List.set_cons_succ])
    refine hK55 _ _ ?_
    (try clear hK55 K55)
    refine wp_seq_k fun K75 hK75 => ?_
    refine wl_region ?_
    refine st (.slice A68 y66.length cp69) rfl rfl (xr_move (.slice A68 y66.length cp69) rfl rfl) ?_
    simp only [List.set_cons_zero, List.set_cons_succ]
    obtain ⟨y76, A77, H⟩ := Option.bind_eq_some_iff.mp H
    (try dsimp only at H)
    refine Own.lit (Kd.int .u8) (C := C71) (i := 12) rfl 5 rfl (xs := [77, 78, 79]) (inner := [.int .u8 77, .int .u8 78, .int .u8 79]) (by first | (go_simp; done) | (go_simp; rfl)) (reps_cons (fk_int .u8 _ _ 77) rfl (reps_cons (fk_int .u8 _ _ 78) rfl (reps_cons (fk_int .u8 _ _ 79) rfl (Reps.none _ _)))) (by simp only [List.length_cons, List.length_nil]; omega) (Option.some.inj A77) ?_
    intro A78 cp79 w80 C81 HO82 HC83 hs84
    replace HP0 := HP0.thru hs84 rfl
    replace HO72 := HO72.thru hs84 rfl
    replace HS := HS.trans hs84 hc rfl
    (try simp only [Act.put, List.setIfInBounds_toArray, List.set_cons_zero, List.set_cons_succ])
    replace HP0 := Ft.recol (a := 12) (b := 0) HP0 (.inl rfl)
    replace HO72 := Own.recol (a := 12) (b := 0) HO72 (by decide) (by decide)
    have HR85 := Ft.recolor (a := 12) (b := 0) (HO82.ft) [0] rfl
    replace HS := Step.recol (a := 12) (b := 0) HS hc (by decide)
    by_cases c86 : y66.length + y76.length < 140737488355328
    · rw [if_pos c86] at H
      obtain ⟨y87, A88, H⟩ := Option.bind_eq_some_iff.mp H
      (try dsimp only at H)
      refine Own.append_rows (Kd.int .u8) (C := (recol C81 12 0)) (i := 11) rfl (.tmp 7) (.tmp 8) 23 5 (.int .u8 0) 1 rfl Try.underlying23 info5 rfl (by decide) (by decide) (.slice A68 y66.length cp69) y66 y76 A78 y76.length cp79 rfl rfl HO72 HR85 (by decide) (by omega) (Option.some.inj A88) ?_
      intro A89 cp90 w91 C92 HO93 HC94 hs95
      replace HP0 := HP0.thru hs95 rfl
      replace HS := HS.trans hs95 hc rfl
      (try simp only [Act.put, List.setIfInBounds_toArray, List.set_cons_zero, List.set_cons_succ])
      refine st (.slice A89 y87.length cp90) rfl rfl (xr_assign (.slice A89 y87.length cp90) rfl rfl) ?_
      simp only [List.set_cons_zero, List.set_cons_succ]
      refine wl_end ?_
      (try simp only [Act.put, List.setIfInBounds_toArray, List.set_cons_zero, List.set_cons_succ])
      refine hK75 _ _ ?_
      (try clear hK75 K75)
      refine wp_seq_k fun K96 hK96 => ?_
      refine wl_region ?_
      refine st (.slice A89 y87.length cp90) rfl rfl (xr_move (.slice A89 y87.length cp90) rfl rfl) ?_
      simp only [List.set_cons_zero, List.set_cons_succ]
      refine st (.slice A0 l0.length c0) rfl rfl (xr_move (.slice A0 l0.length c0) rfl rfl) ?_
      simp only [List.set_cons_zero, List.set_cons_succ]
      refine st (.int .i64 (l0.length : Int)) rfl rfl (xr_builtin #[.slice A0 l0.length c0] (.int .i64 (l0.length : Int)) rfl (by simp only [List.map_toArray, List.map_cons, List.map_nil]; first | done | rfl) (by first | rfl | (go_simp; done) | (go_simp; rfl) | (go_simp; exact i64_w _) | (go_simp; exact i32_w _))) ?_
      simp only [List.set_cons_zero, List.set_cons_succ]
      by_cases c97 : 0 ≤ (l0.length : Int)
      · rw [if_pos c97] at H
        by_cases c98 : (l0.length : Int) ≤ (y87.length : Int)
        · rw [if_pos c98] at H
          obtain ⟨y99, A100, H⟩ := Option.bind_eq_some_iff.mp H
          (try dsimp only at H)
          obtain ⟨iz106, hiz106, _, hzz106, _⟩ := info_parts info5
          obtain ⟨hr105, HR103, HC104⟩ := cutTo (t := 23) (Kd.int .u8) 5 .i64 Try.underlying23 hiz106 (HO93.ft) HC94 (by first | assumption | omega | decide) (by first | assumption | omega | decide) (Option.some.inj A100)
          refine st (.slice A89 y99.length cp90) rfl rfl (xr_slice (.slice A89 y87.length cp90) none (some (.int .i64 (l0.length : Int))) none (.slice A89 y99.length cp90) rfl rfl rfl rfl rfl (hr105 _)) ?_
          simp only [List.set_cons_zero, List.set_cons_succ]
          clear hr105 hiz106 hzz106
          refine st (.slice A89 y99.length cp90) rfl rfl (xr_assign (.slice A89 y99.length cp90) rfl rfl) ?_
          simp only [List.set_cons_zero, List.set_cons_succ]
          refine wl_end ?_
          (try simp only [Act.put, List.setIfInBounds_toArray, List.set_cons_zero, List.set_cons_succ])
          refine hK96 _ _ ?_
          (try clear hK96 K96)
          refine wp_ret ?_
          (try simp only [Exit.inBlock, Exit.then, Exit.noGoto])
          (try simp only [Act.put, List.setIfInBounds_toArray, List.set_cons_zero, List.set_cons_succ])
          replace HP0 := Ft.recol (a := 11) (b := 0) HP0 (.inl rfl)
          replace HR103 := Ft.recolor (a := 11) (b := 0) HR103 [0] rfl
          have HR107 := Ft.recolor (a := 11) (b := 0) (HO93.ft) [0] rfl
          replace HS := Step.recol (a := 11) (b := 0) HS hc (by decide)
          obtain rfl := Option.some.inj H
          refine bodyPost_ret (results_tmp rfl _ _ _) rfl ?_
          have e99 : y99 ++ [77, 78, 79] = y87 := by
            have e1 := Option.some.inj A57
            have e2 := Option.some.inj A67
            have e3 := Option.some.inj A77
            have e4 := Option.some.inj A88
            have e5 := Option.some.inj A100
            rw [← e5, ← e4, ← e3, ← e2, ← e1]; simp
          rw [e99]
          exact ⟨_, A89, cp90, rfl, HS, HR103, HC104, HR107, HC94⟩
        · rw [if_neg c98] at H
          exact absurd H (by simp)
      · rw [if_neg c97] at H
        exact absurd H (by simp)
    · rw [if_neg c86] at H
      exact absurd H (by simp)
  · rw [if_neg c65] at H
    exact absurd H (by simp)
def blazonref01_Lent.f (l0 : List Int) : Option (List Int) := if l0.length < 140737488355325 then some l0 else none
theorem blazonref01_Lent.calls (A0 : Option Addr) (c0 : Nat) (l0 : List Int) (r : List Int) (c : Nat → Nat) (w : World) (hc : ∀ k, c k < 10) (HP0 : Ft c [0] w (fun w_ => (Kd.int .u8).C w_ A0 l0.length l0)) (HCP0 : l0.length ≤ c0) (H : blazonref01_Lent.f l0 = some r) :
    Calls Try.prog 23 #[.slice A0 l0.length c0] w fun e w' => ∃ (c' : Nat → Nat) (A_r : Option Addr) (c_r : Nat), e = .returned (.slice A_r r.length c_r) ∧ Step c w c' w' [] ∧ Ft c' [0] w' (fun w_ => (Kd.int .u8).C w_ A_r r.length r) ∧ r.length ≤ c_r ∧ Ft c' [0] w' (fun w_ => (Kd.int .u8).C w_ A_r (r ++ [77, 78, 79]).length (r ++ [77, 78, 79])) ∧ (r ++ [77, 78, 79]).length ≤ c_r := by
  refine blazonref01_Lent.calls_g A0 c0 l0 r c w hc HP0 HCP0 ?_
  unfold blazonref01_Lent.f at H
  by_cases e1 : l0.length < 140737488355325
  · rw [if_pos e1] at H
    obtain rfl := Option.some.inj H
    unfold blazonref01_Lent.g
    simp only [Option.bind_some, List.nil_append, List.length_nil, Nat.zero_add, List.length_cons]
    rw [if_pos (by omega), if_pos (by omega), if_pos (by omega), if_pos (by simp only [List.length_append, List.length_cons, List.length_nil]; omega)]
    simp
  · rw [if_neg e1] at H
    cases H

end Go.Proofs.Ytbpagdgbehefkaa.PRec
