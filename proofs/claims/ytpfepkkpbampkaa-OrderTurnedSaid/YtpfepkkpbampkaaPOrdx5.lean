-- By cprint.py, a program of this work. Lean checks it.
import Derived.Test.YtpfepkkpbampkaaPOrdx0
import Derived.Test.YtpfepkkpbampkaaPOrdx1
import Derived.Test.YtpfepkkpbampkaaPOrdx4
namespace Go.Proofs.Ytpfepkkpbampkaa.POrd
open Go.RowKit Go.Proofs.YtpfepkkpbampkaaW.PrintWords Go.Proofs.YtpfepkkpbampkaaW.PrintLast Go.Proofs.YtpfepkkpbampkaaW.PrintMore
set_option linter.unusedVariables false
set_option linter.unusedSimpArgs false

/-! ### blazonlaw13_OrderFull: function 3 -/
mutual
def blazonlaw13_OrderFull.j0 : Nat → Int → ByteArray → (List (S25)) → Int → Bool → Bool → Option (Bool)
  | 0, _, _, _, _, _, _ => none
  | k + 1, a0, t6345, x6323, x6329, x6366, x6368 => if x6368 = true then ((blazonlaw13_word.f (wrap64 (x6329 - 1))).bind fun t6375 => ((blazonlaw13_word.f x6329).bind fun t6381 => (if x6323.length < 3518437208883 then ((some (x6323 ++ [(⟨t6375, t6381, 0⟩ : S25)] : List (S25))).bind fun y6391 => (blazonlaw13_OrderFull.l0 k a0 x6366 y6391 (wrap64 (x6329 + 1)))) else (none)))) else (if x6323.length < 3518437208883 then ((some (x6323 ++ [(⟨t6345, (⟨#[]⟩ : ByteArray), 0⟩ : S25)] : List (S25))).bind fun y6401 => (blazonlaw13_OrderFull.l0 k a0 x6366 y6401 (wrap64 (x6329 + 1)))) else (none))
def blazonlaw13_OrderFull.l0 : Nat → Int → Bool → (List (S25)) → Int → Option (Bool)
  | 0, _, _, _, _ => none
  | k + 1, a0, x6322, x6323, x6329 => if x6329 < (Int.tmod (wrap64 (a0)) 70) then ((blazonlaw13_word.f x6329).bind fun t6345 => (if x6322 = true then (blazonlaw13_OrderFull.j0 k a0 t6345 x6323 x6329 true (decide (x6329 > 0))) else (blazonlaw13_OrderFull.j0 k a0 t6345 x6323 x6329 false false))) else ((order_New.f k x6323).bind fun bt6413 => (if (Int.tmod (wrap64 (a0)) 70) > 64 then (onOpt bt6413.1 (if bt6413.2.1 = 64 then (if bt6413.2.2 = 8 then ((blazonlaw13_awake.f k).bind fun t6430 => (some t6430)) else (some false)) else (some false)) (fun o6427 => (some false))) else (if bt6413.2.2 = 0 then ((order_Order_Len.f bt6413.1).bind fun t6443 => (if t6443 = (Int.tmod (wrap64 (a0)) 70) then (if (Int.tmod (wrap64 (a0)) 70) = 0 then ((blazonlaw13_awake.f k).bind fun t6451 => (some t6451)) else ((order_Order_Most.f bt6413.1 0 (wrap64 ((Int.tmod (wrap64 (a0)) 70) - 1))).bind fun t6457 => (if x6322 = true then (if t6457 = true then ((blazonlaw13_awake.f k).bind fun t6465 => (some t6465)) else (some false)) else (if t6457 = (decide ((Int.tmod (wrap64 (a0)) 70) = 1)) then ((blazonlaw13_awake.f k).bind fun t6472 => (some t6472)) else (some false))))) else (some false))) else (some false))))
end
def blazonlaw13_OrderFull.f (k : Nat) (a0 : Int) (a1 : Bool) : Option (Bool) := blazonlaw13_OrderFull.l0 k a0 a1 ([] : List (S25)) 0

set_option maxHeartbeats 2000000 in
set_option maxRecDepth 100000 in
theorem blazonlaw13_OrderFull.calls (k : Nat) (a0 : Int) (a1 : Bool) (r : Bool) (c : Nat → Nat) (w : World) (hc : ∀ k, c k < 10)  (H : blazonlaw13_OrderFull.f k a0 a1 = some r) :
    Calls Try.prog 3 #[.int .u8 a0, .bool a1] w fun e w' => ∃ (c' : Nat → Nat) , e = .returned (.bool r) ∧ Step c w c' w' [] := by
  unfold blazonlaw13_OrderFull.f at H
  have HS := Step.refl c w []
  go_enter Try.func3, Try.ntmps3
  refine wp_seq_k fun K5915 hK5915 => ?_
  refine wl_region ?_
  refine st (.bool false) rfl rfl (xr_assign (.bool false) rfl rfl) ?_
  simp only [ls0, ls1]
  refine wl_end ?_
  (try simp only [Act.put, List.setIfInBounds_toArray, ls0, ls1])
  refine hK5915 _ _ ?_
  (try clear hK5915 K5915)
  refine wp_seq_k fun K5916 hK5916 => ?_
  refine wl_region ?_
  refine st (.int .u8 a0) rfl rfl (xr_move (.int .u8 a0) rfl rfl) ?_
  simp only [ls0, ls1]
  refine st (.int .i64 (wrap64 (a0))) rfl rfl (xr_conv (.int .u8 a0) (.int .i64 (wrap64 (a0))) rfl rfl (by first | rfl | (go_simp; done) | (go_simp; rfl) | (go_simp; exact i64_w _) | (go_simp; exact i32_w _))) ?_
  simp only [ls0, ls1]
  refine st (.int .i64 (Int.tmod (wrap64 (a0)) 70)) rfl rfl (xr_bin (.int .i64 (wrap64 (a0))) (.int .i64 70) (.int .i64 (Int.tmod (wrap64 (a0)) 70)) rfl rfl rfl (B.rem_i64 (wrap64 (a0)) 70 (by decide))) ?_
  simp only [ls0, ls1]
  refine st (.int .i64 (Int.tmod (wrap64 (a0)) 70)) rfl rfl (xr_assign (.int .i64 (Int.tmod (wrap64 (a0)) 70)) rfl rfl) ?_
  simp only [ls0, ls1]
  refine wl_end ?_
  (try simp only [Act.put, List.setIfInBounds_toArray, ls0, ls1])
  refine hK5916 _ _ ?_
  (try clear hK5916 K5916)
  refine wp_seq_k fun K5917 hK5917 => ?_
  refine wl_region ?_
  refine st (.slice none 0 0) rfl rfl (xr_assign (.slice none 0 0) rfl rfl) ?_
  simp only [ls0, ls1]
  refine wl_end ?_
  (try simp only [Act.put, List.setIfInBounds_toArray, ls0, ls1])
  refine hK5917 _ _ ?_
  (try clear hK5917 K5917)
  refine wp_seq_k fun K5918 hK5918 => ?_
  refine wp_seq_k fun K6165 hK6165 => ?_
  refine wl_region ?_
  refine st (.int .i64 0) rfl rfl (xr_assign (.int .i64 0) rfl rfl) ?_
  simp only [ls0, ls1]
  refine wl_end ?_
  (try simp only [Act.put, List.setIfInBounds_toArray, ls0, ls1])
  refine hK6165 _ _ ?_
  (try clear hK6165 K6165)
  refine wp_block ?_
  (try simp only [Act.put, List.setIfInBounds_toArray, ls0, ls1])
  refine wp_looped (looped_ind (fun kq6333 a_ w6332 => ∃ (C6331 : Nat → Nat) (x6322 : Bool) (x6329 : Int) (A6324 : Option Addr) (n6325 cp6326 : Nat) (x6323 : List (S25)) (g6330 : Nat → Value), a_ = ⟨#[(g6330 0), .bool x6322, (g6330 2), (g6330 3), (g6330 4), .int .i64 (Int.tmod (wrap64 (a0)) 70), .slice A6324 n6325 cp6326, .int .i64 x6329, (g6330 8), (g6330 9), (g6330 10), (g6330 11), (g6330 12), (g6330 13), (g6330 14), (g6330 15), (g6330 16), (g6330 17), (g6330 18), (g6330 19), (g6330 20), (g6330 21), (g6330 22), (g6330 23), (g6330 24), (g6330 25), (g6330 26), (g6330 27), (g6330 28), (g6330 29), (g6330 30), (g6330 31), (g6330 32), (g6330 33), (g6330 34), (g6330 35), (g6330 36), (g6330 37), (g6330 38), (g6330 39), (g6330 40), (g6330 41), (g6330 42), (g6330 43), (g6330 44), (g6330 45), (g6330 46), (g6330 47), (g6330 48), (g6330 49), (g6330 50), (g6330 51), (g6330 52), (g6330 53), (g6330 54), (g6330 55), (g6330 56), (g6330 57), (g6330 58), (g6330 59), (g6330 60), (g6330 61), (g6330 62), (g6330 63), (g6330 64), (g6330 65), (g6330 66), (g6330 67), (g6330 68), (g6330 69), (g6330 70), (g6330 71), (g6330 72), (g6330 73), (g6330 74), (g6330 75), (g6330 76), (g6330 77), (g6330 78), (g6330 79), (g6330 80), (g6330 81), (g6330 82), (g6330 83), (g6330 84), (g6330 85)], []⟩ ∧ Step c w C6331 w6332 [] ∧ kq6333 ≤ k ∧ (Own C6331 11 w6332 k25 25 (.slice A6324 n6325 cp6326) x6323) ∧ (n6325 ≤ cp6326) ∧ blazonlaw13_OrderFull.l0 kq6333 a0 x6322 x6323 x6329 = some r) ?step k _ _ ?init)
  case init =>
    exact ⟨_, a1, 0, none, 0, 0, ([] : List (S25)), (fun q_ => List.getD [.int .u8 a0, undef, undef, undef, .bool false, undef, undef, undef, undef, undef, undef, undef, .int .u8 a0, .int .i64 (wrap64 (a0)), .int .i64 (Int.tmod (wrap64 (a0)) 70), undef, undef, undef, undef, undef, undef, undef, undef, undef, undef, undef, undef, undef, undef, undef, undef, undef, undef, undef, undef, undef, undef, undef, undef, undef, undef, undef, undef, undef, undef, undef, undef, undef, undef, undef, undef, undef, undef, undef, undef, undef, undef, undef, undef, undef, undef, undef, undef, undef, undef, undef, undef, undef, undef, undef, undef, undef, undef, undef, undef, undef, undef, undef, undef, undef, undef, undef, undef, undef, undef, undef] q_ undef), rfl, HS, Nat.le_refl _, (Own.nil _ _ _ _ _), (Nat.le_refl 0), H⟩
  case step =>
    intro kq6333 ih6336 a6337 w6332 hr6338
    obtain ⟨C6331, x6322, x6329, A6324, n6325, cp6326, x6323, g6330, rfl, HS6334, hk6335, HJ6328, HC6327, H⟩ := hr6338
    refine looped_round ?_
    obtain rfl : n6325 = x6323.length := HJ6328.at_.1
    cases kq6333 with
    | zero => exact absurd H (by simp [blazonlaw13_OrderFull.l0])
    | succ k6339 =>
      simp only [blazonlaw13_OrderFull.l0] at H
      refine wp_seq_k fun K6340 hK6340 => ?_
      refine wp_seq_k fun K6341 hK6341 => ?_
      refine wl_region ?_
      refine st (.int .i64 x6329) rfl rfl (xr_move (.int .i64 x6329) rfl rfl) ?_
      simp only [ls0, ls1]
      refine st (.int .i64 (Int.tmod (wrap64 (a0)) 70)) rfl rfl (xr_move (.int .i64 (Int.tmod (wrap64 (a0)) 70)) rfl rfl) ?_
      simp only [ls0, ls1]
      refine st (.bool (decide (x6329 < (Int.tmod (wrap64 (a0)) 70)))) rfl rfl (xr_bin (.int .i64 x6329) (.int .i64 (Int.tmod (wrap64 (a0)) 70)) (.bool (decide (x6329 < (Int.tmod (wrap64 (a0)) 70)))) rfl rfl rfl (B.lss_i64 x6329 (Int.tmod (wrap64 (a0)) 70))) ?_
      simp only [ls0, ls1]
      refine wl_end ?_
      (try simp only [Act.put, List.setIfInBounds_toArray, ls0, ls1])
      refine hK6341 _ _ ?_
      (try clear hK6341 K6341)
      by_cases c6342 : x6329 < (Int.tmod (wrap64 (a0)) 70)
      · rw [if_pos c6342] at H
        (try rw [(decide_eq_true c6342)])
        (try simp only [Bool.not_true, Bool.not_false])
        refine wp_cond_true rfl ?_
        refine wp_skip ?_
        (try simp only [Act.put, List.setIfInBounds_toArray, ls0, ls1])
        refine hK6340 _ _ ?_
        (try clear hK6340 K6340)
        refine wp_seq_k fun K6343 hK6343 => ?_
        refine wp_block ?_
        refine wp_seq_k fun K6344 hK6344 => ?_
        refine wl_region ?_
        refine st (.int .i64 x6329) rfl rfl (xr_move (.int .i64 x6329) rfl rfl) ?_
        simp only [ls0, ls1]
        obtain ⟨t6345, A6346, H⟩ := Option.bind_eq_some_iff.mp H
        (try dsimp only at H)
        refine st_call #[.int .i64 x6329] rfl rfl Try.func7 (by kernel_rfl) rfl rfl (by simp only [List.map_toArray, List.map_cons, List.map_nil]; first | done | rfl) ?_
        refine (blazonlaw13_word.calls x6329 t6345  (fun z_ => pal [(0, 0)] (C6331 z_)) w6332 (fun _ => pal_lt rfl _) A6346).mono ?_
        rintro _ w6348 ⟨C6349, rfl, hs6350⟩
        refine ⟨_, rfl, ?_⟩
        replace hs6350 := Step.lift (U := [(0, 0)]) hs6350 [] rfl rfl
        generalize up C6331 C6349 w6332.heap.size [(0, 0)] = C6349_ at hs6350
        replace HJ6328 := HJ6328.thru hs6350 rfl
        replace HS6334 := HS6334.trans hs6350 hc rfl
        (try simp only [Act.put, List.setIfInBounds_toArray, ls0, ls1])
        refine st (.agg #[.string t6345, .string (⟨#[]⟩ : ByteArray), .int .i64 0]) rfl rfl (xr_build #[(0, .string t6345)] (.agg #[.string t6345, .string (⟨#[]⟩ : ByteArray), .int .i64 0]) rfl (by simp only [List.map_toArray, List.map_cons, List.map_nil]; first | done | rfl) (by first | rfl | (go_simp; done) | (go_simp; rfl) | (go_simp; exact i64_w _) | (go_simp; exact i32_w _))) ?_
        simp only [ls0, ls1]
        refine bx_new (C := C6349_) 25 ([.string (⟨#[]⟩ : ByteArray), .string (⟨#[]⟩ : ByteArray), .int .i64 0]) 12 rfl rfl (by first | (go_simp; done) | (go_simp; rfl)) ?_
        intro g6351 w6352 C6353 HX6354 hs6355
        replace HJ6328 := HJ6328.thru hs6355 rfl
        replace HS6334 := HS6334.trans hs6355 hc rfl
        (try simp only [Act.put, List.setIfInBounds_toArray, ls0, ls1])
        refine bx_store (C := C6353) (z := 12) (g := g6351) (j := 0) (tb := 25) (u := .agg #[.string t6345, .string (⟨#[]⟩ : ByteArray), .int .i64 0]) (seg := [.string t6345, .string (⟨#[]⟩ : ByteArray), .int .i64 0]) (xs := [.string (⟨#[]⟩ : ByteArray), .string (⟨#[]⟩ : ByteArray), .int .i64 0]) rfl rfl rfl rfl rfl rfl (by first | kernel_rfl | rfl) (by simp [Value.oneCell']) HX6354 (by simp only [List.length_cons, List.length_nil]; omega) rfl ?_
        intro w6356 HX6357 hs6358
        replace HJ6328 := HJ6328.thru hs6358 rfl
        replace HS6334 := HS6334.trans hs6358 hc rfl
        (try simp only [Act.put, List.setIfInBounds_toArray, ls0, ls1])
        refine wl_end ?_
        (try simp only [Act.put, List.setIfInBounds_toArray, ls0, ls1])
        refine hK6344 _ _ ?_
        (try clear hK6344 K6344)
        refine wp_seq_k fun K6359 hK6359 => ?_
        refine wp_seq_k fun K6360 hK6360 => ?_
        have hj6362 : ∀ (kq6371 : Nat) (C6363 : Nat → Nat) (w6364 : World) (x6366 : Bool) (x6368 : Bool) (g6370 : Nat → Value), Step c w C6363 w6364 [] → kq6371 ≤ k6339 → (Own C6363 11 w6364 k25 25 (.slice A6324 x6323.length cp6326) x6323) → (Bx C6363 12 w6364 g6351 25 ([.string t6345, .string (⟨#[]⟩ : ByteArray), .int .i64 0])) → blazonlaw13_OrderFull.j0 kq6371 a0 t6345 x6323 x6329 x6366 x6368 = some r → K6360 ⟨#[(g6370 0), .bool x6366, (g6370 2), (g6370 3), (g6370 4), .int .i64 (Int.tmod (wrap64 (a0)) 70), .slice A6324 x6323.length cp6326, .int .i64 x6329, .pointer (some ⟨g6351, 0, none⟩), (g6370 9), (g6370 10), (g6370 11), (g6370 12), (g6370 13), (g6370 14), (g6370 15), (g6370 16), (g6370 17), (g6370 18), (g6370 19), (g6370 20), (g6370 21), (g6370 22), (g6370 23), (g6370 24), (g6370 25), (g6370 26), .bool x6368, (g6370 28), (g6370 29), (g6370 30), (g6370 31), (g6370 32), (g6370 33), (g6370 34), (g6370 35), (g6370 36), (g6370 37), (g6370 38), (g6370 39), (g6370 40), (g6370 41), (g6370 42), (g6370 43), (g6370 44), (g6370 45), (g6370 46), (g6370 47), (g6370 48), (g6370 49), (g6370 50), (g6370 51), (g6370 52), (g6370 53), (g6370 54), (g6370 55), (g6370 56), (g6370 57), (g6370 58), (g6370 59), (g6370 60), (g6370 61), (g6370 62), (g6370 63), (g6370 64), (g6370 65), (g6370 66), (g6370 67), (g6370 68), (g6370 69), (g6370 70), (g6370 71), (g6370 72), (g6370 73), (g6370 74), (g6370 75), (g6370 76), (g6370 77), (g6370 78), (g6370 79), (g6370 80), (g6370 81), (g6370 82), (g6370 83), (g6370 84), (g6370 85)], []⟩ w6364 := by
          intro kq6371 C6363 w6364 x6366 x6368 g6370 HS6365 hk6372 HJ6367 HJ6369 H
          cases kq6371 with
          | zero => exact absurd H (by simp [blazonlaw13_OrderFull.j0])
          | succ k6373 =>
            simp only [blazonlaw13_OrderFull.j0] at H
            refine hK6360 _ _ ?_
            (try clear hK6360)
            by_cases c6374 : x6368 = true
            · rw [if_pos c6374] at H
              (try rw [c6374])
              (try simp only [Bool.not_true, Bool.not_false])
              refine wp_cond_true rfl ?_
              refine wl_region ?_
              refine st (.int .i64 x6329) rfl rfl (xr_move (.int .i64 x6329) rfl rfl) ?_
              simp only [ls0, ls1]
              refine st (.int .i64 (wrap64 (x6329 - 1))) rfl rfl (xr_bin (.int .i64 x6329) (.int .i64 1) (.int .i64 (wrap64 (x6329 - 1))) rfl rfl rfl (B.sub_i64 x6329 1)) ?_
              simp only [ls0, ls1]
              obtain ⟨t6375, A6376, H⟩ := Option.bind_eq_some_iff.mp H
              (try dsimp only at H)
              refine st_call #[.int .i64 (wrap64 (x6329 - 1))] rfl rfl Try.func7 (by kernel_rfl) rfl rfl (by simp only [List.map_toArray, List.map_cons, List.map_nil]; first | done | rfl) ?_
              refine (blazonlaw13_word.calls (wrap64 (x6329 - 1)) t6375  (fun z_ => pal [(0, 0)] (C6363 z_)) w6364 (fun _ => pal_lt rfl _) A6376).mono ?_
              rintro _ w6378 ⟨C6379, rfl, hs6380⟩
              refine ⟨_, rfl, ?_⟩
              replace hs6380 := Step.lift (U := [(0, 0)]) hs6380 [] rfl rfl
              generalize up C6363 C6379 w6364.heap.size [(0, 0)] = C6379_ at hs6380
              replace HJ6367 := HJ6367.thru hs6380 rfl
              replace HJ6369 := HJ6369.thru hs6380 rfl
              replace HS6365 := HS6365.trans hs6380 hc rfl
              (try simp only [Act.put, List.setIfInBounds_toArray, ls0, ls1])
              refine st (.int .i64 x6329) rfl rfl (xr_move (.int .i64 x6329) rfl rfl) ?_
              simp only [ls0, ls1]
              obtain ⟨t6381, A6382, H⟩ := Option.bind_eq_some_iff.mp H
              (try dsimp only at H)
              refine st_call #[.int .i64 x6329] rfl rfl Try.func7 (by kernel_rfl) rfl rfl (by simp only [List.map_toArray, List.map_cons, List.map_nil]; first | done | rfl) ?_
              refine (blazonlaw13_word.calls x6329 t6381  (fun z_ => pal [(0, 0)] (C6379_ z_)) w6378 (fun _ => pal_lt rfl _) A6382).mono ?_
              rintro _ w6384 ⟨C6385, rfl, hs6386⟩
              refine ⟨_, rfl, ?_⟩
              replace hs6386 := Step.lift (U := [(0, 0)]) hs6386 [] rfl rfl
              generalize up C6379_ C6385 w6378.heap.size [(0, 0)] = C6385_ at hs6386
              replace HJ6367 := HJ6367.thru hs6386 rfl
              replace HJ6369 := HJ6369.thru hs6386 rfl
              replace HS6365 := HS6365.trans hs6386 hc rfl
              (try simp only [Act.put, List.setIfInBounds_toArray, ls0, ls1])
              refine st (.agg #[.string t6375, .string t6381, .int .i64 0]) rfl rfl (xr_build #[(0, .string t6375), (1, .string t6381)] (.agg #[.string t6375, .string t6381, .int .i64 0]) rfl (by simp only [List.map_toArray, List.map_cons, List.map_nil]; first | done | rfl) (by first | rfl | (go_simp; done) | (go_simp; rfl) | (go_simp; exact i64_w _) | (go_simp; exact i32_w _))) ?_
              simp only [ls0, ls1]
              refine bx_store (C := C6385_) (z := 12) (g := g6351) (j := 0) (tb := 25) (u := .agg #[.string t6375, .string t6381, .int .i64 0]) (seg := [.string t6375, .string t6381, .int .i64 0]) (xs := [.string t6345, .string (⟨#[]⟩ : ByteArray), .int .i64 0]) rfl rfl rfl rfl rfl rfl (by first | kernel_rfl | rfl) (by simp [Value.oneCell']) HJ6369 (by simp only [List.length_cons, List.length_nil]; omega) rfl ?_
              intro w6387 HX6388 hs6389
              replace HJ6367 := HJ6367.thru hs6389 rfl
              replace HS6365 := HS6365.trans hs6389 hc rfl
              (try simp only [Act.put, List.setIfInBounds_toArray, ls0, ls1])
              refine wl_end ?_
              (try simp only [Act.put, List.setIfInBounds_toArray, ls0, ls1])
              refine hK6359 _ _ ?_
              (try clear hK6359 K6359)
              refine wl_region ?_
              refine st (.slice A6324 x6323.length cp6326) rfl rfl (xr_move (.slice A6324 x6323.length cp6326) rfl rfl) ?_
              simp only [ls0, ls1]
              refine st (.agg #[.string t6375, .string t6381, .int .i64 0]) rfl rfl (xr_load (.pointer (some ⟨g6351, 0, none⟩)) (.agg #[.string t6375, .string t6381, .int .i64 0]) rfl rfl (load_agg (cs := [.string t6375, .string t6381, .int .i64 0]) Try.underlying25 rfl (by kernel_rfl) (bx_cells (l := ([.string t6375, .string t6381, .int .i64 0])) (HX6388).2 0 rfl))) ?_
              simp only [ls0, ls1]
              refine ev_run (w1 := w6387.alloc (.cells #[.string t6375, .string t6381, .int .i64 0] 25)) (.slice (some ⟨w6387.heap.size, 0, none⟩) 1 1) rfl rfl (by first | (go_simp; done) | (go_simp; rfl)) ?_
              (try simp only [Act.put, List.setIfInBounds_toArray, ls0, ls1])
              by_cases c6390 : x6323.length < 3518437208883
              · rw [if_pos c6390] at H
                obtain ⟨y6391, A6392, H⟩ := Option.bind_eq_some_iff.mp H
                (try dsimp only at H)
                refine Own.append k25 (C := C6385_) (i := 11) rfl (.tmp 34) (.tmp 36) 22 25 (.agg #[(.string ⟨#[]⟩), (.string ⟨#[]⟩), (.int .i64 0)]) 40 rfl Try.underlying22 info25 rfl (by decide) (by decide) (.slice A6324 x6323.length cp6326) x6323 (⟨t6375, t6381, 0⟩ : S25) [.string t6375, .string t6381, .int .i64 0] rfl rfl (k25_mkF _ _ (⟨t6375, t6381, 0⟩ : S25)) HJ6367 (by decide) (by omega) (Option.some.inj A6392) ?_
                intro A6393 cp6394 w6395 C6396 HO6397 HC6398 hs6399
                replace HX6388 := HX6388.thru hs6399 rfl
                replace HS6365 := HS6365.trans hs6399 hc rfl
                (try simp only [Act.put, List.setIfInBounds_toArray, ls0, ls1])
                refine st (.slice A6393 y6391.length cp6394) rfl rfl (xr_assign (.slice A6393 y6391.length cp6394) rfl rfl) ?_
                simp only [ls0, ls1]
                refine wl_end ?_
                (try simp only [Act.put, List.setIfInBounds_toArray, ls0, ls1])
                refine hK6343 _ _ ?_
                (try clear hK6343 K6343)
                refine wl_region ?_
                refine st (.int .i64 x6329) rfl rfl (xr_move (.int .i64 x6329) rfl rfl) ?_
                simp only [ls0, ls1]
                refine st (.int .i64 (wrap64 (x6329 + 1))) rfl rfl (xr_bin (.int .i64 x6329) (.int .i64 1) (.int .i64 (wrap64 (x6329 + 1))) rfl rfl rfl (B.add_i64 x6329 1)) ?_
                simp only [ls0, ls1]
                refine st (.int .i64 (wrap64 (x6329 + 1))) rfl rfl (xr_assign (.int .i64 (wrap64 (x6329 + 1))) rfl rfl) ?_
                simp only [ls0, ls1]
                refine wl_end ?_
                (try simp only [Act.put, List.setIfInBounds_toArray, ls0, ls1])
                exact ih6336 k6373 (by omega) _ _ ⟨_, x6366, wrap64 (x6329 + 1), A6393, y6391.length, cp6394, y6391, (fun q_ => List.getD [(g6370 0), undef, (g6370 2), (g6370 3), (g6370 4), undef, undef, undef, .pointer (some ⟨g6351, 0, none⟩), (g6370 9), (g6370 10), (g6370 11), (g6370 12), (g6370 13), (g6370 14), (g6370 15), (g6370 16), (g6370 17), .int .i64 x6329, .int .i64 (wrap64 (x6329 + 1)), (g6370 20), (g6370 21), (g6370 22), (g6370 23), (g6370 24), (g6370 25), (g6370 26), .bool true, .int .i64 x6329, .int .i64 (wrap64 (x6329 - 1)), .string t6375, .int .i64 x6329, .string t6381, .agg #[.string t6375, .string t6381, .int .i64 0], .slice A6324 x6323.length cp6326, .agg #[.string t6375, .string t6381, .int .i64 0], .slice (some ⟨w6387.heap.size, 0, none⟩) 1 1, .slice A6393 y6391.length cp6394, (g6370 38), (g6370 39), (g6370 40), (g6370 41), (g6370 42), (g6370 43), (g6370 44), (g6370 45), (g6370 46), (g6370 47), (g6370 48), (g6370 49), (g6370 50), (g6370 51), (g6370 52), (g6370 53), (g6370 54), (g6370 55), (g6370 56), (g6370 57), (g6370 58), (g6370 59), (g6370 60), (g6370 61), (g6370 62), (g6370 63), (g6370 64), (g6370 65), (g6370 66), (g6370 67), (g6370 68), (g6370 69), (g6370 70), (g6370 71), (g6370 72), (g6370 73), (g6370 74), (g6370 75), (g6370 76), (g6370 77), (g6370 78), (g6370 79), (g6370 80), (g6370 81), (g6370 82), (g6370 83), (g6370 84), (g6370 85)] q_ undef), rfl, HS6365, (by omega), HO6397, HC6398, H⟩
              · rw [if_neg c6390] at H
                exact absurd H (by simp)
            · rw [if_neg c6374] at H
              (try rw [(Bool.eq_false_iff.mpr c6374)])
              (try simp only [Bool.not_true, Bool.not_false])
              refine wp_cond_false rfl ?_
              refine wp_skip ?_
              (try simp only [Act.put, List.setIfInBounds_toArray, ls0, ls1])
              refine hK6359 _ _ ?_
              (try clear hK6359 K6359)
              refine wl_region ?_
              refine st (.slice A6324 x6323.length cp6326) rfl rfl (xr_move (.slice A6324 x6323.length cp6326) rfl rfl) ?_
              simp only [ls0, ls1]
              refine st (.agg #[.string t6345, .string (⟨#[]⟩ : ByteArray), .int .i64 0]) rfl rfl (xr_load (.pointer (some ⟨g6351, 0, none⟩)) (.agg #[.string t6345, .string (⟨#[]⟩ : ByteArray), .int .i64 0]) rfl rfl (load_agg (cs := [.string t6345, .string (⟨#[]⟩ : ByteArray), .int .i64 0]) Try.underlying25 rfl (by kernel_rfl) (bx_cells (l := ([.string t6345, .string (⟨#[]⟩ : ByteArray), .int .i64 0])) (HJ6369).2 0 rfl))) ?_
              simp only [ls0, ls1]
              refine ev_run (w1 := w6364.alloc (.cells #[.string t6345, .string (⟨#[]⟩ : ByteArray), .int .i64 0] 25)) (.slice (some ⟨w6364.heap.size, 0, none⟩) 1 1) rfl rfl (by first | (go_simp; done) | (go_simp; rfl)) ?_
              (try simp only [Act.put, List.setIfInBounds_toArray, ls0, ls1])
              by_cases c6400 : x6323.length < 3518437208883
              · rw [if_pos c6400] at H
                obtain ⟨y6401, A6402, H⟩ := Option.bind_eq_some_iff.mp H
                (try dsimp only at H)
                refine Own.append k25 (C := C6363) (i := 11) rfl (.tmp 34) (.tmp 36) 22 25 (.agg #[(.string ⟨#[]⟩), (.string ⟨#[]⟩), (.int .i64 0)]) 40 rfl Try.underlying22 info25 rfl (by decide) (by decide) (.slice A6324 x6323.length cp6326) x6323 (⟨t6345, (⟨#[]⟩ : ByteArray), 0⟩ : S25) [.string t6345, .string (⟨#[]⟩ : ByteArray), .int .i64 0] rfl rfl (k25_mkF _ _ (⟨t6345, (⟨#[]⟩ : ByteArray), 0⟩ : S25)) HJ6367 (by decide) (by omega) (Option.some.inj A6402) ?_
                intro A6403 cp6404 w6405 C6406 HO6407 HC6408 hs6409
                replace HJ6369 := HJ6369.thru hs6409 rfl
                replace HS6365 := HS6365.trans hs6409 hc rfl
                (try simp only [Act.put, List.setIfInBounds_toArray, ls0, ls1])
                refine st (.slice A6403 y6401.length cp6404) rfl rfl (xr_assign (.slice A6403 y6401.length cp6404) rfl rfl) ?_
                simp only [ls0, ls1]
                refine wl_end ?_
                (try simp only [Act.put, List.setIfInBounds_toArray, ls0, ls1])
                refine hK6343 _ _ ?_
                (try clear hK6343 K6343)
                refine wl_region ?_
                refine st (.int .i64 x6329) rfl rfl (xr_move (.int .i64 x6329) rfl rfl) ?_
                simp only [ls0, ls1]
                refine st (.int .i64 (wrap64 (x6329 + 1))) rfl rfl (xr_bin (.int .i64 x6329) (.int .i64 1) (.int .i64 (wrap64 (x6329 + 1))) rfl rfl rfl (B.add_i64 x6329 1)) ?_
                simp only [ls0, ls1]
                refine st (.int .i64 (wrap64 (x6329 + 1))) rfl rfl (xr_assign (.int .i64 (wrap64 (x6329 + 1))) rfl rfl) ?_
                simp only [ls0, ls1]
                refine wl_end ?_
                (try simp only [Act.put, List.setIfInBounds_toArray, ls0, ls1])
                exact ih6336 k6373 (by omega) _ _ ⟨_, x6366, wrap64 (x6329 + 1), A6403, y6401.length, cp6404, y6401, (fun q_ => List.getD [(g6370 0), undef, (g6370 2), (g6370 3), (g6370 4), undef, undef, undef, .pointer (some ⟨g6351, 0, none⟩), (g6370 9), (g6370 10), (g6370 11), (g6370 12), (g6370 13), (g6370 14), (g6370 15), (g6370 16), (g6370 17), .int .i64 x6329, .int .i64 (wrap64 (x6329 + 1)), (g6370 20), (g6370 21), (g6370 22), (g6370 23), (g6370 24), (g6370 25), (g6370 26), .bool false, (g6370 28), (g6370 29), (g6370 30), (g6370 31), (g6370 32), (g6370 33), .slice A6324 x6323.length cp6326, .agg #[.string t6345, .string (⟨#[]⟩ : ByteArray), .int .i64 0], .slice (some ⟨w6364.heap.size, 0, none⟩) 1 1, .slice A6403 y6401.length cp6404, (g6370 38), (g6370 39), (g6370 40), (g6370 41), (g6370 42), (g6370 43), (g6370 44), (g6370 45), (g6370 46), (g6370 47), (g6370 48), (g6370 49), (g6370 50), (g6370 51), (g6370 52), (g6370 53), (g6370 54), (g6370 55), (g6370 56), (g6370 57), (g6370 58), (g6370 59), (g6370 60), (g6370 61), (g6370 62), (g6370 63), (g6370 64), (g6370 65), (g6370 66), (g6370 67), (g6370 68), (g6370 69), (g6370 70), (g6370 71), (g6370 72), (g6370 73), (g6370 74), (g6370 75), (g6370 76), (g6370 77), (g6370 78), (g6370 79), (g6370 80), (g6370 81), (g6370 82), (g6370 83), (g6370 84), (g6370 85)] q_ undef), rfl, HS6365, (by omega), HO6407, HC6408, H⟩
              · rw [if_neg c6400] at H
                exact absurd H (by simp)
        refine wl_region ?_
        refine st (.bool x6322) rfl rfl (xr_move (.bool x6322) rfl rfl) ?_
        simp only [ls0, ls1]
        refine st (.bool x6322) rfl rfl (xr_move (.bool x6322) rfl rfl) ?_
        simp only [ls0, ls1]
        by_cases c6410 : x6322 = true
        · rw [if_pos c6410] at H
          (try rw [c6410])
          (try simp only [Bool.not_true, Bool.not_false])
          refine on_guard (guard_on 1 true 24 rfl rfl rfl) ?_
          refine st (.int .i64 x6329) rfl rfl (xr_move (.int .i64 x6329) rfl rfl) ?_
          simp only [ls0, ls1]
          refine on_guard (guard_on 1 true 24 rfl rfl rfl) ?_
          refine st (.bool (decide (x6329 > 0))) rfl rfl (xr_bin (.int .i64 x6329) (.int .i64 0) (.bool (decide (x6329 > 0))) rfl rfl rfl (B.gtr_i64 x6329 0)) ?_
          simp only [ls0, ls1]
          refine st (.bool (decide (x6329 > 0))) rfl rfl (xr_pick true (.bool (decide (x6329 > 0))) rfl rfl rfl) ?_
          simp only [ls0, ls1]
          refine wl_end ?_
          (try simp only [Act.put, List.setIfInBounds_toArray, ls0, ls1])
          exact hj6362 _ _ _ (true) (decide (x6329 > 0)) (fun q_ => List.getD [(g6330 0), undef, (g6330 2), (g6330 3), (g6330 4), undef, undef, undef, undef, (g6330 9), (g6330 10), (g6330 11), (g6330 12), (g6330 13), (g6330 14), .int .i64 x6329, .int .i64 (Int.tmod (wrap64 (a0)) 70), .bool true, (g6330 18), (g6330 19), .int .i64 x6329, .string t6345, .agg #[.string t6345, .string (⟨#[]⟩ : ByteArray), .int .i64 0], .bool true, .bool true, .int .i64 x6329, .bool (decide (x6329 > 0)), undef, (g6330 28), (g6330 29), (g6330 30), (g6330 31), (g6330 32), (g6330 33), (g6330 34), (g6330 35), (g6330 36), (g6330 37), (g6330 38), (g6330 39), (g6330 40), (g6330 41), (g6330 42), (g6330 43), (g6330 44), (g6330 45), (g6330 46), (g6330 47), (g6330 48), (g6330 49), (g6330 50), (g6330 51), (g6330 52), (g6330 53), (g6330 54), (g6330 55), (g6330 56), (g6330 57), (g6330 58), (g6330 59), (g6330 60), (g6330 61), (g6330 62), (g6330 63), (g6330 64), (g6330 65), (g6330 66), (g6330 67), (g6330 68), (g6330 69), (g6330 70), (g6330 71), (g6330 72), (g6330 73), (g6330 74), (g6330 75), (g6330 76), (g6330 77), (g6330 78), (g6330 79), (g6330 80), (g6330 81), (g6330 82), (g6330 83), (g6330 84), (g6330 85)] q_ undef)  HS6334 (by omega) HJ6328 HX6357 H
        · rw [if_neg c6410] at H
          (try rw [(Bool.eq_false_iff.mpr c6410)])
          (try simp only [Bool.not_true, Bool.not_false])
          refine sk_guard (guard_off 1 true 24 rfl rfl false (by decide) rfl) rfl ?_
          simp only [ls0, ls1]
          refine sk_guard (guard_off 1 true 24 rfl rfl false (by decide) rfl) rfl ?_
          simp only [ls0, ls1]
          refine st (.bool false) rfl rfl (xr_pick false (.bool false) rfl rfl rfl) ?_
          simp only [ls0, ls1]
          refine wl_end ?_
          (try simp only [Act.put, List.setIfInBounds_toArray, ls0, ls1])
          exact hj6362 _ _ _ (false) (false) (fun q_ => List.getD [(g6330 0), undef, (g6330 2), (g6330 3), (g6330 4), undef, undef, undef, undef, (g6330 9), (g6330 10), (g6330 11), (g6330 12), (g6330 13), (g6330 14), .int .i64 x6329, .int .i64 (Int.tmod (wrap64 (a0)) 70), .bool true, (g6330 18), (g6330 19), .int .i64 x6329, .string t6345, .agg #[.string t6345, .string (⟨#[]⟩ : ByteArray), .int .i64 0], .bool false, .bool false, undef, undef, undef, (g6330 28), (g6330 29), (g6330 30), (g6330 31), (g6330 32), (g6330 33), (g6330 34), (g6330 35), (g6330 36), (g6330 37), (g6330 38), (g6330 39), (g6330 40), (g6330 41), (g6330 42), (g6330 43), (g6330 44), (g6330 45), (g6330 46), (g6330 47), (g6330 48), (g6330 49), (g6330 50), (g6330 51), (g6330 52), (g6330 53), (g6330 54), (g6330 55), (g6330 56), (g6330 57), (g6330 58), (g6330 59), (g6330 60), (g6330 61), (g6330 62), (g6330 63), (g6330 64), (g6330 65), (g6330 66), (g6330 67), (g6330 68), (g6330 69), (g6330 70), (g6330 71), (g6330 72), (g6330 73), (g6330 74), (g6330 75), (g6330 76), (g6330 77), (g6330 78), (g6330 79), (g6330 80), (g6330 81), (g6330 82), (g6330 83), (g6330 84), (g6330 85)] q_ undef)  HS6334 (by omega) HJ6328 HX6357 H
      · rw [if_neg c6342] at H
        (try rw [(decide_eq_false c6342)])
        (try simp only [Bool.not_true, Bool.not_false])
        refine wp_cond_false rfl ?_
        refine wp_exit ?_
        (try simp only [Act.put, List.setIfInBounds_toArray, ls0, ls1])
        refine hK5918 _ _ ?_
        (try clear hK5918 K5918)
        refine wp_seq_k fun K6411 hK6411 => ?_
        refine wl_region ?_
        refine st (.slice A6324 x6323.length cp6326) rfl rfl (xr_move (.slice A6324 x6323.length cp6326) rfl rfl) ?_
        simp only [ls0, ls1]
        have HR6412 := Ft.recolor (a := 11) (b := 0) (HJ6328.ft) [0] rfl
        replace HS6334 := Step.recol (a := 11) (b := 0) HS6334 hc (by decide)
        obtain ⟨⟨t6413, t6414, t6415⟩, A6416, H⟩ := Option.bind_eq_some_iff.mp H
        (try dsimp only at H)
        refine st_call #[.slice A6324 x6323.length cp6326] rfl rfl Try.func8 (by kernel_rfl) rfl rfl (by simp only [List.map_toArray, List.map_cons, List.map_nil]; first | done | rfl) ?_
        refine (order_New.calls k6339 A6324 cp6326 x6323 t6413 t6414 t6415  (fun z_ => pal [(0, 0)] ((recol C6331 11 0) z_)) w6332 (fun _ => pal_lt rfl _) (Ft.arg HR6412 rfl) HC6327 A6416).mono ?_
        rintro _ w6418 ⟨C6419, v6421, rfl, hs6420, HB6422⟩
        refine ⟨_, rfl, ?_⟩
        replace HB6422 := Ft.res (U := [(0, 0)]) HB6422 hs6420 [0] rfl rfl rfl
        replace hs6420 := Step.lift (U := [(0, 0)]) hs6420 [] rfl rfl
        generalize up (recol C6331 11 0) C6419 w6332.heap.size [(0, 0)] = C6419_ at HB6422 hs6420
        replace HS6334 := HS6334.trans hs6420 hc rfl
        (try simp only [Act.put, List.setIfInBounds_toArray, ls0, ls1])
        refine st (.tuple #[v6421, .int .i64 t6414, .int .i64 t6415]) rfl rfl (xr_move (.tuple #[v6421, .int .i64 t6414, .int .i64 t6415]) rfl rfl) ?_
        simp only [ls0, ls1]
        refine st (v6421) rfl rfl (xr_extract (.tuple #[v6421, .int .i64 t6414, .int .i64 t6415]) (v6421) rfl rfl rfl) ?_
        simp only [ls0, ls1]
        refine st (.int .i64 t6414) rfl rfl (xr_extract (.tuple #[v6421, .int .i64 t6414, .int .i64 t6415]) (.int .i64 t6414) rfl rfl rfl) ?_
        simp only [ls0, ls1]
        refine st (.int .i64 t6415) rfl rfl (xr_extract (.tuple #[v6421, .int .i64 t6414, .int .i64 t6415]) (.int .i64 t6415) rfl rfl rfl) ?_
        simp only [ls0, ls1]
        refine st (v6421) rfl rfl (xr_assign (v6421) rfl rfl) ?_
        simp only [ls0, ls1]
        refine st (.int .i64 t6414) rfl rfl (xr_assign (.int .i64 t6414) rfl rfl) ?_
        simp only [ls0, ls1]
        refine st (.int .i64 t6415) rfl rfl (xr_assign (.int .i64 t6415) rfl rfl) ?_
        simp only [ls0, ls1]
        refine wl_end ?_
        (try simp only [Act.put, List.setIfInBounds_toArray, ls0, ls1])
        refine hK6411 _ _ ?_
        (try clear hK6411 K6411)
        refine wp_seq_k fun K6423 hK6423 => ?_
        refine wp_seq_k fun K6424 hK6424 => ?_
        refine wl_region ?_
        refine st (.int .i64 (Int.tmod (wrap64 (a0)) 70)) rfl rfl (xr_move (.int .i64 (Int.tmod (wrap64 (a0)) 70)) rfl rfl) ?_
        simp only [ls0, ls1]
        refine st (.bool (decide ((Int.tmod (wrap64 (a0)) 70) > 64))) rfl rfl (xr_bin (.int .i64 (Int.tmod (wrap64 (a0)) 70)) (.int .i64 64) (.bool (decide ((Int.tmod (wrap64 (a0)) 70) > 64))) rfl rfl rfl (B.gtr_i64 (Int.tmod (wrap64 (a0)) 70) 64)) ?_
        simp only [ls0, ls1]
        refine wl_end ?_
        (try simp only [Act.put, List.setIfInBounds_toArray, ls0, ls1])
        refine hK6424 _ _ ?_
        (try clear hK6424 K6424)
        by_cases c6425 : (Int.tmod (wrap64 (a0)) 70) > 64
        · rw [if_pos c6425] at H
          (try rw [(decide_eq_true c6425)])
          (try simp only [Bool.not_true, Bool.not_false])
          refine wp_cond_true rfl ?_
          refine wp_seq_k fun K6426 hK6426 => ?_
          refine wl_region ?_
          refine st (v6421) rfl rfl (xr_move (v6421) rfl rfl) ?_
          simp only [ls0, ls1]
          cases t6413 with
          | none =>
            (try simp only [onOpt] at H)
            obtain rfl := ptr_none HB6422
            refine st (.bool true) rfl rfl (xr_bin (.pointer none) (.pointer none) (.bool true) rfl rfl rfl (B.eql_nn ⟨_, Try.underlying26⟩ (⟨0, 0, none⟩ : Addr))) ?_
            simp only [ls0, ls1]
            refine st (.bool true) rfl rfl (xr_move (.bool true) rfl rfl) ?_
            simp only [ls0, ls1]
            refine on_guard (guard_on 2 true 48 rfl rfl rfl) ?_
            refine st (.int .i64 t6414) rfl rfl (xr_move (.int .i64 t6414) rfl rfl) ?_
            simp only [ls0, ls1]
            refine on_guard (guard_on 2 true 48 rfl rfl rfl) ?_
            refine st (.bool (decide (t6414 = 64))) rfl rfl (xr_bin (.int .i64 t6414) (.int .i64 64) (.bool (decide (t6414 = 64))) rfl rfl rfl (B.eql_i64 t6414 64)) ?_
            simp only [ls0, ls1]
            refine st (.bool (decide (t6414 = 64))) rfl rfl (xr_pick true (.bool (decide (t6414 = 64))) rfl rfl rfl) ?_
            simp only [ls0, ls1]
            refine st (.bool (decide (t6414 = 64))) rfl rfl (xr_move (.bool (decide (t6414 = 64))) rfl rfl) ?_
            simp only [ls0, ls1]
            by_cases c6428 : t6414 = 64
            · rw [if_pos c6428] at H
              (try rw [(decide_eq_true c6428)])
              (try simp only [Bool.not_true, Bool.not_false])
              refine on_guard (guard_on 6 true 52 rfl rfl rfl) ?_
              refine st (.int .i64 t6415) rfl rfl (xr_move (.int .i64 t6415) rfl rfl) ?_
              simp only [ls0, ls1]
              refine on_guard (guard_on 6 true 52 rfl rfl rfl) ?_
              refine st (.bool (decide (t6415 = 8))) rfl rfl (xr_bin (.int .i64 t6415) (.int .i64 8) (.bool (decide (t6415 = 8))) rfl rfl rfl (B.eql_i64 t6415 8)) ?_
              simp only [ls0, ls1]
              refine st (.bool (decide (t6415 = 8))) rfl rfl (xr_pick true (.bool (decide (t6415 = 8))) rfl rfl rfl) ?_
              simp only [ls0, ls1]
              refine st (.bool (decide (t6415 = 8))) rfl rfl (xr_move (.bool (decide (t6415 = 8))) rfl rfl) ?_
              simp only [ls0, ls1]
              by_cases c6429 : t6415 = 8
              · rw [if_pos c6429] at H
                (try rw [(decide_eq_true c6429)])
                (try simp only [Bool.not_true, Bool.not_false])
                refine on_guard (guard_on 10 true 56 rfl rfl rfl) ?_
                obtain ⟨t6430, A6431, H⟩ := Option.bind_eq_some_iff.mp H
                (try dsimp only at H)
                refine st_call #[] rfl rfl Try.func9 (by kernel_rfl) rfl rfl (by simp only [List.map_toArray, List.map_cons, List.map_nil]; first | done | rfl) ?_
                refine (blazonlaw13_awake.calls k6339 t6430  (fun z_ => pal [(0, 0)] (C6419_ z_)) w6418 (fun _ => pal_lt rfl _) A6431).mono ?_
                rintro _ w6433 ⟨C6434, rfl, hs6435⟩
                refine ⟨_, rfl, ?_⟩
                replace hs6435 := Step.lift (U := [(0, 0)]) hs6435 [] rfl rfl
                generalize up C6419_ C6434 w6418.heap.size [(0, 0)] = C6434_ at hs6435
                replace HS6334 := HS6334.trans hs6435 hc rfl
                (try simp only [Act.put, List.setIfInBounds_toArray, ls0, ls1])
                refine st (.bool t6430) rfl rfl (xr_pick true (.bool t6430) rfl rfl rfl) ?_
                simp only [ls0, ls1]
                refine st (.bool t6430) rfl rfl (xr_assign (.bool t6430) rfl rfl) ?_
                simp only [ls0, ls1]
                refine wl_end ?_
                (try simp only [Act.put, List.setIfInBounds_toArray, ls0, ls1])
                refine hK6426 _ _ ?_
                (try clear hK6426 K6426)
                refine wp_ret ?_
                (try simp only [Exit.inBlock, Exit.then, Exit.noGoto])
                (try simp only [Act.put, List.setIfInBounds_toArray, ls0, ls1])
                obtain rfl := Option.some.inj H
                refine bodyPost_ret (results_tmp rfl _ _ _) rfl ?_
                exact ⟨_, rfl, HS6334⟩
              · rw [if_neg c6429] at H
                (try rw [(decide_eq_false c6429)])
                (try simp only [Bool.not_true, Bool.not_false])
                refine sk_guard (guard_off 10 true 56 rfl rfl false (by decide) rfl) rfl ?_
                simp only [ls0, ls1]
                refine st (.bool false) rfl rfl (xr_pick false (.bool false) rfl rfl rfl) ?_
                simp only [ls0, ls1]
                refine st (.bool false) rfl rfl (xr_assign (.bool false) rfl rfl) ?_
                simp only [ls0, ls1]
                refine wl_end ?_
                (try simp only [Act.put, List.setIfInBounds_toArray, ls0, ls1])
                refine hK6426 _ _ ?_
                (try clear hK6426 K6426)
                refine wp_ret ?_
                (try simp only [Exit.inBlock, Exit.then, Exit.noGoto])
                (try simp only [Act.put, List.setIfInBounds_toArray, ls0, ls1])
                obtain rfl := Option.some.inj H
                refine bodyPost_ret (results_tmp rfl _ _ _) rfl ?_
                exact ⟨_, rfl, HS6334⟩
            · rw [if_neg c6428] at H
              (try rw [(decide_eq_false c6428)])
              (try simp only [Bool.not_true, Bool.not_false])
              refine sk_guard (guard_off 6 true 52 rfl rfl false (by decide) rfl) rfl ?_
              simp only [ls0, ls1]
              refine sk_guard (guard_off 6 true 52 rfl rfl false (by decide) rfl) rfl ?_
              simp only [ls0, ls1]
              refine st (.bool false) rfl rfl (xr_pick false (.bool false) rfl rfl rfl) ?_
              simp only [ls0, ls1]
              refine st (.bool false) rfl rfl (xr_move (.bool false) rfl rfl) ?_
              simp only [ls0, ls1]
              refine sk_guard (guard_off 10 true 56 rfl rfl false (by decide) rfl) rfl ?_
              simp only [ls0, ls1]
              refine st (.bool false) rfl rfl (xr_pick false (.bool false) rfl rfl rfl) ?_
              simp only [ls0, ls1]
              refine st (.bool false) rfl rfl (xr_assign (.bool false) rfl rfl) ?_
              simp only [ls0, ls1]
              refine wl_end ?_
              (try simp only [Act.put, List.setIfInBounds_toArray, ls0, ls1])
              refine hK6426 _ _ ?_
              (try clear hK6426 K6426)
              refine wp_ret ?_
              (try simp only [Exit.inBlock, Exit.then, Exit.noGoto])
              (try simp only [Act.put, List.setIfInBounds_toArray, ls0, ls1])
              obtain rfl := Option.some.inj H
              refine bodyPost_ret (results_tmp rfl _ _ _) rfl ?_
              exact ⟨_, rfl, HS6334⟩
          | some o6427 =>
            (try simp only [onOpt] at H)
            obtain ⟨g6436, cs6437, rfl, HX6438, HK6439⟩ := ptr_some HB6422
            obtain ⟨Aq6440_0, cpq6440_0, vq6440_1, rfl, HCq6440_0, HRq6440_0, HRq6440_1, HLq6440_2, HLq6440_3⟩ := k47_openF HK6439
            replace HRq6440_0 : Ft C6419_ [0] w6418 (fun w_ => Kd.string.C w_ Aq6440_0 o6427.f0.length o6427.f0) := HRq6440_0
            replace HRq6440_1 : Ft C6419_ [0] w6418 (fun w_ => (Kd.mp Value.string (Value.int .i64)).K w_ o6427.f1 [vq6440_1]) := HRq6440_1
            refine st (.bool false) rfl rfl (xr_bin (.pointer (some ⟨g6436, 0, none⟩)) (.pointer none) (.bool false) rfl rfl rfl (B.eql_pn ⟨_, Try.underlying26⟩ ⟨g6436, 0, none⟩)) ?_
            simp only [ls0, ls1]
            refine st (.bool false) rfl rfl (xr_move (.bool false) rfl rfl) ?_
            simp only [ls0, ls1]
            refine sk_guard (guard_off 2 true 48 rfl rfl false (by decide) rfl) rfl ?_
            simp only [ls0, ls1]
            refine sk_guard (guard_off 2 true 48 rfl rfl false (by decide) rfl) rfl ?_
            simp only [ls0, ls1]
            refine st (.bool false) rfl rfl (xr_pick false (.bool false) rfl rfl rfl) ?_
            simp only [ls0, ls1]
            refine st (.bool false) rfl rfl (xr_move (.bool false) rfl rfl) ?_
            simp only [ls0, ls1]
            refine sk_guard (guard_off 6 true 52 rfl rfl false (by decide) rfl) rfl ?_
            simp only [ls0, ls1]
            refine sk_guard (guard_off 6 true 52 rfl rfl false (by decide) rfl) rfl ?_
            simp only [ls0, ls1]
            refine st (.bool false) rfl rfl (xr_pick false (.bool false) rfl rfl rfl) ?_
            simp only [ls0, ls1]
            refine st (.bool false) rfl rfl (xr_move (.bool false) rfl rfl) ?_
            simp only [ls0, ls1]
            refine sk_guard (guard_off 10 true 56 rfl rfl false (by decide) rfl) rfl ?_
            simp only [ls0, ls1]
            refine st (.bool false) rfl rfl (xr_pick false (.bool false) rfl rfl rfl) ?_
            simp only [ls0, ls1]
            refine st (.bool false) rfl rfl (xr_assign (.bool false) rfl rfl) ?_
            simp only [ls0, ls1]
            refine wl_end ?_
            (try simp only [Act.put, List.setIfInBounds_toArray, ls0, ls1])
            refine hK6426 _ _ ?_
            (try clear hK6426 K6426)
            refine wp_ret ?_
            (try simp only [Exit.inBlock, Exit.then, Exit.noGoto])
            (try simp only [Act.put, List.setIfInBounds_toArray, ls0, ls1])
            obtain rfl := Option.some.inj H
            refine bodyPost_ret (results_tmp rfl _ _ _) rfl ?_
            exact ⟨_, rfl, HS6334⟩
        · rw [if_neg c6425] at H
          (try rw [(decide_eq_false c6425)])
          (try simp only [Bool.not_true, Bool.not_false])
          refine wp_cond_false rfl ?_
          refine wp_skip ?_
          (try simp only [Act.put, List.setIfInBounds_toArray, ls0, ls1])
          refine hK6423 _ _ ?_
          (try clear hK6423 K6423)
          refine wp_seq_k fun K6441 hK6441 => ?_
          refine wl_region ?_
          refine st (.int .i64 t6415) rfl rfl (xr_move (.int .i64 t6415) rfl rfl) ?_
          simp only [ls0, ls1]
          refine st (.bool (decide (t6415 = 0))) rfl rfl (xr_bin (.int .i64 t6415) (.int .i64 0) (.bool (decide (t6415 = 0))) rfl rfl rfl (B.eql_i64 t6415 0)) ?_
          simp only [ls0, ls1]
          refine st (.bool (decide (t6415 = 0))) rfl rfl (xr_move (.bool (decide (t6415 = 0))) rfl rfl) ?_
          simp only [ls0, ls1]
          by_cases c6442 : t6415 = 0
          · rw [if_pos c6442] at H
            (try rw [(decide_eq_true c6442)])
            (try simp only [Bool.not_true, Bool.not_false])
            refine on_guard (guard_on 2 true 61 rfl rfl rfl) ?_
            refine st (v6421) rfl rfl (xr_move (v6421) rfl rfl) ?_
            simp only [ls0, ls1]
            refine on_guard (guard_on 2 true 61 rfl rfl rfl) ?_
            obtain ⟨t6443, A6444, H⟩ := Option.bind_eq_some_iff.mp H
            (try dsimp only at H)
            refine st_call #[v6421] rfl rfl Try.func10 (by kernel_rfl) rfl rfl (by simp only [List.map_toArray, List.map_cons, List.map_nil]; first | done | rfl) ?_
            refine (order_Order_Len.calls v6421 t6413 t6443  (fun z_ => pal [(0, 0)] (C6419_ z_)) w6418 (fun _ => pal_lt rfl _) (Ft.arg HB6422 rfl) A6444).mono ?_
            rintro _ w6446 ⟨C6447, rfl, hs6448⟩
            refine ⟨_, rfl, ?_⟩
            replace hs6448 := Step.lift (U := [(0, 0)]) hs6448 [] rfl rfl
            generalize up C6419_ C6447 w6418.heap.size [(0, 0)] = C6447_ at hs6448
            replace HB6422 := HB6422.thru hs6448 rfl
            replace HS6334 := HS6334.trans hs6448 hc rfl
            (try simp only [Act.put, List.setIfInBounds_toArray, ls0, ls1])
            refine on_guard (guard_on 2 true 61 rfl rfl rfl) ?_
            refine st (.int .i64 (Int.tmod (wrap64 (a0)) 70)) rfl rfl (xr_move (.int .i64 (Int.tmod (wrap64 (a0)) 70)) rfl rfl) ?_
            simp only [ls0, ls1]
            refine on_guard (guard_on 2 true 61 rfl rfl rfl) ?_
            refine st (.bool (decide (t6443 = (Int.tmod (wrap64 (a0)) 70)))) rfl rfl (xr_bin (.int .i64 t6443) (.int .i64 (Int.tmod (wrap64 (a0)) 70)) (.bool (decide (t6443 = (Int.tmod (wrap64 (a0)) 70)))) rfl rfl rfl (B.eql_i64 t6443 (Int.tmod (wrap64 (a0)) 70))) ?_
            simp only [ls0, ls1]
            refine st (.bool (decide (t6443 = (Int.tmod (wrap64 (a0)) 70)))) rfl rfl (xr_pick true (.bool (decide (t6443 = (Int.tmod (wrap64 (a0)) 70)))) rfl rfl rfl) ?_
            simp only [ls0, ls1]
            refine st (.bool (decide (t6443 = (Int.tmod (wrap64 (a0)) 70)))) rfl rfl (xr_move (.bool (decide (t6443 = (Int.tmod (wrap64 (a0)) 70)))) rfl rfl) ?_
            simp only [ls0, ls1]
            by_cases c6449 : t6443 = (Int.tmod (wrap64 (a0)) 70)
            · rw [if_pos c6449] at H
              (try rw [(decide_eq_true c6449)])
              (try simp only [Bool.not_true, Bool.not_false])
              refine on_guard (guard_on 8 true 67 rfl rfl rfl) ?_
              refine st (.int .i64 (Int.tmod (wrap64 (a0)) 70)) rfl rfl (xr_move (.int .i64 (Int.tmod (wrap64 (a0)) 70)) rfl rfl) ?_
              simp only [ls0, ls1]
              refine on_guard (guard_on 8 true 67 rfl rfl rfl) ?_
              refine st (.bool (decide ((Int.tmod (wrap64 (a0)) 70) = 0))) rfl rfl (xr_bin (.int .i64 (Int.tmod (wrap64 (a0)) 70)) (.int .i64 0) (.bool (decide ((Int.tmod (wrap64 (a0)) 70) = 0))) rfl rfl rfl (B.eql_i64 (Int.tmod (wrap64 (a0)) 70) 0)) ?_
              simp only [ls0, ls1]
              refine on_guard (guard_on 8 true 67 rfl rfl rfl) ?_
              refine st (.bool (decide ((Int.tmod (wrap64 (a0)) 70) = 0))) rfl rfl (xr_move (.bool (decide ((Int.tmod (wrap64 (a0)) 70) = 0))) rfl rfl) ?_
              simp only [ls0, ls1]
              by_cases c6450 : (Int.tmod (wrap64 (a0)) 70) = 0
              · rw [if_pos c6450] at H
                (try rw [(decide_eq_true c6450)])
                (try simp only [Bool.not_true, Bool.not_false])
                refine sk_guard (guard_off 11 false 70 rfl rfl true (by decide) rfl) rfl ?_
                simp only [ls0, ls1]
                refine sk_guard (guard_off 11 false 70 rfl rfl true (by decide) rfl) rfl ?_
                simp only [ls0, ls1]
                refine sk_guard (guard_off 11 false 70 rfl rfl true (by decide) rfl) rfl ?_
                simp only [ls0, ls1]
                refine sk_guard (guard_off 11 false 70 rfl rfl true (by decide) rfl) rfl ?_
                simp only [ls0, ls1]
                refine sk_guard (guard_off 11 false 70 rfl rfl true (by decide) rfl) rfl ?_
                simp only [ls0, ls1]
                refine sk_guard (guard_off 11 false 70 rfl rfl true (by decide) rfl) rfl ?_
                simp only [ls0, ls1]
                refine sk_guard (guard_und 17 false 76 rfl rfl rfl) rfl ?_
                simp only [ls0, ls1]
                refine sk_guard (guard_und 17 false 76 rfl rfl rfl) rfl ?_
                simp only [ls0, ls1]
                refine sk_guard (guard_off 11 false 70 rfl rfl true (by decide) rfl) rfl ?_
                simp only [ls0, ls1]
                refine sk_guard (guard_off 11 false 70 rfl rfl true (by decide) rfl) rfl ?_
                simp only [ls0, ls1]
                refine on_guard (guard_on 8 true 67 rfl rfl rfl) ?_
                refine st (.bool true) rfl rfl (xr_pick true (.bool true) rfl rfl rfl) ?_
                simp only [ls0, ls1]
                refine st (.bool true) rfl rfl (xr_pick true (.bool true) rfl rfl rfl) ?_
                simp only [ls0, ls1]
                refine st (.bool true) rfl rfl (xr_move (.bool true) rfl rfl) ?_
                simp only [ls0, ls1]
                refine on_guard (guard_on 24 true 83 rfl rfl rfl) ?_
                obtain ⟨t6451, A6452, H⟩ := Option.bind_eq_some_iff.mp H
                (try dsimp only at H)
                refine st_call #[] rfl rfl Try.func9 (by kernel_rfl) rfl rfl (by simp only [List.map_toArray, List.map_cons, List.map_nil]; first | done | rfl) ?_
                refine (blazonlaw13_awake.calls k6339 t6451  (fun z_ => pal [(0, 0)] (C6447_ z_)) w6446 (fun _ => pal_lt rfl _) A6452).mono ?_
                rintro _ w6454 ⟨C6455, rfl, hs6456⟩
                refine ⟨_, rfl, ?_⟩
                replace hs6456 := Step.lift (U := [(0, 0)]) hs6456 [] rfl rfl
                generalize up C6447_ C6455 w6446.heap.size [(0, 0)] = C6455_ at hs6456
                replace HS6334 := HS6334.trans hs6456 hc rfl
                (try simp only [Act.put, List.setIfInBounds_toArray, ls0, ls1])
                refine st (.bool t6451) rfl rfl (xr_pick true (.bool t6451) rfl rfl rfl) ?_
                simp only [ls0, ls1]
                refine st (.bool t6451) rfl rfl (xr_assign (.bool t6451) rfl rfl) ?_
                simp only [ls0, ls1]
                refine wl_end ?_
                (try simp only [Act.put, List.setIfInBounds_toArray, ls0, ls1])
                refine hK6441 _ _ ?_
                (try clear hK6441 K6441)
                refine wp_ret ?_
                (try simp only [Exit.inBlock, Exit.then, Exit.noGoto])
                (try simp only [Act.put, List.setIfInBounds_toArray, ls0, ls1])
                obtain rfl := Option.some.inj H
                refine bodyPost_ret (results_tmp rfl _ _ _) rfl ?_
                exact ⟨_, rfl, HS6334⟩
              · rw [if_neg c6450] at H
                (try rw [(decide_eq_false c6450)])
                (try simp only [Bool.not_true, Bool.not_false])
                refine on_guard (guard_on 11 false 70 rfl rfl rfl) ?_
                refine st (v6421) rfl rfl (xr_move (v6421) rfl rfl) ?_
                simp only [ls0, ls1]
                refine on_guard (guard_on 11 false 70 rfl rfl rfl) ?_
                refine st (.int .i64 (Int.tmod (wrap64 (a0)) 70)) rfl rfl (xr_move (.int .i64 (Int.tmod (wrap64 (a0)) 70)) rfl rfl) ?_
                simp only [ls0, ls1]
                refine on_guard (guard_on 11 false 70 rfl rfl rfl) ?_
                refine st (.int .i64 (wrap64 ((Int.tmod (wrap64 (a0)) 70) - 1))) rfl rfl (xr_bin (.int .i64 (Int.tmod (wrap64 (a0)) 70)) (.int .i64 1) (.int .i64 (wrap64 ((Int.tmod (wrap64 (a0)) 70) - 1))) rfl rfl rfl (B.sub_i64 (Int.tmod (wrap64 (a0)) 70) 1)) ?_
                simp only [ls0, ls1]
                refine on_guard (guard_on 11 false 70 rfl rfl rfl) ?_
                obtain ⟨t6457, A6458, H⟩ := Option.bind_eq_some_iff.mp H
                (try dsimp only at H)
                refine st_call #[v6421, .int .i64 0, .int .i64 (wrap64 ((Int.tmod (wrap64 (a0)) 70) - 1))] rfl rfl Try.func11 (by kernel_rfl) rfl rfl (by simp only [List.map_toArray, List.map_cons, List.map_nil]; first | done | rfl) ?_
                refine (order_Order_Most.calls v6421 t6413 0 (wrap64 ((Int.tmod (wrap64 (a0)) 70) - 1)) t6457  (fun z_ => pal [(0, 0)] (C6447_ z_)) w6446 (fun _ => pal_lt rfl _) (Ft.arg HB6422 rfl) A6458).mono ?_
                rintro _ w6460 ⟨C6461, rfl, hs6462⟩
                refine ⟨_, rfl, ?_⟩
                replace hs6462 := Step.lift (U := [(0, 0)]) hs6462 [] rfl rfl
                generalize up C6447_ C6461 w6446.heap.size [(0, 0)] = C6461_ at hs6462
                replace HS6334 := HS6334.trans hs6462 hc rfl
                (try simp only [Act.put, List.setIfInBounds_toArray, ls0, ls1])
                refine on_guard (guard_on 11 false 70 rfl rfl rfl) ?_
                refine st (.bool x6322) rfl rfl (xr_move (.bool x6322) rfl rfl) ?_
                simp only [ls0, ls1]
                refine on_guard (guard_on 11 false 70 rfl rfl rfl) ?_
                refine st (.bool x6322) rfl rfl (xr_move (.bool x6322) rfl rfl) ?_
                simp only [ls0, ls1]
                by_cases c6463 : x6322 = true
                · rw [if_pos c6463] at H
                  (try rw [c6463])
                  (try simp only [Bool.not_true, Bool.not_false])
                  refine sk_guard (guard_off 17 false 76 rfl rfl true (by decide) rfl) rfl ?_
                  simp only [ls0, ls1]
                  refine sk_guard (guard_off 17 false 76 rfl rfl true (by decide) rfl) rfl ?_
                  simp only [ls0, ls1]
                  refine on_guard (guard_on 11 false 70 rfl rfl rfl) ?_
                  refine st (.bool true) rfl rfl (xr_pick true (.bool true) rfl rfl rfl) ?_
                  simp only [ls0, ls1]
                  refine on_guard (guard_on 11 false 70 rfl rfl rfl) ?_
                  refine st (.bool (decide (t6457 = true))) rfl rfl (xr_bin (.bool t6457) (.bool true) (.bool (decide (t6457 = true))) rfl rfl rfl (B.eql_bool Try.underlying4 t6457 true)) ?_
                  simp only [ls0, ls1]
                  refine on_guard (guard_on 8 true 67 rfl rfl rfl) ?_
                  refine st (.bool (decide (t6457 = true))) rfl rfl (xr_pick false (.bool (decide (t6457 = true))) rfl rfl rfl) ?_
                  simp only [ls0, ls1]
                  refine st (.bool (decide (t6457 = true))) rfl rfl (xr_pick true (.bool (decide (t6457 = true))) rfl rfl rfl) ?_
                  simp only [ls0, ls1]
                  refine st (.bool (decide (t6457 = true))) rfl rfl (xr_move (.bool (decide (t6457 = true))) rfl rfl) ?_
                  simp only [ls0, ls1]
                  by_cases c6464 : t6457 = true
                  · rw [if_pos c6464] at H
                    (try rw [c6464])
                    (try simp only [Bool.not_true, Bool.not_false])
                    refine on_guard (guard_on 24 true 83 rfl rfl rfl) ?_
                    obtain ⟨t6465, A6466, H⟩ := Option.bind_eq_some_iff.mp H
                    (try dsimp only at H)
                    refine st_call #[] rfl rfl Try.func9 (by kernel_rfl) rfl rfl (by simp only [List.map_toArray, List.map_cons, List.map_nil]; first | done | rfl) ?_
                    refine (blazonlaw13_awake.calls k6339 t6465  (fun z_ => pal [(0, 0)] (C6461_ z_)) w6460 (fun _ => pal_lt rfl _) A6466).mono ?_
                    rintro _ w6468 ⟨C6469, rfl, hs6470⟩
                    refine ⟨_, rfl, ?_⟩
                    replace hs6470 := Step.lift (U := [(0, 0)]) hs6470 [] rfl rfl
                    generalize up C6461_ C6469 w6460.heap.size [(0, 0)] = C6469_ at hs6470
                    replace HS6334 := HS6334.trans hs6470 hc rfl
                    (try simp only [Act.put, List.setIfInBounds_toArray, ls0, ls1])
                    refine st (.bool t6465) rfl rfl (xr_pick true (.bool t6465) rfl rfl rfl) ?_
                    simp only [ls0, ls1]
                    refine st (.bool t6465) rfl rfl (xr_assign (.bool t6465) rfl rfl) ?_
                    simp only [ls0, ls1]
                    refine wl_end ?_
                    (try simp only [Act.put, List.setIfInBounds_toArray, ls0, ls1])
                    refine hK6441 _ _ ?_
                    (try clear hK6441 K6441)
                    refine wp_ret ?_
                    (try simp only [Exit.inBlock, Exit.then, Exit.noGoto])
                    (try simp only [Act.put, List.setIfInBounds_toArray, ls0, ls1])
                    obtain rfl := Option.some.inj H
                    refine bodyPost_ret (results_tmp rfl _ _ _) rfl ?_
                    exact ⟨_, rfl, HS6334⟩
                  · rw [if_neg c6464] at H
                    (try rw [(Bool.eq_false_iff.mpr c6464)])
                    (try simp only [Bool.not_true, Bool.not_false])
                    refine sk_guard (guard_off 24 true 83 rfl rfl false (by decide) rfl) rfl ?_
                    simp only [ls0, ls1]
                    refine st (.bool false) rfl rfl (xr_pick false (.bool false) rfl rfl rfl) ?_
                    simp only [ls0, ls1]
                    refine st (.bool false) rfl rfl (xr_assign (.bool false) rfl rfl) ?_
                    simp only [ls0, ls1]
                    refine wl_end ?_
                    (try simp only [Act.put, List.setIfInBounds_toArray, ls0, ls1])
                    refine hK6441 _ _ ?_
                    (try clear hK6441 K6441)
                    refine wp_ret ?_
                    (try simp only [Exit.inBlock, Exit.then, Exit.noGoto])
                    (try simp only [Act.put, List.setIfInBounds_toArray, ls0, ls1])
                    obtain rfl := Option.some.inj H
                    refine bodyPost_ret (results_tmp rfl _ _ _) rfl ?_
                    exact ⟨_, rfl, HS6334⟩
                · rw [if_neg c6463] at H
                  (try rw [(Bool.eq_false_iff.mpr c6463)])
                  (try simp only [Bool.not_true, Bool.not_false])
                  refine on_guard (guard_on 17 false 76 rfl rfl rfl) ?_
                  refine st (.int .i64 (Int.tmod (wrap64 (a0)) 70)) rfl rfl (xr_move (.int .i64 (Int.tmod (wrap64 (a0)) 70)) rfl rfl) ?_
                  simp only [ls0, ls1]
                  refine on_guard (guard_on 17 false 76 rfl rfl rfl) ?_
                  refine st (.bool (decide ((Int.tmod (wrap64 (a0)) 70) = 1))) rfl rfl (xr_bin (.int .i64 (Int.tmod (wrap64 (a0)) 70)) (.int .i64 1) (.bool (decide ((Int.tmod (wrap64 (a0)) 70) = 1))) rfl rfl rfl (B.eql_i64 (Int.tmod (wrap64 (a0)) 70) 1)) ?_
                  simp only [ls0, ls1]
                  refine on_guard (guard_on 11 false 70 rfl rfl rfl) ?_
                  refine st (.bool (decide ((Int.tmod (wrap64 (a0)) 70) = 1))) rfl rfl (xr_pick false (.bool (decide ((Int.tmod (wrap64 (a0)) 70) = 1))) rfl rfl rfl) ?_
                  simp only [ls0, ls1]
                  refine on_guard (guard_on 11 false 70 rfl rfl rfl) ?_
                  refine st (.bool (decide (t6457 = (decide ((Int.tmod (wrap64 (a0)) 70) = 1))))) rfl rfl (xr_bin (.bool t6457) (.bool (decide ((Int.tmod (wrap64 (a0)) 70) = 1))) (.bool (decide (t6457 = (decide ((Int.tmod (wrap64 (a0)) 70) = 1))))) rfl rfl rfl (B.eql_bool Try.underlying4 t6457 (decide ((Int.tmod (wrap64 (a0)) 70) = 1)))) ?_
                  simp only [ls0, ls1]
                  refine on_guard (guard_on 8 true 67 rfl rfl rfl) ?_
                  refine st (.bool (decide (t6457 = (decide ((Int.tmod (wrap64 (a0)) 70) = 1))))) rfl rfl (xr_pick false (.bool (decide (t6457 = (decide ((Int.tmod (wrap64 (a0)) 70) = 1))))) rfl rfl rfl) ?_
                  simp only [ls0, ls1]
                  refine st (.bool (decide (t6457 = (decide ((Int.tmod (wrap64 (a0)) 70) = 1))))) rfl rfl (xr_pick true (.bool (decide (t6457 = (decide ((Int.tmod (wrap64 (a0)) 70) = 1))))) rfl rfl rfl) ?_
                  simp only [ls0, ls1]
                  refine st (.bool (decide (t6457 = (decide ((Int.tmod (wrap64 (a0)) 70) = 1))))) rfl rfl (xr_move (.bool (decide (t6457 = (decide ((Int.tmod (wrap64 (a0)) 70) = 1))))) rfl rfl) ?_
                  simp only [ls0, ls1]
                  by_cases c6471 : t6457 = (decide ((Int.tmod (wrap64 (a0)) 70) = 1))
                  · rw [if_pos c6471] at H
                    (try rw [(decide_eq_true c6471)])
                    (try simp only [Bool.not_true, Bool.not_false])
                    refine on_guard (guard_on 24 true 83 rfl rfl rfl) ?_
                    obtain ⟨t6472, A6473, H⟩ := Option.bind_eq_some_iff.mp H
                    (try dsimp only at H)
                    refine st_call #[] rfl rfl Try.func9 (by kernel_rfl) rfl rfl (by simp only [List.map_toArray, List.map_cons, List.map_nil]; first | done | rfl) ?_
                    refine (blazonlaw13_awake.calls k6339 t6472  (fun z_ => pal [(0, 0)] (C6461_ z_)) w6460 (fun _ => pal_lt rfl _) A6473).mono ?_
                    rintro _ w6475 ⟨C6476, rfl, hs6477⟩
                    refine ⟨_, rfl, ?_⟩
                    replace hs6477 := Step.lift (U := [(0, 0)]) hs6477 [] rfl rfl
                    generalize up C6461_ C6476 w6460.heap.size [(0, 0)] = C6476_ at hs6477
                    replace HS6334 := HS6334.trans hs6477 hc rfl
                    (try simp only [Act.put, List.setIfInBounds_toArray, ls0, ls1])
                    refine st (.bool t6472) rfl rfl (xr_pick true (.bool t6472) rfl rfl rfl) ?_
                    simp only [ls0, ls1]
                    refine st (.bool t6472) rfl rfl (xr_assign (.bool t6472) rfl rfl) ?_
                    simp only [ls0, ls1]
                    refine wl_end ?_
                    (try simp only [Act.put, List.setIfInBounds_toArray, ls0, ls1])
                    refine hK6441 _ _ ?_
                    (try clear hK6441 K6441)
                    refine wp_ret ?_
                    (try simp only [Exit.inBlock, Exit.then, Exit.noGoto])
                    (try simp only [Act.put, List.setIfInBounds_toArray, ls0, ls1])
                    obtain rfl := Option.some.inj H
                    refine bodyPost_ret (results_tmp rfl _ _ _) rfl ?_
                    exact ⟨_, rfl, HS6334⟩
                  · rw [if_neg c6471] at H
                    (try rw [(decide_eq_false c6471)])
                    (try simp only [Bool.not_true, Bool.not_false])
                    refine sk_guard (guard_off 24 true 83 rfl rfl false (by decide) rfl) rfl ?_
                    simp only [ls0, ls1]
                    refine st (.bool false) rfl rfl (xr_pick false (.bool false) rfl rfl rfl) ?_
                    simp only [ls0, ls1]
                    refine st (.bool false) rfl rfl (xr_assign (.bool false) rfl rfl) ?_
                    simp only [ls0, ls1]
                    refine wl_end ?_
                    (try simp only [Act.put, List.setIfInBounds_toArray, ls0, ls1])
                    refine hK6441 _ _ ?_
                    (try clear hK6441 K6441)
                    refine wp_ret ?_
                    (try simp only [Exit.inBlock, Exit.then, Exit.noGoto])
                    (try simp only [Act.put, List.setIfInBounds_toArray, ls0, ls1])
                    obtain rfl := Option.some.inj H
                    refine bodyPost_ret (results_tmp rfl _ _ _) rfl ?_
                    exact ⟨_, rfl, HS6334⟩
            · rw [if_neg c6449] at H
              (try rw [(decide_eq_false c6449)])
              (try simp only [Bool.not_true, Bool.not_false])
              refine sk_guard (guard_off 8 true 67 rfl rfl false (by decide) rfl) rfl ?_
              simp only [ls0, ls1]
              refine sk_guard (guard_off 8 true 67 rfl rfl false (by decide) rfl) rfl ?_
              simp only [ls0, ls1]
              refine sk_guard (guard_off 8 true 67 rfl rfl false (by decide) rfl) rfl ?_
              simp only [ls0, ls1]
              refine sk_guard (guard_und 11 false 70 rfl rfl rfl) rfl ?_
              simp only [ls0, ls1]
              refine sk_guard (guard_und 11 false 70 rfl rfl rfl) rfl ?_
              simp only [ls0, ls1]
              refine sk_guard (guard_und 11 false 70 rfl rfl rfl) rfl ?_
              simp only [ls0, ls1]
              refine sk_guard (guard_und 11 false 70 rfl rfl rfl) rfl ?_
              simp only [ls0, ls1]
              refine sk_guard (guard_und 11 false 70 rfl rfl rfl) rfl ?_
              simp only [ls0, ls1]
              refine sk_guard (guard_und 11 false 70 rfl rfl rfl) rfl ?_
              simp only [ls0, ls1]
              refine sk_guard (guard_und 17 false 76 rfl rfl rfl) rfl ?_
              simp only [ls0, ls1]
              refine sk_guard (guard_und 17 false 76 rfl rfl rfl) rfl ?_
              simp only [ls0, ls1]
              refine sk_guard (guard_und 11 false 70 rfl rfl rfl) rfl ?_
              simp only [ls0, ls1]
              refine sk_guard (guard_und 11 false 70 rfl rfl rfl) rfl ?_
              simp only [ls0, ls1]
              refine sk_guard (guard_off 8 true 67 rfl rfl false (by decide) rfl) rfl ?_
              simp only [ls0, ls1]
              refine st (.bool false) rfl rfl (xr_pick false (.bool false) rfl rfl rfl) ?_
              simp only [ls0, ls1]
              refine st (.bool false) rfl rfl (xr_move (.bool false) rfl rfl) ?_
              simp only [ls0, ls1]
              refine sk_guard (guard_off 24 true 83 rfl rfl false (by decide) rfl) rfl ?_
              simp only [ls0, ls1]
              refine st (.bool false) rfl rfl (xr_pick false (.bool false) rfl rfl rfl) ?_
              simp only [ls0, ls1]
              refine st (.bool false) rfl rfl (xr_assign (.bool false) rfl rfl) ?_
              simp only [ls0, ls1]
              refine wl_end ?_
              (try simp only [Act.put, List.setIfInBounds_toArray, ls0, ls1])
              refine hK6441 _ _ ?_
              (try clear hK6441 K6441)
              refine wp_ret ?_
              (try simp only [Exit.inBlock, Exit.then, Exit.noGoto])
              (try simp only [Act.put, List.setIfInBounds_toArray, ls0, ls1])
              obtain rfl := Option.some.inj H
              refine bodyPost_ret (results_tmp rfl _ _ _) rfl ?_
              exact ⟨_, rfl, HS6334⟩
          · rw [if_neg c6442] at H
            (try rw [(decide_eq_false c6442)])
            (try simp only [Bool.not_true, Bool.not_false])
            refine sk_guard (guard_off 2 true 61 rfl rfl false (by decide) rfl) rfl ?_
            simp only [ls0, ls1]
            refine sk_guard (guard_off 2 true 61 rfl rfl false (by decide) rfl) rfl ?_
            simp only [ls0, ls1]
            refine sk_guard (guard_off 2 true 61 rfl rfl false (by decide) rfl) rfl ?_
            simp only [ls0, ls1]
            refine sk_guard (guard_off 2 true 61 rfl rfl false (by decide) rfl) rfl ?_
            simp only [ls0, ls1]
            refine st (.bool false) rfl rfl (xr_pick false (.bool false) rfl rfl rfl) ?_
            simp only [ls0, ls1]
            refine st (.bool false) rfl rfl (xr_move (.bool false) rfl rfl) ?_
            simp only [ls0, ls1]
            refine sk_guard (guard_off 8 true 67 rfl rfl false (by decide) rfl) rfl ?_
            simp only [ls0, ls1]
            refine sk_guard (guard_off 8 true 67 rfl rfl false (by decide) rfl) rfl ?_
            simp only [ls0, ls1]
            refine sk_guard (guard_off 8 true 67 rfl rfl false (by decide) rfl) rfl ?_
            simp only [ls0, ls1]
            refine sk_guard (guard_und 11 false 70 rfl rfl rfl) rfl ?_
            simp only [ls0, ls1]
            refine sk_guard (guard_und 11 false 70 rfl rfl rfl) rfl ?_
            simp only [ls0, ls1]
            refine sk_guard (guard_und 11 false 70 rfl rfl rfl) rfl ?_
            simp only [ls0, ls1]
            refine sk_guard (guard_und 11 false 70 rfl rfl rfl) rfl ?_
            simp only [ls0, ls1]
            refine sk_guard (guard_und 11 false 70 rfl rfl rfl) rfl ?_
            simp only [ls0, ls1]
            refine sk_guard (guard_und 11 false 70 rfl rfl rfl) rfl ?_
            simp only [ls0, ls1]
            refine sk_guard (guard_und 17 false 76 rfl rfl rfl) rfl ?_
            simp only [ls0, ls1]
            refine sk_guard (guard_und 17 false 76 rfl rfl rfl) rfl ?_
            simp only [ls0, ls1]
            refine sk_guard (guard_und 11 false 70 rfl rfl rfl) rfl ?_
            simp only [ls0, ls1]
            refine sk_guard (guard_und 11 false 70 rfl rfl rfl) rfl ?_
            simp only [ls0, ls1]
            refine sk_guard (guard_off 8 true 67 rfl rfl false (by decide) rfl) rfl ?_
            simp only [ls0, ls1]
            refine st (.bool false) rfl rfl (xr_pick false (.bool false) rfl rfl rfl) ?_
            simp only [ls0, ls1]
            refine st (.bool false) rfl rfl (xr_move (.bool false) rfl rfl) ?_
            simp only [ls0, ls1]
            refine sk_guard (guard_off 24 true 83 rfl rfl false (by decide) rfl) rfl ?_
            simp only [ls0, ls1]
            refine st (.bool false) rfl rfl (xr_pick false (.bool false) rfl rfl rfl) ?_
            simp only [ls0, ls1]
            refine st (.bool false) rfl rfl (xr_assign (.bool false) rfl rfl) ?_
            simp only [ls0, ls1]
            refine wl_end ?_
            (try simp only [Act.put, List.setIfInBounds_toArray, ls0, ls1])
            refine hK6441 _ _ ?_
            (try clear hK6441 K6441)
            refine wp_ret ?_
            (try simp only [Exit.inBlock, Exit.then, Exit.noGoto])
            (try simp only [Act.put, List.setIfInBounds_toArray, ls0, ls1])
            obtain rfl := Option.some.inj H
            refine bodyPost_ret (results_tmp rfl _ _ _) rfl ?_
            exact ⟨_, rfl, HS6334⟩
/-- THE ONE PURE STATEMENT of blazonlaw13_OrderFull. -/
def blazonlaw13_OrderFull.Pure : Prop := ∀ (a0 : Int) (a1 : Bool), (Lit.int .u8 a0).wf = true → ∃ k, blazonlaw13_OrderFull.f k a0 a1 = some true
theorem blazonlaw13_OrderFull.walk (P : blazonlaw13_OrderFull.Pure) (a0 : Int) (a1 : Bool) (w : World) (w0 : (Lit.int .u8 a0).wf = true) :
    Calls Try.prog 3 #[.int .u8 a0, .bool a1] w fun e w' => e = .returned (.bool true) ∧ Below w.heap.size w w' := by
  obtain ⟨k, h⟩ := P a0 a1 w0
  refine (blazonlaw13_OrderFull.calls k a0 a1 true (fun _ => 0) w (fun _ => (by decide : (0 : Nat) < 10)) h).mono ?_
  rintro e w' ⟨c', rfl, hs⟩
  exact ⟨rfl, hs.below (fun _ => by simp)⟩

/-! ### blazonref13_Great: function 12 -/
mutual
def blazonref13_Great.j0 : Nat → Int → (List (S25)) → Int → Bool → Option (Bool)
  | 0, _, _, _, _ => none
  | k + 1, a1, l0, x6811, x6866 => if x6866 = true then (some true) else (blazonref13_Great.l0 k a1 l0 (wrap64 (x6811 + 1)))
def blazonref13_Great.j1 : Nat → Int → (List (S25)) → Int → Bool → Option (Bool)
  | 0, _, _, _, _ => none
  | k + 1, a1, l0, x6811, x6844 => if x6844 = true then (if 0 ≤ x6811 then (if x6811 < (l0.length : Int) then (if (((rd_T25 l0 x6811).f0).size : Int) > 100 then (blazonref13_Great.j0 k a1 l0 x6811 true) else (blazonref13_Great.j0 k a1 l0 x6811 (decide ((((rd_T25 l0 x6811).f1).size : Int) > 100)))) else (none)) else (none)) else (some (decide ((l0.length : Int) > a1)))
def blazonref13_Great.l0 : Nat → Int → (List (S25)) → Int → Option (Bool)
  | 0, _, _, _ => none
  | k + 1, a1, l0, x6811 => if x6811 < (l0.length : Int) then (blazonref13_Great.j1 k a1 l0 x6811 (decide (x6811 < a1))) else (blazonref13_Great.j1 k a1 l0 x6811 false)
end
def blazonref13_Great.f (k : Nat) (l0 : List (S25)) (a1 : Int) : Option (Bool) := blazonref13_Great.l0 k a1 l0 0

set_option maxHeartbeats 2000000 in
set_option maxRecDepth 100000 in
theorem blazonref13_Great.calls (k : Nat) (A0 : Option Addr) (c0 : Nat) (l0 : List (S25)) (a1 : Int) (r : Bool) (c : Nat → Nat) (w : World) (hc : ∀ k, c k < 10) (HP0 : Ft c [0] w (fun w_ => k25.C w_ A0 l0.length l0)) (HCP0 : l0.length ≤ c0) (H : blazonref13_Great.f k l0 a1 = some r) :
    Calls Try.prog 12 #[.slice A0 l0.length c0, .int .i64 a1] w fun e w' => ∃ (c' : Nat → Nat) , e = .returned (.bool r) ∧ Step c w c' w' [] := by
  unfold blazonref13_Great.f at H
  have HS := Step.refl c w []
  go_enter Try.func12, Try.ntmps12
  refine wp_seq_k fun K6681 hK6681 => ?_
  refine wl_region ?_
  refine st (.bool false) rfl rfl (xr_assign (.bool false) rfl rfl) ?_
  simp only [ls0, ls1]
  refine wl_end ?_
  (try simp only [Act.put, List.setIfInBounds_toArray, ls0, ls1])
  refine hK6681 _ _ ?_
  (try clear hK6681 K6681)
  refine wp_seq_k fun K6682 hK6682 => ?_
  refine wp_seq_k fun K6683 hK6683 => ?_
  refine wl_region ?_
  refine st (.int .i64 0) rfl rfl (xr_assign (.int .i64 0) rfl rfl) ?_
  simp only [ls0, ls1]
  refine wl_end ?_
  (try simp only [Act.put, List.setIfInBounds_toArray, ls0, ls1])
  refine hK6683 _ _ ?_
  (try clear hK6683 K6683)
  refine wp_block ?_
  (try simp only [Act.put, List.setIfInBounds_toArray, ls0, ls1])
  refine wp_looped (looped_ind (fun kq6815 a_ w6814 => ∃ (C6813 : Nat → Nat) (x6811 : Int) (g6812 : Nat → Value), a_ = ⟨#[.slice A0 l0.length c0, .int .i64 a1, (g6812 2), (g6812 3), (g6812 4), .int .i64 x6811, (g6812 6), (g6812 7), (g6812 8), (g6812 9), (g6812 10), (g6812 11), (g6812 12), (g6812 13), (g6812 14), (g6812 15), (g6812 16), (g6812 17), (g6812 18), (g6812 19), (g6812 20), (g6812 21), (g6812 22), (g6812 23), (g6812 24), (g6812 25), (g6812 26), (g6812 27), (g6812 28), (g6812 29), (g6812 30), (g6812 31), (g6812 32), (g6812 33), (g6812 34), (g6812 35), (g6812 36)], []⟩ ∧ Step c w C6813 w6814 [] ∧ kq6815 ≤ k ∧ (Ft C6813 [0] w6814 (fun w_ => k25.C w_ A0 l0.length l0)) ∧ blazonref13_Great.l0 kq6815 a1 l0 x6811 = some r) ?step k _ _ ?init)
  case init =>
    exact ⟨_, 0, (fun q_ => List.getD [undef, undef, undef, undef, .bool false, undef, undef, undef, undef, undef, undef, undef, undef, undef, undef, undef, undef, undef, undef, undef, undef, undef, undef, undef, undef, undef, undef, undef, undef, undef, undef, undef, undef, undef, undef, undef, undef] q_ undef), rfl, HS, Nat.le_refl _, HP0, H⟩
  case step =>
    intro kq6815 ih6818 a6819 w6814 hr6820
    obtain ⟨C6813, x6811, g6812, rfl, HS6816, hk6817, HJ6810, H⟩ := hr6820
    refine looped_round ?_
    cases kq6815 with
    | zero => exact absurd H (by simp [blazonref13_Great.l0])
    | succ k6821 =>
      simp only [blazonref13_Great.l0] at H
      refine wp_seq_k fun K6822 hK6822 => ?_
      refine wp_seq_k fun K6837 hK6837 => ?_
      have hj6839 : ∀ (kq6846 : Nat) (C6840 : Nat → Nat) (w6841 : World) (x6844 : Bool) (g6845 : Nat → Value), Step c w C6840 w6841 [] → kq6846 ≤ k6821 → (Ft C6840 [0] w6841 (fun w_ => k25.C w_ A0 l0.length l0)) → blazonref13_Great.j1 kq6846 a1 l0 x6811 x6844 = some r → K6837 ⟨#[.slice A0 l0.length c0, .int .i64 a1, (g6845 2), (g6845 3), (g6845 4), .int .i64 x6811, (g6845 6), (g6845 7), (g6845 8), (g6845 9), (g6845 10), (g6845 11), (g6845 12), (g6845 13), .bool x6844, (g6845 15), (g6845 16), (g6845 17), (g6845 18), (g6845 19), (g6845 20), (g6845 21), (g6845 22), (g6845 23), (g6845 24), (g6845 25), (g6845 26), (g6845 27), (g6845 28), (g6845 29), (g6845 30), (g6845 31), (g6845 32), (g6845 33), (g6845 34), (g6845 35), (g6845 36)], []⟩ w6841 := by
        intro kq6846 C6840 w6841 x6844 g6845 HS6842 hk6847 HJ6843 H
        cases kq6846 with
        | zero => exact absurd H (by simp [blazonref13_Great.j1])
        | succ k6848 =>
          simp only [blazonref13_Great.j1] at H
          refine hK6837 _ _ ?_
          (try clear hK6837)
          by_cases c6849 : x6844 = true
          · rw [if_pos c6849] at H
            (try rw [c6849])
            (try simp only [Bool.not_true, Bool.not_false])
            refine wp_cond_true rfl ?_
            refine wp_skip ?_
            (try simp only [Act.put, List.setIfInBounds_toArray, ls0, ls1])
            refine hK6822 _ _ ?_
            (try clear hK6822 K6822)
            refine wp_seq_k fun K6850 hK6850 => ?_
            refine wp_block ?_
            refine wp_seq_k fun K6851 hK6851 => ?_
            have hj6861 : ∀ (kq6868 : Nat) (C6862 : Nat → Nat) (w6863 : World) (x6866 : Bool) (g6867 : Nat → Value), Step c w C6862 w6863 [] → kq6868 ≤ k6848 → (Ft C6862 [0] w6863 (fun w_ => k25.C w_ A0 l0.length l0)) → blazonref13_Great.j0 kq6868 a1 l0 x6811 x6866 = some r → K6851 ⟨#[.slice A0 l0.length c0, .int .i64 a1, (g6867 2), (g6867 3), (g6867 4), .int .i64 x6811, (g6867 6), (g6867 7), (g6867 8), (g6867 9), (g6867 10), (g6867 11), (g6867 12), (g6867 13), (g6867 14), (g6867 15), (g6867 16), (g6867 17), (g6867 18), (g6867 19), (g6867 20), (g6867 21), (g6867 22), (g6867 23), (g6867 24), (g6867 25), (g6867 26), (g6867 27), (g6867 28), (g6867 29), (g6867 30), (g6867 31), .bool x6866, (g6867 33), (g6867 34), (g6867 35), (g6867 36)], []⟩ w6863 := by
              intro kq6868 C6862 w6863 x6866 g6867 HS6864 hk6869 HJ6865 H
              cases kq6868 with
              | zero => exact absurd H (by simp [blazonref13_Great.j0])
              | succ k6870 =>
                simp only [blazonref13_Great.j0] at H
                refine hK6851 _ _ ?_
                (try clear hK6851)
                by_cases c6871 : x6866 = true
                · rw [if_pos c6871] at H
                  (try rw [c6871])
                  (try simp only [Bool.not_true, Bool.not_false])
                  refine wp_cond_true rfl ?_
                  refine wp_seq_k fun K6872 hK6872 => ?_
                  refine wl_region ?_
                  refine st (.bool true) rfl rfl (xr_assign (.bool true) rfl rfl) ?_
                  simp only [ls0, ls1]
                  refine wl_end ?_
                  (try simp only [Act.put, List.setIfInBounds_toArray, ls0, ls1])
                  refine hK6872 _ _ ?_
                  (try clear hK6872 K6872)
                  refine wp_ret ?_
                  (try simp only [Exit.inBlock, Exit.then, Exit.noGoto])
                  (try simp only [Act.put, List.setIfInBounds_toArray, ls0, ls1])
                  obtain rfl := Option.some.inj H
                  refine bodyPost_ret (results_tmp rfl _ _ _) rfl ?_
                  exact ⟨_, rfl, HS6864⟩
                · rw [if_neg c6871] at H
                  (try rw [(Bool.eq_false_iff.mpr c6871)])
                  (try simp only [Bool.not_true, Bool.not_false])
                  refine wp_cond_false rfl ?_
                  refine wp_skip ?_
                  (try simp only [Act.put, List.setIfInBounds_toArray, ls0, ls1])
                  refine hK6850 _ _ ?_
                  (try clear hK6850 K6850)
                  refine wl_region ?_
                  refine st (.int .i64 x6811) rfl rfl (xr_move (.int .i64 x6811) rfl rfl) ?_
                  simp only [ls0, ls1]
                  refine st (.int .i64 (wrap64 (x6811 + 1))) rfl rfl (xr_bin (.int .i64 x6811) (.int .i64 1) (.int .i64 (wrap64 (x6811 + 1))) rfl rfl rfl (B.add_i64 x6811 1)) ?_
                  simp only [ls0, ls1]
                  refine st (.int .i64 (wrap64 (x6811 + 1))) rfl rfl (xr_assign (.int .i64 (wrap64 (x6811 + 1))) rfl rfl) ?_
                  simp only [ls0, ls1]
                  refine wl_end ?_
                  (try simp only [Act.put, List.setIfInBounds_toArray, ls0, ls1])
                  exact ih6818 k6870 (by omega) _ _ ⟨_, wrap64 (x6811 + 1), (fun q_ => List.getD [undef, undef, (g6867 2), (g6867 3), (g6867 4), undef, (g6867 6), (g6867 7), (g6867 8), (g6867 9), (g6867 10), (g6867 11), (g6867 12), (g6867 13), (g6867 14), .int .i64 x6811, .int .i64 (wrap64 (x6811 + 1)), (g6867 17), (g6867 18), (g6867 19), (g6867 20), (g6867 21), (g6867 22), (g6867 23), (g6867 24), (g6867 25), (g6867 26), (g6867 27), (g6867 28), (g6867 29), (g6867 30), (g6867 31), .bool false, (g6867 33), (g6867 34), (g6867 35), (g6867 36)] q_ undef), rfl, HS6864, (by omega), HJ6865, H⟩
            refine wl_region ?_
            refine st (.slice A0 l0.length c0) rfl rfl (xr_move (.slice A0 l0.length c0) rfl rfl) ?_
            simp only [ls0, ls1]
            refine st (.int .i64 x6811) rfl rfl (xr_move (.int .i64 x6811) rfl rfl) ?_
            simp only [ls0, ls1]
            by_cases c6873 : 0 ≤ x6811
            · rw [if_pos c6873] at H
              by_cases c6874 : x6811 < (l0.length : Int)
              · rw [if_pos c6874] at H
                obtain ⟨ad6875, hA6876⟩ := c_addr (Ft.now HJ6843) (pos_of (j := x6811) (by first | assumption | decide) (by first | assumption | omega))
                refine st (.pointer (some (ad6875.add ((x6811 : Int).toNat * 3)))) rfl rfl (xr_indexAddr (.slice A0 l0.length c0) (.int .i64 x6811) (.pointer (some (ad6875.add ((x6811 : Int).toNat * 3)))) rfl rfl rfl (index_at Try.underlying22 info25 hA6876 (by first | assumption | decide | omega) (by first | assumption | decide | omega))) ?_
                simp only [ls0, ls1]
                refine st (.pointer (some ((ad6875.add ((x6811 : Int).toNat * 3)).add 0))) rfl rfl (xr_fieldAddr (.pointer (some (ad6875.add ((x6811 : Int).toNat * 3)))) (.pointer (some ((ad6875.add ((x6811 : Int).toNat * 3)).add 0))) rfl rfl (field_at2 Try.underlying25 rfl rfl (by kernel_rfl))) ?_
                simp only [ls0, ls1]
                refine st (.string ((rd_T25 l0 x6811).f0)) rfl rfl (xr_load (.pointer (some ((ad6875.add ((x6811 : Int).toNat * 3)).add 0))) (.string ((rd_T25 l0 x6811).f0)) rfl rfl (by obtain ⟨ad_, cs_, e_, _, hK_, hc_⟩ := Kd.C_get (Ft.now HJ6843) z25 x6811 (by first | assumption | decide | omega) (by first | assumption | decide | omega); rw [hA6876] at e_; injection e_ with e_; subst e_; obtain rfl := k25_open hK_; exact load_cell Try.underlying9 rfl (by first | (rw [add_add]; exact hc_ 0 _ rfl) | (have h_ := hc_ 0 _ rfl; rw [Nat.add_zero] at h_; exact h_)))) ?_
                simp only [ls0, ls1]
                refine st (.int .i64 (((rd_T25 l0 x6811).f0).size : Int)) rfl rfl (xr_builtin #[.string ((rd_T25 l0 x6811).f0)] (.int .i64 (((rd_T25 l0 x6811).f0).size : Int)) rfl (by simp only [List.map_toArray, List.map_cons, List.map_nil]; first | done | rfl) (by first | rfl | (go_simp; done) | (go_simp; rfl) | (go_simp; exact i64_w _) | (go_simp; exact i32_w _))) ?_
                simp only [ls0, ls1]
                refine st (.bool (decide ((((rd_T25 l0 x6811).f0).size : Int) > 100))) rfl rfl (xr_bin (.int .i64 (((rd_T25 l0 x6811).f0).size : Int)) (.int .i64 100) (.bool (decide ((((rd_T25 l0 x6811).f0).size : Int) > 100))) rfl rfl rfl (B.gtr_i64 (((rd_T25 l0 x6811).f0).size : Int) 100)) ?_
                simp only [ls0, ls1]
                refine st (.bool (decide ((((rd_T25 l0 x6811).f0).size : Int) > 100))) rfl rfl (xr_move (.bool (decide ((((rd_T25 l0 x6811).f0).size : Int) > 100))) rfl rfl) ?_
                simp only [ls0, ls1]
                by_cases c6878 : (((rd_T25 l0 x6811).f0).size : Int) > 100
                · rw [if_pos c6878] at H
                  (try rw [(decide_eq_true c6878)])
                  (try simp only [Bool.not_true, Bool.not_false])
                  refine sk_guard (guard_off 7 false 24 rfl rfl true (by decide) rfl) rfl ?_
                  simp only [ls0, ls1]
                  refine sk_guard (guard_off 7 false 24 rfl rfl true (by decide) rfl) rfl ?_
                  simp only [ls0, ls1]
                  refine sk_guard (guard_off 7 false 24 rfl rfl true (by decide) rfl) rfl ?_
                  simp only [ls0, ls1]
                  refine sk_guard (guard_off 7 false 24 rfl rfl true (by decide) rfl) rfl ?_
                  simp only [ls0, ls1]
                  refine sk_guard (guard_off 7 false 24 rfl rfl true (by decide) rfl) rfl ?_
                  simp only [ls0, ls1]
                  refine sk_guard (guard_off 7 false 24 rfl rfl true (by decide) rfl) rfl ?_
                  simp only [ls0, ls1]
                  refine sk_guard (guard_off 7 false 24 rfl rfl true (by decide) rfl) rfl ?_
                  simp only [ls0, ls1]
                  refine st (.bool true) rfl rfl (xr_pick true (.bool true) rfl rfl rfl) ?_
                  simp only [ls0, ls1]
                  refine wl_end ?_
                  (try simp only [Act.put, List.setIfInBounds_toArray, ls0, ls1])
                  exact hj6861 _ _ _ (true) (fun q_ => List.getD [undef, undef, (g6845 2), (g6845 3), (g6845 4), undef, (g6845 6), (g6845 7), (g6845 8), (g6845 9), (g6845 10), (g6845 11), (g6845 12), (g6845 13), .bool true, (g6845 15), (g6845 16), .slice A0 l0.length c0, .int .i64 x6811, .pointer (some (ad6875.add ((x6811 : Int).toNat * 3))), .pointer (some ((ad6875.add ((x6811 : Int).toNat * 3)).add 0)), .string ((rd_T25 l0 x6811).f0), .int .i64 (((rd_T25 l0 x6811).f0).size : Int), .bool true, .bool true, undef, undef, undef, undef, undef, undef, undef, undef, (g6845 33), (g6845 34), (g6845 35), (g6845 36)] q_ undef)  HS6842 (by omega) HJ6843 H
                · rw [if_neg c6878] at H
                  (try rw [(decide_eq_false c6878)])
                  (try simp only [Bool.not_true, Bool.not_false])
                  refine on_guard (guard_on 7 false 24 rfl rfl rfl) ?_
                  refine st (.slice A0 l0.length c0) rfl rfl (xr_move (.slice A0 l0.length c0) rfl rfl) ?_
                  simp only [ls0, ls1]
                  refine on_guard (guard_on 7 false 24 rfl rfl rfl) ?_
                  refine st (.int .i64 x6811) rfl rfl (xr_move (.int .i64 x6811) rfl rfl) ?_
                  simp only [ls0, ls1]
                  refine on_guard (guard_on 7 false 24 rfl rfl rfl) ?_
                  obtain ⟨ad6879, hA6880⟩ := c_addr (Ft.now HJ6843) (pos_of (j := x6811) (by first | assumption | decide) (by first | assumption | omega))
                  refine st (.pointer (some (ad6879.add ((x6811 : Int).toNat * 3)))) rfl rfl (xr_indexAddr (.slice A0 l0.length c0) (.int .i64 x6811) (.pointer (some (ad6879.add ((x6811 : Int).toNat * 3)))) rfl rfl rfl (index_at Try.underlying22 info25 hA6880 (by first | assumption | decide | omega) (by first | assumption | decide | omega))) ?_
                  simp only [ls0, ls1]
                  refine on_guard (guard_on 7 false 24 rfl rfl rfl) ?_
                  refine st (.pointer (some ((ad6879.add ((x6811 : Int).toNat * 3)).add 1))) rfl rfl (xr_fieldAddr (.pointer (some (ad6879.add ((x6811 : Int).toNat * 3)))) (.pointer (some ((ad6879.add ((x6811 : Int).toNat * 3)).add 1))) rfl rfl (field_at2 Try.underlying25 rfl rfl (by kernel_rfl))) ?_
                  simp only [ls0, ls1]
                  refine on_guard (guard_on 7 false 24 rfl rfl rfl) ?_
                  refine st (.string ((rd_T25 l0 x6811).f1)) rfl rfl (xr_load (.pointer (some ((ad6879.add ((x6811 : Int).toNat * 3)).add 1))) (.string ((rd_T25 l0 x6811).f1)) rfl rfl (by obtain ⟨ad_, cs_, e_, _, hK_, hc_⟩ := Kd.C_get (Ft.now HJ6843) z25 x6811 (by first | assumption | decide | omega) (by first | assumption | decide | omega); rw [hA6880] at e_; injection e_ with e_; subst e_; obtain rfl := k25_open hK_; exact load_cell Try.underlying9 rfl (by first | (rw [add_add]; exact hc_ 1 _ rfl) | (have h_ := hc_ 1 _ rfl; rw [Nat.add_zero] at h_; exact h_)))) ?_
                  simp only [ls0, ls1]
                  refine on_guard (guard_on 7 false 24 rfl rfl rfl) ?_
                  refine st (.int .i64 (((rd_T25 l0 x6811).f1).size : Int)) rfl rfl (xr_builtin #[.string ((rd_T25 l0 x6811).f1)] (.int .i64 (((rd_T25 l0 x6811).f1).size : Int)) rfl (by simp only [List.map_toArray, List.map_cons, List.map_nil]; first | done | rfl) (by first | rfl | (go_simp; done) | (go_simp; rfl) | (go_simp; exact i64_w _) | (go_simp; exact i32_w _))) ?_
                  simp only [ls0, ls1]
                  refine on_guard (guard_on 7 false 24 rfl rfl rfl) ?_
                  refine st (.bool (decide ((((rd_T25 l0 x6811).f1).size : Int) > 100))) rfl rfl (xr_bin (.int .i64 (((rd_T25 l0 x6811).f1).size : Int)) (.int .i64 100) (.bool (decide ((((rd_T25 l0 x6811).f1).size : Int) > 100))) rfl rfl rfl (B.gtr_i64 (((rd_T25 l0 x6811).f1).size : Int) 100)) ?_
                  simp only [ls0, ls1]
                  refine st (.bool (decide ((((rd_T25 l0 x6811).f1).size : Int) > 100))) rfl rfl (xr_pick false (.bool (decide ((((rd_T25 l0 x6811).f1).size : Int) > 100))) rfl rfl rfl) ?_
                  simp only [ls0, ls1]
                  refine wl_end ?_
                  (try simp only [Act.put, List.setIfInBounds_toArray, ls0, ls1])
                  exact hj6861 _ _ _ (decide ((((rd_T25 l0 x6811).f1).size : Int) > 100)) (fun q_ => List.getD [undef, undef, (g6845 2), (g6845 3), (g6845 4), undef, (g6845 6), (g6845 7), (g6845 8), (g6845 9), (g6845 10), (g6845 11), (g6845 12), (g6845 13), .bool true, (g6845 15), (g6845 16), .slice A0 l0.length c0, .int .i64 x6811, .pointer (some (ad6875.add ((x6811 : Int).toNat * 3))), .pointer (some ((ad6875.add ((x6811 : Int).toNat * 3)).add 0)), .string ((rd_T25 l0 x6811).f0), .int .i64 (((rd_T25 l0 x6811).f0).size : Int), .bool false, .bool false, .slice A0 l0.length c0, .int .i64 x6811, .pointer (some (ad6879.add ((x6811 : Int).toNat * 3))), .pointer (some ((ad6879.add ((x6811 : Int).toNat * 3)).add 1)), .string ((rd_T25 l0 x6811).f1), .int .i64 (((rd_T25 l0 x6811).f1).size : Int), .bool (decide ((((rd_T25 l0 x6811).f1).size : Int) > 100)), undef, (g6845 33), (g6845 34), (g6845 35), (g6845 36)] q_ undef)  HS6842 (by omega) HJ6843 H
              · rw [if_neg c6874] at H
                exact absurd H (by simp)
            · rw [if_neg c6873] at H
              exact absurd H (by simp)
          · rw [if_neg c6849] at H
            (try rw [(Bool.eq_false_iff.mpr c6849)])
            (try simp only [Bool.not_true, Bool.not_false])
            refine wp_cond_false rfl ?_
            refine wp_exit ?_
            (try simp only [Act.put, List.setIfInBounds_toArray, ls0, ls1])
            refine hK6682 _ _ ?_
            (try clear hK6682 K6682)
            refine wp_seq_k fun K6882 hK6882 => ?_
            refine wl_region ?_
            refine st (.slice A0 l0.length c0) rfl rfl (xr_move (.slice A0 l0.length c0) rfl rfl) ?_
            simp only [ls0, ls1]
            refine st (.int .i64 (l0.length : Int)) rfl rfl (xr_builtin #[.slice A0 l0.length c0] (.int .i64 (l0.length : Int)) rfl (by simp only [List.map_toArray, List.map_cons, List.map_nil]; first | done | rfl) (by first | rfl | (go_simp; done) | (go_simp; rfl) | (go_simp; exact i64_w _) | (go_simp; exact i32_w _))) ?_
            simp only [ls0, ls1]
            refine st (.int .i64 a1) rfl rfl (xr_move (.int .i64 a1) rfl rfl) ?_
            simp only [ls0, ls1]
            refine st (.bool (decide ((l0.length : Int) > a1))) rfl rfl (xr_bin (.int .i64 (l0.length : Int)) (.int .i64 a1) (.bool (decide ((l0.length : Int) > a1))) rfl rfl rfl (B.gtr_i64 (l0.length : Int) a1)) ?_
            simp only [ls0, ls1]
            refine st (.bool (decide ((l0.length : Int) > a1))) rfl rfl (xr_assign (.bool (decide ((l0.length : Int) > a1))) rfl rfl) ?_
            simp only [ls0, ls1]
            refine wl_end ?_
            (try simp only [Act.put, List.setIfInBounds_toArray, ls0, ls1])
            refine hK6882 _ _ ?_
            (try clear hK6882 K6882)
            refine wp_ret ?_
            (try simp only [Exit.inBlock, Exit.then, Exit.noGoto])
            (try simp only [Act.put, List.setIfInBounds_toArray, ls0, ls1])
            obtain rfl := Option.some.inj H
            refine bodyPost_ret (results_tmp rfl _ _ _) rfl ?_
            exact ⟨_, rfl, HS6842⟩
      refine wl_region ?_
      refine st (.int .i64 x6811) rfl rfl (xr_move (.int .i64 x6811) rfl rfl) ?_
      simp only [ls0, ls1]
      refine st (.slice A0 l0.length c0) rfl rfl (xr_move (.slice A0 l0.length c0) rfl rfl) ?_
      simp only [ls0, ls1]
      refine st (.int .i64 (l0.length : Int)) rfl rfl (xr_builtin #[.slice A0 l0.length c0] (.int .i64 (l0.length : Int)) rfl (by simp only [List.map_toArray, List.map_cons, List.map_nil]; first | done | rfl) (by first | rfl | (go_simp; done) | (go_simp; rfl) | (go_simp; exact i64_w _) | (go_simp; exact i32_w _))) ?_
      simp only [ls0, ls1]
      refine st (.bool (decide (x6811 < (l0.length : Int)))) rfl rfl (xr_bin (.int .i64 x6811) (.int .i64 (l0.length : Int)) (.bool (decide (x6811 < (l0.length : Int)))) rfl rfl rfl (B.lss_i64 x6811 (l0.length : Int))) ?_
      simp only [ls0, ls1]
      refine st (.bool (decide (x6811 < (l0.length : Int)))) rfl rfl (xr_move (.bool (decide (x6811 < (l0.length : Int)))) rfl rfl) ?_
      simp only [ls0, ls1]
      by_cases c6883 : x6811 < (l0.length : Int)
      · rw [if_pos c6883] at H
        (try rw [(decide_eq_true c6883)])
        (try simp only [Bool.not_true, Bool.not_false])
        refine on_guard (guard_on 4 true 10 rfl rfl rfl) ?_
        refine st (.int .i64 x6811) rfl rfl (xr_move (.int .i64 x6811) rfl rfl) ?_
        simp only [ls0, ls1]
        refine on_guard (guard_on 4 true 10 rfl rfl rfl) ?_
        refine st (.int .i64 a1) rfl rfl (xr_move (.int .i64 a1) rfl rfl) ?_
        simp only [ls0, ls1]
        refine on_guard (guard_on 4 true 10 rfl rfl rfl) ?_
        refine st (.bool (decide (x6811 < a1))) rfl rfl (xr_bin (.int .i64 x6811) (.int .i64 a1) (.bool (decide (x6811 < a1))) rfl rfl rfl (B.lss_i64 x6811 a1)) ?_
        simp only [ls0, ls1]
        refine st (.bool (decide (x6811 < a1))) rfl rfl (xr_pick true (.bool (decide (x6811 < a1))) rfl rfl rfl) ?_
        simp only [ls0, ls1]
        refine wl_end ?_
        (try simp only [Act.put, List.setIfInBounds_toArray, ls0, ls1])
        exact hj6839 _ _ _ (decide (x6811 < a1)) (fun q_ => List.getD [undef, undef, (g6812 2), (g6812 3), (g6812 4), undef, .int .i64 x6811, .slice A0 l0.length c0, .int .i64 (l0.length : Int), .bool true, .bool true, .int .i64 x6811, .int .i64 a1, .bool (decide (x6811 < a1)), undef, (g6812 15), (g6812 16), (g6812 17), (g6812 18), (g6812 19), (g6812 20), (g6812 21), (g6812 22), (g6812 23), (g6812 24), (g6812 25), (g6812 26), (g6812 27), (g6812 28), (g6812 29), (g6812 30), (g6812 31), (g6812 32), (g6812 33), (g6812 34), (g6812 35), (g6812 36)] q_ undef)  HS6816 (by omega) HJ6810 H
      · rw [if_neg c6883] at H
        (try rw [(decide_eq_false c6883)])
        (try simp only [Bool.not_true, Bool.not_false])
        refine sk_guard (guard_off 4 true 10 rfl rfl false (by decide) rfl) rfl ?_
        simp only [ls0, ls1]
        refine sk_guard (guard_off 4 true 10 rfl rfl false (by decide) rfl) rfl ?_
        simp only [ls0, ls1]
        refine sk_guard (guard_off 4 true 10 rfl rfl false (by decide) rfl) rfl ?_
        simp only [ls0, ls1]
        refine st (.bool false) rfl rfl (xr_pick false (.bool false) rfl rfl rfl) ?_
        simp only [ls0, ls1]
        refine wl_end ?_
        (try simp only [Act.put, List.setIfInBounds_toArray, ls0, ls1])
        exact hj6839 _ _ _ (false) (fun q_ => List.getD [undef, undef, (g6812 2), (g6812 3), (g6812 4), undef, .int .i64 x6811, .slice A0 l0.length c0, .int .i64 (l0.length : Int), .bool false, .bool false, undef, undef, undef, undef, (g6812 15), (g6812 16), (g6812 17), (g6812 18), (g6812 19), (g6812 20), (g6812 21), (g6812 22), (g6812 23), (g6812 24), (g6812 25), (g6812 26), (g6812 27), (g6812 28), (g6812 29), (g6812 30), (g6812 31), (g6812 32), (g6812 33), (g6812 34), (g6812 35), (g6812 36)] q_ undef)  HS6816 (by omega) HJ6810 H

/-! ### order_Order_Find: function 13 -/
def order_Order_Find.f (x0 : Option S47) (a1 : ByteArray) : Option (Int × Bool) := onOpt x0 (some (0, false)) (fun o6899 => (some (mget 0 o6899.f1 a1, mhas o6899.f1 a1)))
set_option maxHeartbeats 2000000 in
set_option maxRecDepth 100000 in
theorem order_Order_Find.calls (v0 : Value) (x0 : Option S47) (a1 : ByteArray) (r1 : Int) (r2 : Bool) (c : Nat → Nat) (w : World) (hc : ∀ k, c k < 10) (HP0 : Ft c [0] w (fun w_ => (Kd.ptr 47 k47).K w_ x0 [v0])) (H : order_Order_Find.f x0 a1 = some (r1, r2)) :
    Calls Try.prog 13 #[v0, .string a1] w fun e w' => ∃ (c' : Nat → Nat) , e = .returned (.tuple #[.int .i64 r1, .bool r2]) ∧ Step c w c' w' [] := by
  unfold order_Order_Find.f at H
  have HS := Step.refl c w []
  go_enter Try.func13, Try.ntmps13
  refine wp_seq_k fun K6896 hK6896 => ?_
  refine wl_region ?_
  refine st (.int .i64 0) rfl rfl (xr_assign (.int .i64 0) rfl rfl) ?_
  simp only [ls0, ls1]
  refine st (.bool false) rfl rfl (xr_assign (.bool false) rfl rfl) ?_
  simp only [ls0, ls1]
  refine wl_end ?_
  (try simp only [Act.put, List.setIfInBounds_toArray, ls0, ls1])
  refine hK6896 _ _ ?_
  (try clear hK6896 K6896)
  refine wp_seq_k fun K6897 hK6897 => ?_
  refine wp_seq_k fun K6898 hK6898 => ?_
  refine wl_region ?_
  refine st (v0) rfl rfl (xr_move (v0) rfl rfl) ?_
  simp only [ls0, ls1]
  cases x0 with
  | none =>
    (try simp only [onOpt] at H)
    obtain rfl := ptr_none HP0
    refine st (.bool true) rfl rfl (xr_bin (.pointer none) (.pointer none) (.bool true) rfl rfl rfl (B.eql_nn ⟨_, Try.underlying26⟩ (⟨0, 0, none⟩ : Addr))) ?_
    simp only [ls0, ls1]
    refine wl_end ?_
    (try simp only [Act.put, List.setIfInBounds_toArray, ls0, ls1])
    refine hK6898 _ _ ?_
    (try clear hK6898 K6898)
    refine wp_cond_true rfl ?_
    refine wp_seq_k fun K6900 hK6900 => ?_
    refine wl_region ?_
    refine st (.int .i64 0) rfl rfl (xr_assign (.int .i64 0) rfl rfl) ?_
    simp only [ls0, ls1]
    refine st (.bool false) rfl rfl (xr_assign (.bool false) rfl rfl) ?_
    simp only [ls0, ls1]
    refine wl_end ?_
    (try simp only [Act.put, List.setIfInBounds_toArray, ls0, ls1])
    refine hK6900 _ _ ?_
    (try clear hK6900 K6900)
    refine wp_ret ?_
    (try simp only [Exit.inBlock, Exit.then, Exit.noGoto])
    (try simp only [Act.put, List.setIfInBounds_toArray, ls0, ls1])
    simp only [Option.some.injEq, Prod.mk.injEq] at H
    obtain ⟨rfl, rfl⟩ := H
    refine bodyPost_ret (results_tmp2 rfl _ _ _) rfl ?_
    exact ⟨_, rfl, HS⟩
  | some o6899 =>
    (try simp only [onOpt] at H)
    obtain ⟨g6901, cs6902, rfl, HX6903, HK6904⟩ := ptr_some HP0
    obtain ⟨Aq6905_0, cpq6905_0, vq6905_1, rfl, HCq6905_0, HRq6905_0, HRq6905_1, HLq6905_2, HLq6905_3⟩ := k47_openF HK6904
    replace HRq6905_0 : Ft c [0] w (fun w_ => Kd.string.C w_ Aq6905_0 o6899.f0.length o6899.f0) := HRq6905_0
    replace HRq6905_1 : Ft c [0] w (fun w_ => (Kd.mp Value.string (Value.int .i64)).K w_ o6899.f1 [vq6905_1]) := HRq6905_1
    refine st (.bool false) rfl rfl (xr_bin (.pointer (some ⟨g6901, 0, none⟩)) (.pointer none) (.bool false) rfl rfl rfl (B.eql_pn ⟨_, Try.underlying26⟩ ⟨g6901, 0, none⟩)) ?_
    simp only [ls0, ls1]
    refine wl_end ?_
    (try simp only [Act.put, List.setIfInBounds_toArray, ls0, ls1])
    refine hK6898 _ _ ?_
    (try clear hK6898 K6898)
    refine wp_cond_false rfl ?_
    refine wp_skip ?_
    (try simp only [Act.put, List.setIfInBounds_toArray, ls0, ls1])
    refine hK6897 _ _ ?_
    (try clear hK6897 K6897)
    refine wp_seq_k fun K6906 hK6906 => ?_
    refine wl_region ?_
    refine st (.pointer (some ⟨g6901, 0, none⟩)) rfl rfl (xr_move (.pointer (some ⟨g6901, 0, none⟩)) rfl rfl) ?_
    simp only [ls0, ls1]
    refine st (.pointer (some ⟨g6901, 0, none⟩)) rfl rfl (xr_nilCheck ⟨g6901, 0, none⟩ rfl rfl) ?_
    simp only [ls0, ls1]
    refine st (.pointer (some ⟨g6901, 1, none⟩)) rfl rfl (xr_fieldAddr (.pointer (some ⟨g6901, 0, none⟩)) (.pointer (some ⟨g6901, 1, none⟩)) rfl rfl (bx_field2 Try.underlying47 rfl rfl (by kernel_rfl))) ?_
    simp only [ls0, ls1]
    refine st (vq6905_1) rfl rfl (xr_load (.pointer (some ⟨g6901, 1, none⟩)) (vq6905_1) rfl rfl (load_cell Try.underlying43 rfl (bx_cell (l := ([.slice Aq6905_0 o6899.f0.length cpq6905_0, vq6905_1] ++ (List.map (Value.int .u64) o6899.f2 ++ (List.map (Value.int .u64) o6899.f3)))) (Ft.now HX6903) 1 rfl))) ?_
    simp only [ls0, ls1]
    refine st (.string a1) rfl rfl (xr_move (.string a1) rfl rfl) ?_
    simp only [ls0, ls1]
    refine st (.tuple #[.int .i64 (mget 0 o6899.f1 a1), .bool (mhas o6899.f1 a1)]) rfl rfl (xr_lookup (vq6905_1) (.string a1) (.tuple #[.int .i64 (mget 0 o6899.f1 a1), .bool (mhas o6899.f1 a1)]) rfl rfl rfl (look_ro (z := 0) (keyK_str Try.underlying9) Try.underlying43 info3 (Ft.now HRq6905_1) a1 true)) ?_
    simp only [ls0, ls1]
    refine st (.tuple #[.int .i64 (mget 0 o6899.f1 a1), .bool (mhas o6899.f1 a1)]) rfl rfl (xr_move (.tuple #[.int .i64 (mget 0 o6899.f1 a1), .bool (mhas o6899.f1 a1)]) rfl rfl) ?_
    simp only [ls0, ls1]
    refine st (.int .i64 (mget 0 o6899.f1 a1)) rfl rfl (xr_extract (.tuple #[.int .i64 (mget 0 o6899.f1 a1), .bool (mhas o6899.f1 a1)]) (.int .i64 (mget 0 o6899.f1 a1)) rfl rfl rfl) ?_
    simp only [ls0, ls1]
    refine st (.bool (mhas o6899.f1 a1)) rfl rfl (xr_extract (.tuple #[.int .i64 (mget 0 o6899.f1 a1), .bool (mhas o6899.f1 a1)]) (.bool (mhas o6899.f1 a1)) rfl rfl rfl) ?_
    simp only [ls0, ls1]
    refine st (.int .i64 (mget 0 o6899.f1 a1)) rfl rfl (xr_assign (.int .i64 (mget 0 o6899.f1 a1)) rfl rfl) ?_
    simp only [ls0, ls1]
    refine st (.bool (mhas o6899.f1 a1)) rfl rfl (xr_assign (.bool (mhas o6899.f1 a1)) rfl rfl) ?_
    simp only [ls0, ls1]
    refine wl_end ?_
    (try simp only [Act.put, List.setIfInBounds_toArray, ls0, ls1])
    refine hK6906 _ _ ?_
    (try clear hK6906 K6906)
    refine wp_seq_k fun K6907 hK6907 => ?_
    refine wl_region ?_
    refine st (.int .i64 (mget 0 o6899.f1 a1)) rfl rfl (xr_move (.int .i64 (mget 0 o6899.f1 a1)) rfl rfl) ?_
    simp only [ls0, ls1]
    refine st (.bool (mhas o6899.f1 a1)) rfl rfl (xr_move (.bool (mhas o6899.f1 a1)) rfl rfl) ?_
    simp only [ls0, ls1]
    refine st (.int .i64 (mget 0 o6899.f1 a1)) rfl rfl (xr_assign (.int .i64 (mget 0 o6899.f1 a1)) rfl rfl) ?_
    simp only [ls0, ls1]
    refine st (.bool (mhas o6899.f1 a1)) rfl rfl (xr_assign (.bool (mhas o6899.f1 a1)) rfl rfl) ?_
    simp only [ls0, ls1]
    refine wl_end ?_
    (try simp only [Act.put, List.setIfInBounds_toArray, ls0, ls1])
    refine hK6907 _ _ ?_
    (try clear hK6907 K6907)
    refine wp_ret ?_
    (try simp only [Exit.inBlock, Exit.then, Exit.noGoto])
    (try simp only [Act.put, List.setIfInBounds_toArray, ls0, ls1])
    simp only [Option.some.injEq, Prod.mk.injEq] at H
    obtain ⟨rfl, rfl⟩ := H
    refine bodyPost_ret (results_tmp2 rfl _ _ _) rfl ?_
    exact ⟨_, rfl, HS⟩

/-! ### order_Order_Name: function 14 -/
def order_Order_Name.f (x0 : Option S47) (a1 : Int) : Option (ByteArray) := (order_Order_in.f x0 a1).bind fun t6933 => (if t6933 = true then (onOpt x0 (none) (fun o6941 => (if 0 ≤ a1 then (if a1 < (o6941.f0.length : Int) then (some (rdOf ByteArray.empty o6941.f0 a1)) else (none)) else (none)))) else (some (⟨#[]⟩ : ByteArray)))
set_option maxHeartbeats 2000000 in
set_option maxRecDepth 100000 in
theorem order_Order_Name.calls (v0 : Value) (x0 : Option S47) (a1 : Int) (r : ByteArray) (c : Nat → Nat) (w : World) (hc : ∀ k, c k < 10) (HP0 : Ft c [0] w (fun w_ => (Kd.ptr 47 k47).K w_ x0 [v0])) (H : order_Order_Name.f x0 a1 = some r) :
    Calls Try.prog 14 #[v0, .int .i64 a1] w fun e w' => ∃ (c' : Nat → Nat) , e = .returned (.string r) ∧ Step c w c' w' [] := by
  unfold order_Order_Name.f at H
  have HS := Step.refl c w []
  go_enter Try.func14, Try.ntmps14
  refine wp_seq_k fun K6930 hK6930 => ?_
  refine wl_region ?_
  refine st (.string (⟨#[]⟩ : ByteArray)) rfl rfl (xr_assign (.string (⟨#[]⟩ : ByteArray)) rfl rfl) ?_
  simp only [ls0, ls1]
  refine wl_end ?_
  (try simp only [Act.put, List.setIfInBounds_toArray, ls0, ls1])
  refine hK6930 _ _ ?_
  (try clear hK6930 K6930)
  refine wp_seq_k fun K6931 hK6931 => ?_
  refine wp_seq_k fun K6932 hK6932 => ?_
  refine wl_region ?_
  refine st (v0) rfl rfl (xr_move (v0) rfl rfl) ?_
  simp only [ls0, ls1]
  refine st (.int .i64 a1) rfl rfl (xr_move (.int .i64 a1) rfl rfl) ?_
  simp only [ls0, ls1]
  obtain ⟨t6933, A6934, H⟩ := Option.bind_eq_some_iff.mp H
  (try dsimp only at H)
  refine st_call #[v0, .int .i64 a1] rfl rfl Try.func20 (by kernel_rfl) rfl rfl (by simp only [List.map_toArray, List.map_cons, List.map_nil]; first | done | rfl) ?_
  refine (order_Order_in.calls v0 x0 a1 t6933  (fun z_ => pal [(0, 0)] (c z_)) w (fun _ => pal_lt rfl _) (Ft.arg HP0 rfl) A6934).mono ?_
  rintro _ w6936 ⟨C6937, rfl, hs6938⟩
  refine ⟨_, rfl, ?_⟩
  replace hs6938 := Step.lift (U := [(0, 0)]) hs6938 [] rfl rfl
  generalize up c C6937 w.heap.size [(0, 0)] = C6937_ at hs6938
  replace HP0 := HP0.thru hs6938 rfl
  replace HS := HS.trans hs6938 hc rfl
  (try simp only [Act.put, List.setIfInBounds_toArray, ls0, ls1])
  refine st (.bool (!t6933)) rfl rfl (xr_un (.bool t6933) (.bool (!t6933)) rfl rfl (by first | rfl | (go_simp; done) | (go_simp; rfl) | (go_simp; exact i64_w _) | (go_simp; exact i32_w _))) ?_
  simp only [ls0, ls1]
  refine wl_end ?_
  (try simp only [Act.put, List.setIfInBounds_toArray, ls0, ls1])
  refine hK6932 _ _ ?_
  (try clear hK6932 K6932)
  by_cases c6939 : t6933 = true
  · rw [if_pos c6939] at H
    (try rw [c6939])
    (try simp only [Bool.not_true, Bool.not_false])
    refine wp_cond_false rfl ?_
    refine wp_skip ?_
    (try simp only [Act.put, List.setIfInBounds_toArray, ls0, ls1])
    refine hK6931 _ _ ?_
    (try clear hK6931 K6931)
    refine wp_seq_k fun K6940 hK6940 => ?_
    refine wl_region ?_
    refine st (v0) rfl rfl (xr_move (v0) rfl rfl) ?_
    simp only [ls0, ls1]
    cases x0 with
    | none =>
      (try simp only [onOpt] at H)
      obtain rfl := ptr_none HP0
      exact absurd H (by simp)
    | some o6941 =>
      (try simp only [onOpt] at H)
      obtain ⟨g6942, cs6943, rfl, HX6944, HK6945⟩ := ptr_some HP0
      obtain ⟨Aq6946_0, cpq6946_0, vq6946_1, rfl, HCq6946_0, HRq6946_0, HRq6946_1, HLq6946_2, HLq6946_3⟩ := k47_openF HK6945
      replace HRq6946_0 : Ft C6937_ [0] w6936 (fun w_ => Kd.string.C w_ Aq6946_0 o6941.f0.length o6941.f0) := HRq6946_0
      replace HRq6946_1 : Ft C6937_ [0] w6936 (fun w_ => (Kd.mp Value.string (Value.int .i64)).K w_ o6941.f1 [vq6946_1]) := HRq6946_1
      refine st (.pointer (some ⟨g6942, 0, none⟩)) rfl rfl (xr_nilCheck ⟨g6942, 0, none⟩ rfl rfl) ?_
      simp only [ls0, ls1]
      refine st (.pointer (some ⟨g6942, 0, none⟩)) rfl rfl (xr_fieldAddr (.pointer (some ⟨g6942, 0, none⟩)) (.pointer (some ⟨g6942, 0, none⟩)) rfl rfl (bx_field2 Try.underlying47 rfl rfl (by kernel_rfl))) ?_
      simp only [ls0, ls1]
      refine st (.slice Aq6946_0 o6941.f0.length cpq6946_0) rfl rfl (xr_load (.pointer (some ⟨g6942, 0, none⟩)) (.slice Aq6946_0 o6941.f0.length cpq6946_0) rfl rfl (load_cell Try.underlying44 rfl (bx_cell (l := ([.slice Aq6946_0 o6941.f0.length cpq6946_0, vq6946_1] ++ (List.map (Value.int .u64) o6941.f2 ++ (List.map (Value.int .u64) o6941.f3)))) (Ft.now HX6944) 0 rfl))) ?_
      simp only [ls0, ls1]
      refine st (.int .i64 a1) rfl rfl (xr_move (.int .i64 a1) rfl rfl) ?_
      simp only [ls0, ls1]
      by_cases c6947 : 0 ≤ a1
      · rw [if_pos c6947] at H
        by_cases c6948 : a1 < (o6941.f0.length : Int)
        · rw [if_pos c6948] at H
          obtain ⟨ad6949, hA6950⟩ := c_addr (Ft.now HRq6946_0) (pos_of (j := a1) (by first | assumption | decide) (by first | assumption | omega))
          refine st (.pointer (some (ad6949.add ((a1 : Int).toNat * 1)))) rfl rfl (xr_indexAddr (.slice Aq6946_0 o6941.f0.length cpq6946_0) (.int .i64 a1) (.pointer (some (ad6949.add ((a1 : Int).toNat * 1)))) rfl rfl rfl (index_at Try.underlying44 info9 hA6950 (by first | assumption | decide | omega) (by first | assumption | decide | omega))) ?_
          simp only [ls0, ls1]
          refine st (.string (rdOf ByteArray.empty o6941.f0 a1)) rfl rfl (xr_load (.pointer (some (ad6949.add ((a1 : Int).toNat * 1)))) (.string (rdOf ByteArray.empty o6941.f0 a1)) rfl rfl (load_str Try.underlying9 rfl hA6950 (Ft.now HRq6946_0) (by first | assumption | decide | omega) (by first | assumption | decide | omega))) ?_
          simp only [ls0, ls1]
          refine st (.string (rdOf ByteArray.empty o6941.f0 a1)) rfl rfl (xr_assign (.string (rdOf ByteArray.empty o6941.f0 a1)) rfl rfl) ?_
          simp only [ls0, ls1]
          refine wl_end ?_
          (try simp only [Act.put, List.setIfInBounds_toArray, ls0, ls1])
          refine hK6940 _ _ ?_
          (try clear hK6940 K6940)
          refine wp_ret ?_
          (try simp only [Exit.inBlock, Exit.then, Exit.noGoto])
          (try simp only [Act.put, List.setIfInBounds_toArray, ls0, ls1])
          obtain rfl := Option.some.inj H
          refine bodyPost_ret (results_tmp rfl _ _ _) rfl ?_
          exact ⟨_, rfl, HS⟩
        · rw [if_neg c6948] at H
          exact absurd H (by simp)
      · rw [if_neg c6947] at H
        exact absurd H (by simp)
  · rw [if_neg c6939] at H
    (try rw [(Bool.eq_false_iff.mpr c6939)])
    (try simp only [Bool.not_true, Bool.not_false])
    refine wp_cond_true rfl ?_
    refine wp_seq_k fun K6951 hK6951 => ?_
    refine wl_region ?_
    refine st (.string (⟨#[]⟩ : ByteArray)) rfl rfl (xr_assign (.string (⟨#[]⟩ : ByteArray)) rfl rfl) ?_
    simp only [ls0, ls1]
    refine wl_end ?_
    (try simp only [Act.put, List.setIfInBounds_toArray, ls0, ls1])
    refine hK6951 _ _ ?_
    (try clear hK6951 K6951)
    refine wp_ret ?_
    (try simp only [Exit.inBlock, Exit.then, Exit.noGoto])
    (try simp only [Act.put, List.setIfInBounds_toArray, ls0, ls1])
    obtain rfl := Option.some.inj H
    refine bodyPost_ret (results_tmp rfl _ _ _) rfl ?_
    exact ⟨_, rfl, HS⟩

end Go.Proofs.Ytpfepkkpbampkaa.POrd
