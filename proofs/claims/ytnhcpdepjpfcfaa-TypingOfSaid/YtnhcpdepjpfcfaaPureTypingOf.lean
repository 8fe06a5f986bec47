/- Any code in any program has the type that the document says, or none at the place. -/
import Derived.Test.YtnhcpdepjpfcfaaPTyox1
import Derived.Test.YtnhcpdepjpfcfaaPTyox10
import Derived.Test.YtnhcpdepjpfcfaaPTyox11
import Derived.Test.YtnhcpdepjpfcfaaPTyox2
import Derived.Test.YtnhcpdepjpfcfaaPTyox3
import Derived.Test.YtnhcpdepjpfcfaaPTyox4
import Derived.Test.YtnhcpdepjpfcfaaPTyox5
import Derived.Test.YtnhcpdepjpfcfaaPTyox6
import Derived.Test.YtnhcpdepjpfcfaaPTyox7
import Derived.Test.YtnhcpdepjpfcfaaPTyox8
import Derived.Test.YtnhcpdepjpfcfaaPTyox9
import Derived.OpenShut
import Derived.Laws.BitsLemmas
import Derived.Laws.BitsAllLaws
import Derived.Laws.Bits64b
import Derived.Lib.TrailingZeros
import Derived.Lib.Bytes
import Derived.Test.YtnhcpdepjpfcfaaWSized
set_option linter.unusedVariables false
set_option linter.unusedSimpArgs false
namespace Go.Proofs.Ytnhcpdepjpfcfaa.Pure
open Go.RowKit Go.Proofs.Ytnhcpdepjpfcfaa.PTyo Go.Proofs.YtnhcpdepjpfcfaaW.PrintWords Go.Proofs.YtnhcpdepjpfcfaaW.PrintLast
theorem wrap64_id {x : Int} (h0 : -9223372036854775808 ≤ x) (h1 : x ≤ 9223372036854775807) : wrap64 x = x := by unfold wrap64; omega
def Ev {α : Type} (F : Nat → Nat → Option α) (v : α) : Prop := ∃ n, ∀ K k, n ≤ K → n ≤ k → F K k = some v
def E1 {α : Type} (F : Nat → Option α) (v : α) : Prop := ∃ n, ∀ k, n ≤ k → F k = some v
theorem E1.k {α : Type} {F : Nat → Option α} {v : α} (h : E1 F v) : Ev (fun _ k => F k) v := by
  obtain ⟨n, h⟩ := h;exact ⟨n, fun K k _ hk => h k hk⟩
theorem E1.K {α : Type} {F : Nat → Option α} {v : α} (h : E1 F v) : Ev (fun K _ => F K) v := by
  obtain ⟨n, h⟩ := h;exact ⟨n, fun K k hK _ => h K hK⟩
theorem E1.add {α : Type} {F : Nat → Option α} {v : α} (h : E1 F v) (m : Nat) : Ev (fun _ k => F (k + m)) v := by
  obtain ⟨n, h⟩ := h;exact ⟨n, fun K k _ hk => h (k + m) (by omega)⟩
theorem Ev.add {α : Type} {F : Nat → Nat → Option α} {v : α} (h : Ev F v) (m : Nat) : Ev (fun K k => F K (k + m)) v := by
  obtain ⟨n, h⟩ := h;exact ⟨n, fun K k hK hk => h K (k + m) hK (by omega)⟩
theorem Ev.sub {α : Type} {F : Nat → Nat → Option α} {v : α} (m : Nat) (h : Ev (fun K k => F K (k + m)) v) : Ev F v := by
  obtain ⟨n, h⟩ := h;refine ⟨n + m, fun K k hK hk => ?_⟩;have := h K (k - m) (by omega) (by omega);dsimp only at this
  rwa [show k - m + m = k by omega] at this
theorem Ev.some {α : Type} {a b : α} (e : a = b) : Ev (fun _ _ => Option.some a) b := ⟨0, fun _ _ _ _ => by rw [e]⟩
theorem Ev.bind {α β : Type} {F : Nat → Nat → Option α} {G : α → Nat → Nat → Option β} {a : α} {b : β} (h : Ev F a) (g : Ev (G a) b) : Ev (fun K k => (F K k).bind fun x => G x K k) b := by
  obtain ⟨n, h⟩ := h;obtain ⟨m, g⟩ := g;exact ⟨n + m, fun K k hK hk => by dsimp only; rw [h K k (by omega) (by omega)]; exact g K k (by omega) (by omega)⟩
theorem Ev.ite {α : Type} {c : Prop} [Decidable c] {F G : Nat → Nat → Option α} {v : α} (h : c → Ev F v) (g : ¬c → Ev G v) : Ev (fun K k => if c then F K k else G K k) v := by
  by_cases hc : c
  · simp only [if_pos hc]; exact h hc
  · simp only [if_neg hc]; exact g hc
theorem Ev.cast {α : Type} {F : Nat → Nat → Option α} {v w : α} (h : Ev F v) (e : v = w) : Ev F w := e ▸ h
theorem Ev.diag {α : Type} {F : Nat → Nat → Option α} {v : α} (h : Ev F v) : E1 (fun k => F k k) v := by
  obtain ⟨n, h⟩ := h;exact ⟨n, fun k hk => h k k hk hk⟩
theorem Ev.out {α : Type} {F : Nat → Nat → Option α} {v : α} (h : Ev F v) : ∃ k, F k k = Option.some v := by
  obtain ⟨n, h⟩ := h;exact ⟨n, h n n (Nat.le_refl n) (Nat.le_refl n)⟩
theorem E1.succ {α : Type} {F : Nat → Option α} {G : Nat → Nat → Option α} {v : α} (h : Ev G v) (e : ∀ k, F (k + 1) = G k k) : E1 F v := by
  obtain ⟨n, h⟩ := h;refine ⟨n + 1, fun k hk => ?_⟩;obtain ⟨m, rfl⟩ : ∃ m, k = m + 1 := ⟨k - 1, by omega⟩;rw [e]; exact h m m (by omega) (by omega)
theorem wr_succ {n : Nat} (h : n ≤ maxLen) {j : Nat} (hj : j < n) : wrap64 ((j : Int) + 1) = ((j + 1 : Nat) : Int) := by
  have : maxLen = 9223372036854775807 := rfl;rw [wrap64_id (by omega) (by omega)]; omega
theorem rd51_mem {l : List S51} {j : Nat} (h : j < l.length) : rd_T51 l (j : Int) ∈ l := by
  unfold rd_T51;rw [Int.toNat_natCast, List.getD_eq_getElem?_getD, List.getElem?_eq_getElem h]; exact List.getElem_mem h
theorem rd156_mem {l : List S156} {j : Nat} (h : j < l.length) : rd_T156 l (j : Int) ∈ l := by
  unfold rd_T156;rw [Int.toNat_natCast, List.getD_eq_getElem?_getD, List.getElem?_eq_getElem h]; exact List.getElem_mem h
theorem rd102_mem {l : List S102} {j : Nat} (h : j < l.length) : rd_T102 l (j : Int) ∈ l := by
  unfold rd_T102;rw [Int.toNat_natCast, List.getD_eq_getElem?_getD, List.getElem?_eq_getElem h]; exact List.getElem_mem h
theorem size_l0 (l : List S51) (hl : l.length ≤ maxLen) (ih : ∀ x ∈ l, ∀ left, ∃ r, E1 (fun k => blazonref19_size.f k x.f0 x.f1 x.f2 x.f3 x.f4 x.f5 x.f6 left) r) : ∀ m j, j + m = l.length → ∀ left, ∃ r, Ev (fun K k => blazonref19_size.l0 (Rec_blazonref19_size.at K) k l left (j : Int)) r := by
  intro m
  induction m with
  | zero =>
    intro j hj left;refine ⟨left, Ev.sub 2 ?_⟩;simp only [blazonref19_size.l0, blazonref19_size.j0, if_neg (show ¬ ((j : Int) < (l.length : Int)) by omega), Bool.false_eq_true, if_false];exact Ev.some rfl
  | succ m IH =>
    intro j hj left;by_cases hp : left ≥ 0
    · obtain ⟨r1, h1⟩ := ih _ (rd51_mem (show j < l.length by omega)) left;obtain ⟨r, h⟩ := IH (j + 1) (by omega) r1;refine ⟨r, Ev.sub 2 ?_⟩;simp only [blazonref19_size.l0, blazonref19_size.j0, if_pos (show ((j : Int) < (l.length : Int)) by omega), if_pos (show (0 : Int) ≤ (j : Int) by omega), decide_eq_true_eq, if_pos hp];refine Ev.bind h1.K ?_;rw [wr_succ hl (by omega)];exact h
    · refine ⟨left, Ev.sub 2 ?_⟩;simp only [blazonref19_size.l0, blazonref19_size.j0, if_pos (show ((j : Int) < (l.length : Int)) by omega), decide_eq_true_eq, if_neg hp];exact Ev.some rfl
theorem size_ev {c : S51} (h : Ok51 c) : ∀ left, ∃ r, E1 (fun k => blazonref19_size.f k c.f0 c.f1 c.f2 c.f3 c.f4 c.f5 c.f6 left) r := by
  induction h with
  | mk x h0 h1 h2 h3 h4 h5 h6a h6b h6c ih =>
    intro left;obtain ⟨r, h⟩ := size_l0 x.f6 h6a ih x.f6.length 0 (by omega) (wrap64 ((wrap64 (left - 1)) - (wrap64 (Int.tdiv (mn (x.f5.size : Int) 1000) 100))));exact ⟨r, E1.succ h fun k => rfl⟩
theorem sizes_l0 (l : List S156) (hl : l.length ≤ maxLen) (hc : ∀ x ∈ l, Ok51 x.f4) (ih : ∀ x ∈ l, ∀ left, ∃ r, E1 (fun k => blazonref19_sizes.f k x.f5 left) r) (ih' : ∀ x ∈ l, ∀ left, ∃ r, E1 (fun k => blazonref19_sizes.f k x.f6 left) r) : ∀ m j, j + m = l.length → ∀ left, ∃ r, Ev (fun K k => blazonref19_sizes.l0 (Rec_blazonref19_sizes.at K) k l left (j : Int)) r := by
  intro m
  induction m with
  | zero =>
    intro j hj left;refine ⟨left, Ev.sub 2 ?_⟩;simp only [blazonref19_sizes.l0, blazonref19_sizes.j0, if_neg (show ¬ ((j : Int) < (l.length : Int)) by omega), Bool.false_eq_true, if_false];exact Ev.some rfl
  | succ m IH =>
    intro j hj left;by_cases hp : left ≥ 0
    · have hm := rd156_mem (show j < l.length by omega);obtain ⟨r1, h1⟩ := size_ev (hc _ hm) (wrap64 ((wrap64 (left - 1)) - (wrap64 (Int.tdiv (mn (((rd_T156 l (j : Int)).f3).size : Int) 1000) 100))));obtain ⟨r2, h2⟩ := ih _ hm r1;obtain ⟨r3, h3⟩ := ih' _ hm r2;obtain ⟨r, h⟩ := IH (j + 1) (by omega) r3;refine ⟨r, Ev.sub 2 ?_⟩;simp only [blazonref19_sizes.l0, blazonref19_sizes.j0, if_pos (show ((j : Int) < (l.length : Int)) by omega), if_pos (show (0 : Int) ≤ (j : Int) by omega), decide_eq_true_eq, if_pos hp];refine Ev.bind (h1.add 0) (Ev.bind h2.K (Ev.bind h3.K ?_));rw [wr_succ hl (by omega)];exact h
    · refine ⟨left, Ev.sub 2 ?_⟩;simp only [blazonref19_sizes.l0, blazonref19_sizes.j0, if_pos (show ((j : Int) < (l.length : Int)) by omega), decide_eq_true_eq, if_neg hp];exact Ev.some rfl
theorem sizes_ev {c : S156} (h : Ok156 c) : (∀ left, ∃ r, E1 (fun k => blazonref19_sizes.f k c.f5 left) r) ∧ (∀ left, ∃ r, E1 (fun k => blazonref19_sizes.f k c.f6 left) r) := by
  induction h with
  | mk x h0 h1 h2 h3 h4 h5a h5b h5c h6a h6b h6c ih5 ih6 =>
    refine ⟨fun left => ?_, fun left => ?_⟩
    · obtain ⟨r, h⟩ := sizes_l0 x.f5 h5a (fun y hy => by cases h5c y hy; assumption) (fun y hy => (ih5 y hy).1) (fun y hy => (ih5 y hy).2) x.f5.length 0 (by omega) left;exact ⟨r, E1.succ h fun k => rfl⟩
    · obtain ⟨r, h⟩ := sizes_l0 x.f6 h6a (fun y hy => by cases h6c y hy; assumption) (fun y hy => (ih6 y hy).1) (fun y hy => (ih6 y hy).2) x.f6.length 0 (by omega) left;exact ⟨r, E1.succ h fun k => rfl⟩
theorem sizes_evl {l : List S156} (hl : l.length ≤ maxLen) (h : ∀ x ∈ l, Ok156 x) (left : Int) : ∃ r, E1 (fun k => blazonref19_sizes.f k l left) r := by
  obtain ⟨r, h⟩ := sizes_l0 l hl (fun y hy => by cases h y hy; assumption) (fun y hy => (sizes_ev (h y hy)).1) (fun y hy => (sizes_ev (h y hy)).2) l.length 0 (by omega) left;exact ⟨r, E1.succ h fun k => rfl⟩
theorem great_l0 (a1 : Int) (l : List S102) (hl : l.length ≤ maxLen) (hc : ∀ x ∈ l, Ok102 x) : ∀ m j, j + m = l.length → ∀ left, ∃ r, Ev (fun _ k => blazonref19_Great.l0 k a1 l left (j : Int)) r := by
  intro m
  induction m with
  | zero =>
    intro j hj left;refine ⟨decide (left < 0), Ev.sub 2 ?_⟩;simp only [blazonref19_Great.l0, blazonref19_Great.j0, if_neg (show ¬ ((j : Int) < (l.length : Int)) by omega), Bool.false_eq_true, if_false];exact Ev.some rfl
  | succ m IH =>
    intro j hj left;by_cases hp : left ≥ 0
    · have hm := hc _ (rd102_mem (show j < l.length by omega));obtain ⟨r1, h1⟩ := sizes_evl hm.2.2.2.2.2.2.2.1.1 hm.2.2.2.2.2.2.2.1.2.2 (wrap64 ((wrap64 ((wrap64 (left - 1)) - (mn ((rd_T102 l (j : Int)).f3.length : Int) (wrap64 (a1 + 1))))) - (mn ((rd_T102 l (j : Int)).f6.f1.length : Int) (wrap64 (a1 + 1)))));obtain ⟨r2, h2⟩ := size_ev hm.2.2.2.2.2.2.2.2 r1;obtain ⟨r, h⟩ := IH (j + 1) (by omega) r2;refine ⟨r, Ev.sub 2 ?_⟩;simp only [blazonref19_Great.l0, blazonref19_Great.j0, if_pos (show ((j : Int) < (l.length : Int)) by omega), if_pos (show (0 : Int) ≤ (j : Int) by omega), decide_eq_true_eq, if_pos hp];refine Ev.bind (h1.add 0) (Ev.bind (h2.add 0) ?_);rw [wr_succ hl (by omega)];exact h
    · refine ⟨decide (left < 0), Ev.sub 2 ?_⟩;simp only [blazonref19_Great.l0, blazonref19_Great.j0, if_pos (show ((j : Int) < (l.length : Int)) by omega), decide_eq_true_eq, if_neg hp];exact Ev.some rfl
theorem great_ev (S : List S134) (l : List S102) (hl : l.length ≤ maxLen) (hc : ∀ x ∈ l, Ok102 x) (a1 : Int) : ∃ r, Ev (fun _ k => blazonref19_Great.f k S l a1) r :=
  great_l0 a1 l hl hc l.length 0 (by omega) _
inductive OKc (S : List S134) (F : List S102) : S51 → Prop
  | mk (c : S51) (h0 : 0 ≤ c.f0) (h1 : c.f0 ≤ 6) (h2 : c.f0 = 2 → 0 ≤ c.f3 ∧ c.f3 < (S.length : Int)) (h3 : c.f0 = 3 → 0 ≤ c.f4 ∧ c.f4 < (F.length : Int)) (h4 : c.f0 = 4 → c.f6.length = 1) (h5 : c.f0 = 5 → c.f6.length = 2) (h6 : c.f0 = 6 → c.f6.length = 1) (h7 : c.f0 ≤ 2 → c.f6.length = 0) (hc : ∀ x ∈ c.f6, OKc S F x) : OKc S F c
def MC (S : List S134) (F : List S102) (c : S51) (deep : Int) : Prop := ∃ b : Bool, E1 (fun k => blazonref19_MayCode.f k S F c.f0 c.f1 c.f2 c.f3 c.f4 c.f5 c.f6 deep) b ∧ (∀ bad : Bool, E1 (fun k => typing_walker_code.f k S F (some ⟨S, F⟩) bad c.f0 c.f1 c.f2 c.f3 c.f4 c.f5 c.f6 deep) (bad || !b)) ∧ (b = true → OKc S F c)
theorem mc_l0 (S : List S134) (F : List S102) (l : List S51) (hl : l.length ≤ maxLen) (deep : Int) (hd : wrap64 (deep + 1) = deep + 1) (ih : ∀ x ∈ l, MC S F x (deep + 1)) : ∀ m j, j + m = l.length → ∃ b : Bool, Ev (fun K k => blazonref19_MayCode.l0 (Rec_blazonref19_MayCode.at K) k deep S F l (j : Int)) b ∧ (∀ bad : Bool, Ev (fun K k => typing_walker_code.l0 (Rec_typing_walker_code.at K) k deep S F l (some ⟨S, F⟩) (j : Int) bad) (bad || !b)) ∧ (b = true → ∀ i : Nat, j ≤ i → i < l.length → OKc S F (rd_T51 l (i : Int))) := by
  intro m
  induction m with
  | zero =>
    intro j hj;refine ⟨true, Ev.sub 1 ?_, fun bad => Ev.sub 1 ?_, fun _ i h1 h2 => by omega⟩
    · simp only [blazonref19_MayCode.l0, if_neg (show ¬ ((j : Int) < (l.length : Int)) by omega)];exact Ev.some rfl
    · simp only [typing_walker_code.l0, if_neg (show ¬ ((j : Int) < (l.length : Int)) by omega)];exact Ev.some (by cases bad <;> rfl)
  | succ m IH =>
    intro j hj;have p1 : ((j : Int) < (l.length : Int)) := by omega
    have p2 : (0 : Int) ≤ (j : Int) := by omega
    obtain ⟨b1, h1, w1, o1⟩ := ih _ (rd51_mem (show j < l.length by omega));obtain ⟨b, h, w, o⟩ := IH (j + 1) (by omega);refine ⟨b1 && b, Ev.sub 1 ?_, fun bad => Ev.sub 1 ?_, fun hb i hi hi' => ?_⟩
    · simp only [blazonref19_MayCode.l0, if_pos p1, if_pos p2, hd];refine Ev.bind h1.K ?_
      cases b1
      · exact Ev.some rfl
      · rw [wr_succ hl (by omega)];exact h
    · simp only [typing_walker_code.l0, if_pos p1, if_pos p2, hd];refine Ev.bind (w1 bad).K ?_;rw [wr_succ hl (by omega), show (bad || !(b1 && b)) = ((bad || !b1) || !b) by cases bad <;> cases b1 <;> rfl];exact w _
    · have : b1 = true ∧ b = true := by cases b1 <;> cases b <;> simp_all
      rcases Nat.eq_or_lt_of_le hi with e | e
      · rw [← e]; exact o1 this.1
      · exact o this.2 i (by omega) hi'
theorem iteb {α β : Type} {c : Prop} [Decidable c] {a b : Option α} {f : α → Option β} : (if c then a else b).bind f = if c then a.bind f else b.bind f := by
  split <;> rfl
theorem mc_node (S : List S134) (F : List S102) (c : S51) (hl : c.f6.length ≤ maxLen) (deep : Int) (h0 : 0 ≤ deep) (h65 : deep ≤ 65) (ih : deep ≤ 64 → ∀ x ∈ c.f6, MC S F x (deep + 1)) : MC S F c deep := by
  by_cases hok : (0 ≤ c.f0 ∧ c.f0 ≤ 6) ∧ (c.f0 = 2 → 0 ≤ c.f3 ∧ c.f3 < (S.length : Int)) ∧ (c.f0 = 3 → 0 ≤ c.f4 ∧ c.f4 < (F.length : Int)) ∧ (c.f0 = 4 → c.f6.length = 1) ∧ (c.f0 = 5 → c.f6.length = 2) ∧ (c.f0 = 6 → c.f6.length = 1) ∧ (c.f0 ≤ 2 → c.f6.length = 0) ∧ deep ≤ 64
  · obtain ⟨⟨k0, k6⟩, q2, q3, q4, q5, q6, q7, qd⟩ := hok;obtain ⟨b, h, w, o⟩ := mc_l0 S F c.f6 hl deep (wrap64_id (by omega) (by omega)) (ih qd) c.f6.length 0 (by omega);refine ⟨b, E1.succ (G := fun K k => blazonref19_MayCode.g (Rec_blazonref19_MayCode.at K) k S F c.f0 c.f1 c.f2 c.f3 c.f4 c.f5 c.f6 deep) (Ev.sub 4 ?_) fun k => rfl, fun bad => E1.succ (G := fun K k => typing_walker_code.g (Rec_typing_walker_code.at K) k S F (some ⟨S, F⟩) bad c.f0 c.f1 c.f2 c.f3 c.f4 c.f5 c.f6 deep) (Ev.sub 4 ?_) fun k => rfl, fun hb => ⟨c, k0, k6, q2, q3, q4, q5, q6, q7, fun x hx => ?_⟩⟩
    · simp only [blazonref19_MayCode.g, blazonref19_MayCode.j0, blazonref19_MayCode.j1, blazonref19_MayCode.j2, blazonref19_MayCode.j3, blazonref19_site.f, iteb, Option.bind_some, decide_eq_true_eq, if_true, Bool.false_eq_true, if_false]
      repeat' with_reducible refine Ev.ite (fun _ => ?_) (fun _ => ?_)
      all_goals first | omega | exact h | exact h.add 1 | exact h.add 2 | exact h.add 3
    · cases bad
      · simp only [typing_walker_code.g, typing_walker_code.j0, typing_walker_code.j1, typing_walker_code.j2, typing_walker_code.j3, typing_newWalker_1.f, onOpt, iteb, Option.bind_some, decide_eq_true_eq, if_true, Bool.false_eq_true, if_false, Bool.not_false, Bool.not_eq_true', decide_eq_false_iff_not]
        repeat' with_reducible refine Ev.ite (fun _ => ?_) (fun _ => ?_)
        all_goals first | omega | exact w _ | exact (w _).add 1 | exact (w _).add 2 | exact (w _).add 3
      · simp only [typing_walker_code.g, typing_walker_code.j0, typing_walker_code.j1, typing_walker_code.j2, typing_walker_code.j3, typing_newWalker_1.f, onOpt, iteb, Option.bind_some, decide_eq_true_eq, if_true, Bool.false_eq_true, if_false, Bool.not_false, Bool.not_eq_true', decide_eq_false_iff_not]
        repeat' with_reducible refine Ev.ite (fun _ => ?_) (fun _ => ?_)
        all_goals exact Ev.some rfl
    · obtain ⟨i, hi, e⟩ := List.getElem_of_mem hx;have := o hb i (Nat.zero_le i) hi;unfold rd_T51 at this
      rwa [Int.toNat_natCast, List.getD_eq_getElem?_getD, List.getElem?_eq_getElem hi, Option.getD_some, e] at this
  · refine ⟨false, E1.succ (G := fun K k => blazonref19_MayCode.g (Rec_blazonref19_MayCode.at K) k S F c.f0 c.f1 c.f2 c.f3 c.f4 c.f5 c.f6 deep) (Ev.sub 4 ?_) fun k => rfl, fun bad => E1.succ (G := fun K k => typing_walker_code.g (Rec_typing_walker_code.at K) k S F (some ⟨S, F⟩) bad c.f0 c.f1 c.f2 c.f3 c.f4 c.f5 c.f6 deep) (Ev.sub 4 ?_) fun k => rfl, fun hb => by cases hb⟩
    · simp only [blazonref19_MayCode.g, blazonref19_MayCode.j0, blazonref19_MayCode.j1, blazonref19_MayCode.j2, blazonref19_MayCode.j3, blazonref19_site.f, iteb, Option.bind_some, decide_eq_true_eq, if_true, Bool.false_eq_true, if_false]
      repeat' with_reducible refine Ev.ite (fun _ => ?_) (fun _ => ?_)
      all_goals first | exact Ev.some rfl | (exfalso; omega)
    · cases bad
      · simp only [typing_walker_code.g, typing_walker_code.j0, typing_walker_code.j1, typing_walker_code.j2, typing_walker_code.j3, typing_newWalker_1.f, onOpt, iteb, Option.bind_some, decide_eq_true_eq, if_true, Bool.false_eq_true, if_false, Bool.not_false, Bool.not_eq_true', decide_eq_false_iff_not]
        repeat' with_reducible refine Ev.ite (fun _ => ?_) (fun _ => ?_)
        all_goals first | exact Ev.some rfl | (exfalso; omega)
      · simp only [typing_walker_code.g, typing_walker_code.j0, typing_walker_code.j1, typing_walker_code.j2, typing_walker_code.j3, typing_newWalker_1.f, onOpt, iteb, Option.bind_some, decide_eq_true_eq, if_true, Bool.false_eq_true, if_false, Bool.not_false, Bool.not_eq_true', decide_eq_false_iff_not]
        repeat' with_reducible refine Ev.ite (fun _ => ?_) (fun _ => ?_)
        all_goals exact Ev.some rfl
theorem mc_ev (S : List S134) (F : List S102) {c : S51} (h : Ok51 c) : ∀ deep : Int, 0 ≤ deep → deep ≤ 65 → MC S F c deep := by
  induction h with
  | mk x h0 h1 h2 h3 h4 h5 h6a h6b h6c ih =>
    intro deep d0 d1;exact mc_node S F x h6a deep d0 d1 fun hd y hy => ih y hy (deep + 1) (by omega) (by omega)
inductive OKa (S : List S134) (F : List S102) : S156 → Prop
  | mk (a : S156) (h0 : 0 ≤ a.f0) (h1 : a.f0 ≤ 4) (h2 : a.f0 = 0 → 0 ≤ a.f2 ∧ a.f2 < (S.length : Int)) (h3 : a.f0 ≠ 3 → OKc S F a.f4) (h5 : a.f0 = 1 ∨ a.f0 = 2 → ∀ x ∈ a.f5, OKa S F x) (h6 : a.f0 = 1 ∨ a.f0 = 2 → ∀ x ∈ a.f6, OKa S F x) : OKa S F a
def AC (S : List S134) (F : List S102) (l : List S156) (deep : Int) : Prop := ∃ b : Bool, E1 (fun k => blazonref19_mayActs.f k S F l deep) b ∧ (∀ bad : Bool, E1 (fun k => typing_walker_acts.f k S F (some ⟨S, F⟩) bad l deep) (bad || !b)) ∧ (b = true → ∀ x ∈ l, OKa S F x)
set_option maxHeartbeats 1000000 in
theorem ac_l0 (S : List S134) (F : List S102) (l : List S156) (hl : l.length ≤ maxLen) (deep : Int) (hd : wrap64 (deep + 1) = deep + 1) (hc : ∀ x ∈ l, Ok51 x.f4) (ih : ∀ x ∈ l, deep ≤ 64 → AC S F x.f5 (deep + 1) ∧ AC S F x.f6 (deep + 1)) : ∀ m j, j + m = l.length → ∃ b : Bool, Ev (fun K k => blazonref19_mayActs.l0 (Rec_blazonref19_mayActs.at K) k deep S F l (j : Int)) b ∧ (∀ bad : Bool, Ev (fun K k => typing_walker_acts.l0 (Rec_typing_walker_acts.at K) k deep S F l (some ⟨S, F⟩) (j : Int) bad) (bad || !b)) ∧ (b = true → ∀ i : Nat, j ≤ i → i < l.length → OKa S F (rd_T156 l (i : Int))) := by
  intro m
  induction m with
  | zero =>
    intro j hj;refine ⟨true, Ev.sub 1 ?_, fun bad => Ev.sub 1 ?_, fun _ i h1 h2 => by omega⟩
    · simp only [blazonref19_mayActs.l0, if_neg (show ¬ ((j : Int) < (l.length : Int)) by omega)];exact Ev.some rfl
    · simp only [typing_walker_acts.l0, if_neg (show ¬ ((j : Int) < (l.length : Int)) by omega)];exact Ev.some (by cases bad <;> rfl)
  | succ m IH =>
    intro j hj;have p1 : ((j : Int) < (l.length : Int)) := by omega
    have p2 : (0 : Int) ≤ (j : Int) := by omega
    have hm := rd156_mem (show j < l.length by omega);have hw : wrap64 ((j : Int) + 1) = ((j + 1 : Nat) : Int) := wr_succ hl (by omega);obtain ⟨r, h, w, o⟩ := IH (j + 1) (by omega);have hi := ih _ hm;obtain ⟨bc, hC, wC, oC⟩ := mc_ev S F (hc _ hm) 1 (by omega) (by omega);generalize hx : rd_T156 l (j : Int) = x at *;by_cases own : 0 ≤ x.f0 ∧ x.f0 ≤ 4 ∧ deep ≤ 64 ∧ (x.f0 = 0 → 0 ≤ x.f2 ∧ x.f2 < (S.length : Int))
    · obtain ⟨k0, k4, kd, ks⟩ := own;obtain ⟨⟨b5, h5, w5, o5⟩, b6, h6, w6, o6⟩ := hi kd;refine ⟨(decide (x.f0 = 3) || bc) && (decide (x.f0 = 0) || decide (x.f0 = 3) || decide (x.f0 = 4) || b5 && b6) && r, Ev.sub 1 ?_, fun bad => Ev.sub 2 ?_, fun hb i hi hi' => ?_⟩
      · have hk : x.f0 = 0 ∨ x.f0 = 1 ∨ x.f0 = 2 ∨ x.f0 = 3 ∨ x.f0 = 4 := by omega
        simp only [blazonref19_mayActs.l0, if_pos p1, if_pos p2, hd, hx, hw, blazonref19_site.f, iteb, Option.bind_some, decide_eq_true_eq, Bool.false_eq_true, if_false];rcases hk with e | e | e | e | e <;> simp only [e, Int.reduceEq, Int.reduceLT, Int.reduceGT, gt_iff_lt, if_true, if_false] <;> cases bc <;> cases b5 <;> cases b6
        all_goals repeat' first | with_reducible refine Ev.ite (fun _ => ?_) (fun _ => ?_) | refine Ev.bind hC.k ?_ | refine Ev.bind h5.K ?_ | refine Ev.bind h6.K ?_
        all_goals first | contradiction | (exfalso; omega) | exact Ev.some (by cases r <;> rfl) | exact h.cast (by cases r <;> rfl)
      · have hk : x.f0 = 0 ∨ x.f0 = 1 ∨ x.f0 = 2 ∨ x.f0 = 3 ∨ x.f0 = 4 := by omega
        cases bad
        · simp only [typing_walker_acts.l0, typing_walker_acts.j0, typing_walker_acts.j1, if_pos p1, if_pos p2, hd, hx, hw, typing_newWalker_1.f, onOpt, iteb, Option.bind_some, decide_eq_true_eq, Bool.false_eq_true, if_false];rcases hk with e | e | e | e | e <;> simp only [e, Int.reduceEq, Int.reduceLT, Int.reduceGT, gt_iff_lt, if_true, if_false]
          all_goals repeat' first | with_reducible refine Ev.ite (fun _ => ?_) (fun _ => ?_) | refine Ev.bind ((wC _).add 1) ?_ | refine Ev.bind (w5 _).K ?_ | refine Ev.bind (w6 _).K ?_
          all_goals first | (exfalso; omega) | exact (w _).cast (by cases bc <;> cases b5 <;> cases b6 <;> cases r <;> rfl) | exact ((w _).add 1).cast (by cases bc <;> cases b5 <;> cases b6 <;> cases r <;> rfl)
        · simp only [typing_walker_acts.l0, if_pos p1, if_pos p2, if_true];exact Ev.some rfl
      · rcases Nat.eq_or_lt_of_le hi with e | e
        · rw [← e, hx];simp only [Bool.and_eq_true, Bool.or_eq_true, decide_eq_true_eq] at hb;refine ⟨x, k0, k4, ks, fun h3 => oC (hb.1.1.resolve_left h3), fun h12 => o5 ?_, fun h12 => o6 ?_⟩
          · rcases hb.1.2 with ((h' | h') | h') | h'
            · omega
            · omega
            · omega
            · exact h'.1
          · rcases hb.1.2 with ((h' | h') | h') | h'
            · omega
            · omega
            · omega
            · exact h'.2
        · simp only [Bool.and_eq_true] at hb;exact o hb.2 i (by omega) hi'
    · refine ⟨false, Ev.sub 1 ?_, fun bad => Ev.sub 1 ?_, fun hb => by cases hb⟩
      · simp only [blazonref19_mayActs.l0, if_pos p1, if_pos p2, hd, hx, hw, blazonref19_site.f, iteb, Option.bind_some, decide_eq_true_eq, Bool.false_eq_true, if_false]
        repeat' with_reducible refine Ev.ite (fun _ => ?_) (fun _ => ?_)
        all_goals first | exact Ev.some rfl | (exfalso; omega)
      · cases bad
        · simp only [typing_walker_acts.l0, if_pos p1, if_pos p2, hd, hx, hw, typing_newWalker_1.f, onOpt, iteb, Option.bind_some, decide_eq_true_eq, Bool.false_eq_true, if_false]
          repeat' with_reducible refine Ev.ite (fun _ => ?_) (fun _ => ?_)
          all_goals first | exact Ev.some rfl | (exfalso; omega)
        · simp only [typing_walker_acts.l0, if_pos p1, if_pos p2, if_true];exact Ev.some rfl
theorem ac_list (S : List S134) (F : List S102) (l : List S156) (hl : l.length ≤ maxLen) (deep : Int) (d0 : 0 ≤ deep) (d1 : deep ≤ 65) (hc : ∀ x ∈ l, Ok51 x.f4) (ih : ∀ x ∈ l, deep ≤ 64 → AC S F x.f5 (deep + 1) ∧ AC S F x.f6 (deep + 1)) : AC S F l deep := by
  obtain ⟨b, h, w, o⟩ := ac_l0 S F l hl deep (wrap64_id (by omega) (by omega)) hc ih l.length 0 (by omega);refine ⟨b, E1.succ h fun k => rfl, fun bad => E1.succ (w bad) fun k => rfl, fun hb x hx => ?_⟩;obtain ⟨i, hi, e⟩ := List.getElem_of_mem hx;have := o hb i (Nat.zero_le i) hi;unfold rd_T156 at this
  rwa [Int.toNat_natCast, List.getD_eq_getElem?_getD, List.getElem?_eq_getElem hi, Option.getD_some, e] at this
theorem ac_ev (S : List S134) (F : List S102) {a : S156} (h : Ok156 a) : ∀ deep : Int, 0 ≤ deep → deep ≤ 65 → AC S F a.f5 deep ∧ AC S F a.f6 deep := by
  induction h with
  | mk x h0 h1 h2 h3 h4 h5a h5b h5c h6a h6b h6c ih5 ih6 =>
    intro deep d0 d1;exact ⟨ac_list S F x.f5 h5a deep d0 d1 (fun y hy => by cases h5c y hy; assumption) fun y hy hd => ih5 y hy (deep + 1) (by omega) (by omega), ac_list S F x.f6 h6a deep d0 d1 (fun y hy => by cases h6c y hy; assumption) fun y hy hd => ih6 y hy (deep + 1) (by omega) (by omega)⟩
theorem ac_evl (S : List S134) (F : List S102) {l : List S156} (hl : l.length ≤ maxLen) (h : ∀ x ∈ l, Ok156 x) : AC S F l 1 :=
  ac_list S F l hl 1 (by omega) (by omega) (fun y hy => by cases h y hy; assumption) fun y hy hd => ac_ev S F (h y hy) (1 + 1) (by omega) (by omega)
def Same (R : Nat → Nat → Option (Int × Bool × Int)) (W : Nat → Nat → Option (Int × Int × Int)) : Prop := ∃ (T : Int) (bad : Bool) (a T' : Int), Ev R (T, bad, a) ∧ Ev W (T', if bad then a else 0, if bad then 15 else 0) ∧ (bad = false → T' = T)
theorem Same.good {R : Nat → Nat → Option (Int × Bool × Int)} {W : Nat → Nat → Option (Int × Int × Int)} {T : Int} (h : Ev R (T, false, 0)) (w : Ev W (T, 0, 0)) : Same R W := ⟨T, false, 0, T, h, w, fun _ => rfl⟩
theorem Same.bad {R : Nat → Nat → Option (Int × Bool × Int)} {W : Nat → Nat → Option (Int × Int × Int)} {T T' a : Int} (h : Ev R (T, true, a)) (w : Ev W (T', a, 15)) : Same R W := ⟨T, true, a, T', h, w, fun h => by cases h⟩
theorem w01 : wrap64 (0 + 1) = 1 := wrap64_id (by decide) (by decide)
theorem w12 : wrap64 (1 + 1) = 2 := wrap64_id (by decide) (by decide)
set_option maxHeartbeats 4000000 in
theorem of_bin (S : List S134) (F : List S102) (c : S51) (ts : List Int) (e : c.f0 = 5) (hl : c.f6.length = 2) (ht : ts.length = 2) : Same (fun K k => blazonref19_of.l2 (Rec_blazonref19_of.at K) k c.f0 c.f1 c.f3 c.f4 c.f5 S F c.f6 ts 2) (fun K k => typing_typer_of.l1 (Rec_typing_typer_of.at K) k c.f0 c.f1 c.f2 c.f3 c.f4 c.f5 S F c.f6 ts 2 0 0) := by
  have hl' : (c.f6.length : Int) = 2 := by omega
  have ht' : (ts.length : Int) = 2 := by omega
  generalize c.f6 = l at *;generalize c.f5 = nm at *;by_cases n0 : nm = (⟨#[33]⟩ : ByteArray)
  · subst n0;apply Same.bad
    · refine Ev.sub 8 ?_;simp (decide := true) only [e, hl', ht', w01, w12, blazonref19_of.l2, blazonref19_of.j3, blazonref19_of.j2, blazonref19_of.j1, blazonref19_of.j0, blazonref19_of.l1, if_true, if_false];exact Ev.some rfl
    · refine Ev.sub 8 ?_;simp (decide := true) only [e, hl', ht', typing_typer_of.l1, typing_typer_binary.f, typing_typer_binary.j0, typing_typer_binary.j1, typing_typer_unary.f, typing_typer_want.f, typing_typer_fail.f, Option.bind_some, if_true, if_false];exact Ev.some rfl
  by_cases n1 : nm = (⟨#[38, 38]⟩ : ByteArray)
  · subst n1;by_cases ha : rd ts 0 = 1
    · by_cases hb : rd ts 1 = 1
      · skip
        apply Same.good
        · refine Ev.sub 8 ?_;simp (decide := true) only [e, hl', ht', w01, w12, ha, hb, blazonref19_of.l2, blazonref19_of.j3, blazonref19_of.j2, blazonref19_of.j1, blazonref19_of.j0, blazonref19_of.l1, if_true, if_false];exact Ev.some rfl
        · refine Ev.sub 8 ?_;simp (decide := true) only [e, hl', ht', ha, hb, typing_typer_of.l1, typing_typer_binary.f, typing_typer_binary.j0, typing_typer_binary.j1, typing_typer_unary.f, typing_typer_want.f, typing_typer_fail.f, Option.bind_some, if_true, if_false];exact Ev.some rfl
      · skip
        apply Same.bad
        · refine Ev.sub 8 ?_;simp (decide := true) only [e, hl', ht', w01, w12, ha, hb, blazonref19_of.l2, blazonref19_of.j3, blazonref19_of.j2, blazonref19_of.j1, blazonref19_of.j0, blazonref19_of.l1, if_true, if_false];exact Ev.some rfl
        · refine Ev.sub 8 ?_;simp (decide := true) only [e, hl', ht', ha, hb, typing_typer_of.l1, typing_typer_binary.f, typing_typer_binary.j0, typing_typer_binary.j1, typing_typer_unary.f, typing_typer_want.f, typing_typer_fail.f, Option.bind_some, if_true, if_false];exact Ev.some rfl
    · by_cases hb : rd ts 1 = 1
      · skip
        apply Same.bad
        · refine Ev.sub 8 ?_;simp (decide := true) only [e, hl', ht', w01, w12, ha, hb, blazonref19_of.l2, blazonref19_of.j3, blazonref19_of.j2, blazonref19_of.j1, blazonref19_of.j0, blazonref19_of.l1, if_true, if_false];exact Ev.some rfl
        · refine Ev.sub 8 ?_;simp (decide := true) only [e, hl', ht', ha, hb, typing_typer_of.l1, typing_typer_binary.f, typing_typer_binary.j0, typing_typer_binary.j1, typing_typer_unary.f, typing_typer_want.f, typing_typer_fail.f, Option.bind_some, if_true, if_false];exact Ev.some rfl
      · skip
        apply Same.bad
        · refine Ev.sub 8 ?_;simp (decide := true) only [e, hl', ht', w01, w12, ha, hb, blazonref19_of.l2, blazonref19_of.j3, blazonref19_of.j2, blazonref19_of.j1, blazonref19_of.j0, blazonref19_of.l1, if_true, if_false];exact Ev.some rfl
        · refine Ev.sub 8 ?_;simp (decide := true) only [e, hl', ht', ha, hb, typing_typer_of.l1, typing_typer_binary.f, typing_typer_binary.j0, typing_typer_binary.j1, typing_typer_unary.f, typing_typer_want.f, typing_typer_fail.f, Option.bind_some, if_true, if_false];exact Ev.some rfl
  by_cases n2 : nm = (⟨#[124, 124]⟩ : ByteArray)
  · subst n2;by_cases ha : rd ts 0 = 1
    · by_cases hb : rd ts 1 = 1
      · skip
        apply Same.good
        · refine Ev.sub 8 ?_;simp (decide := true) only [e, hl', ht', w01, w12, ha, hb, blazonref19_of.l2, blazonref19_of.j3, blazonref19_of.j2, blazonref19_of.j1, blazonref19_of.j0, blazonref19_of.l1, if_true, if_false];exact Ev.some rfl
        · refine Ev.sub 8 ?_;simp (decide := true) only [e, hl', ht', ha, hb, typing_typer_of.l1, typing_typer_binary.f, typing_typer_binary.j0, typing_typer_binary.j1, typing_typer_unary.f, typing_typer_want.f, typing_typer_fail.f, Option.bind_some, if_true, if_false];exact Ev.some rfl
      · skip
        apply Same.bad
        · refine Ev.sub 8 ?_;simp (decide := true) only [e, hl', ht', w01, w12, ha, hb, blazonref19_of.l2, blazonref19_of.j3, blazonref19_of.j2, blazonref19_of.j1, blazonref19_of.j0, blazonref19_of.l1, if_true, if_false];exact Ev.some rfl
        · refine Ev.sub 8 ?_;simp (decide := true) only [e, hl', ht', ha, hb, typing_typer_of.l1, typing_typer_binary.f, typing_typer_binary.j0, typing_typer_binary.j1, typing_typer_unary.f, typing_typer_want.f, typing_typer_fail.f, Option.bind_some, if_true, if_false];exact Ev.some rfl
    · by_cases hb : rd ts 1 = 1
      · skip
        apply Same.bad
        · refine Ev.sub 8 ?_;simp (decide := true) only [e, hl', ht', w01, w12, ha, hb, blazonref19_of.l2, blazonref19_of.j3, blazonref19_of.j2, blazonref19_of.j1, blazonref19_of.j0, blazonref19_of.l1, if_true, if_false];exact Ev.some rfl
        · refine Ev.sub 8 ?_;simp (decide := true) only [e, hl', ht', ha, hb, typing_typer_of.l1, typing_typer_binary.f, typing_typer_binary.j0, typing_typer_binary.j1, typing_typer_unary.f, typing_typer_want.f, typing_typer_fail.f, Option.bind_some, if_true, if_false];exact Ev.some rfl
      · skip
        apply Same.bad
        · refine Ev.sub 8 ?_;simp (decide := true) only [e, hl', ht', w01, w12, ha, hb, blazonref19_of.l2, blazonref19_of.j3, blazonref19_of.j2, blazonref19_of.j1, blazonref19_of.j0, blazonref19_of.l1, if_true, if_false];exact Ev.some rfl
        · refine Ev.sub 8 ?_;simp (decide := true) only [e, hl', ht', ha, hb, typing_typer_of.l1, typing_typer_binary.f, typing_typer_binary.j0, typing_typer_binary.j1, typing_typer_unary.f, typing_typer_want.f, typing_typer_fail.f, Option.bind_some, if_true, if_false];exact Ev.some rfl
  by_cases n3 : nm = (⟨#[60]⟩ : ByteArray)
  · subst n3;by_cases ha : rd ts 0 = 0
    · by_cases hb : rd ts 1 = 0
      · skip
        apply Same.good
        · refine Ev.sub 8 ?_;simp (decide := true) only [e, hl', ht', w01, w12, ha, hb, blazonref19_of.l2, blazonref19_of.j3, blazonref19_of.j2, blazonref19_of.j1, blazonref19_of.j0, blazonref19_of.l1, if_true, if_false];exact Ev.some rfl
        · refine Ev.sub 8 ?_;simp (decide := true) only [e, hl', ht', ha, hb, typing_typer_of.l1, typing_typer_binary.f, typing_typer_binary.j0, typing_typer_binary.j1, typing_typer_unary.f, typing_typer_want.f, typing_typer_fail.f, Option.bind_some, if_true, if_false];exact Ev.some rfl
      · skip
        apply Same.bad
        · refine Ev.sub 8 ?_;simp (decide := true) only [e, hl', ht', w01, w12, ha, hb, blazonref19_of.l2, blazonref19_of.j3, blazonref19_of.j2, blazonref19_of.j1, blazonref19_of.j0, blazonref19_of.l1, if_true, if_false];exact Ev.some rfl
        · refine Ev.sub 8 ?_;simp (decide := true) only [e, hl', ht', ha, hb, typing_typer_of.l1, typing_typer_binary.f, typing_typer_binary.j0, typing_typer_binary.j1, typing_typer_unary.f, typing_typer_want.f, typing_typer_fail.f, Option.bind_some, if_true, if_false];exact Ev.some rfl
    · by_cases hb : rd ts 1 = 0
      · skip
        apply Same.bad
        · refine Ev.sub 8 ?_;simp (decide := true) only [e, hl', ht', w01, w12, ha, hb, blazonref19_of.l2, blazonref19_of.j3, blazonref19_of.j2, blazonref19_of.j1, blazonref19_of.j0, blazonref19_of.l1, if_true, if_false];exact Ev.some rfl
        · refine Ev.sub 8 ?_;simp (decide := true) only [e, hl', ht', ha, hb, typing_typer_of.l1, typing_typer_binary.f, typing_typer_binary.j0, typing_typer_binary.j1, typing_typer_unary.f, typing_typer_want.f, typing_typer_fail.f, Option.bind_some, if_true, if_false];exact Ev.some rfl
      · skip
        apply Same.bad
        · refine Ev.sub 8 ?_;simp (decide := true) only [e, hl', ht', w01, w12, ha, hb, blazonref19_of.l2, blazonref19_of.j3, blazonref19_of.j2, blazonref19_of.j1, blazonref19_of.j0, blazonref19_of.l1, if_true, if_false];exact Ev.some rfl
        · refine Ev.sub 8 ?_;simp (decide := true) only [e, hl', ht', ha, hb, typing_typer_of.l1, typing_typer_binary.f, typing_typer_binary.j0, typing_typer_binary.j1, typing_typer_unary.f, typing_typer_want.f, typing_typer_fail.f, Option.bind_some, if_true, if_false];exact Ev.some rfl
  by_cases n4 : nm = (⟨#[61, 61]⟩ : ByteArray)
  · subst n4;by_cases hb : rd ts 1 = rd ts 0
    · skip
      apply Same.good
      · refine Ev.sub 8 ?_;simp (decide := true) only [e, hl', ht', w01, w12, hb, blazonref19_of.l2, blazonref19_of.j3, blazonref19_of.j2, blazonref19_of.j1, blazonref19_of.j0, blazonref19_of.l1, if_true, if_false];exact Ev.some rfl
      · refine Ev.sub 8 ?_;simp (decide := true) only [e, hl', ht', hb, typing_typer_of.l1, typing_typer_binary.f, typing_typer_binary.j0, typing_typer_binary.j1, typing_typer_unary.f, typing_typer_want.f, typing_typer_fail.f, Option.bind_some, if_true, if_false];exact Ev.some rfl
    · skip
      apply Same.bad
      · refine Ev.sub 8 ?_;simp (decide := true) only [e, hl', ht', w01, w12, hb, blazonref19_of.l2, blazonref19_of.j3, blazonref19_of.j2, blazonref19_of.j1, blazonref19_of.j0, blazonref19_of.l1, if_true, if_false];exact Ev.some rfl
      · refine Ev.sub 8 ?_;simp (decide := true) only [e, hl', ht', hb, typing_typer_of.l1, typing_typer_binary.f, typing_typer_binary.j0, typing_typer_binary.j1, typing_typer_unary.f, typing_typer_want.f, typing_typer_fail.f, Option.bind_some, if_true, if_false];exact Ev.some rfl
  by_cases n5 : nm = (⟨#[43]⟩ : ByteArray)
  · subst n5;by_cases ha : rd ts 0 = 0
    · by_cases hb : rd ts 1 = 0
      · skip
        apply Same.good
        · refine Ev.sub 8 ?_;simp (decide := true) only [e, hl', ht', w01, w12, ha, hb, blazonref19_of.l2, blazonref19_of.j3, blazonref19_of.j2, blazonref19_of.j1, blazonref19_of.j0, blazonref19_of.l1, if_true, if_false];exact Ev.some rfl
        · refine Ev.sub 8 ?_;simp (decide := true) only [e, hl', ht', ha, hb, typing_typer_of.l1, typing_typer_binary.f, typing_typer_binary.j0, typing_typer_binary.j1, typing_typer_unary.f, typing_typer_want.f, typing_typer_fail.f, Option.bind_some, if_true, if_false];exact Ev.some rfl
      · skip
        apply Same.bad
        · refine Ev.sub 8 ?_;simp (decide := true) only [e, hl', ht', w01, w12, ha, hb, blazonref19_of.l2, blazonref19_of.j3, blazonref19_of.j2, blazonref19_of.j1, blazonref19_of.j0, blazonref19_of.l1, if_true, if_false];exact Ev.some rfl
        · refine Ev.sub 8 ?_;simp (decide := true) only [e, hl', ht', ha, hb, typing_typer_of.l1, typing_typer_binary.f, typing_typer_binary.j0, typing_typer_binary.j1, typing_typer_unary.f, typing_typer_want.f, typing_typer_fail.f, Option.bind_some, if_true, if_false];exact Ev.some rfl
    · by_cases hb : rd ts 1 = 0
      · skip
        apply Same.bad
        · refine Ev.sub 8 ?_;simp (decide := true) only [e, hl', ht', w01, w12, ha, hb, blazonref19_of.l2, blazonref19_of.j3, blazonref19_of.j2, blazonref19_of.j1, blazonref19_of.j0, blazonref19_of.l1, if_true, if_false];exact Ev.some rfl
        · refine Ev.sub 8 ?_;simp (decide := true) only [e, hl', ht', ha, hb, typing_typer_of.l1, typing_typer_binary.f, typing_typer_binary.j0, typing_typer_binary.j1, typing_typer_unary.f, typing_typer_want.f, typing_typer_fail.f, Option.bind_some, if_true, if_false];exact Ev.some rfl
      · skip
        apply Same.bad
        · refine Ev.sub 8 ?_;simp (decide := true) only [e, hl', ht', w01, w12, ha, hb, blazonref19_of.l2, blazonref19_of.j3, blazonref19_of.j2, blazonref19_of.j1, blazonref19_of.j0, blazonref19_of.l1, if_true, if_false];exact Ev.some rfl
        · refine Ev.sub 8 ?_;simp (decide := true) only [e, hl', ht', ha, hb, typing_typer_of.l1, typing_typer_binary.f, typing_typer_binary.j0, typing_typer_binary.j1, typing_typer_unary.f, typing_typer_want.f, typing_typer_fail.f, Option.bind_some, if_true, if_false];exact Ev.some rfl
  by_cases n6 : nm = (⟨#[45]⟩ : ByteArray)
  · subst n6;by_cases ha : rd ts 0 = 0
    · by_cases hb : rd ts 1 = 0
      · skip
        apply Same.good
        · refine Ev.sub 8 ?_;simp (decide := true) only [e, hl', ht', w01, w12, ha, hb, blazonref19_of.l2, blazonref19_of.j3, blazonref19_of.j2, blazonref19_of.j1, blazonref19_of.j0, blazonref19_of.l1, if_true, if_false];exact Ev.some rfl
        · refine Ev.sub 8 ?_;simp (decide := true) only [e, hl', ht', ha, hb, typing_typer_of.l1, typing_typer_binary.f, typing_typer_binary.j0, typing_typer_binary.j1, typing_typer_unary.f, typing_typer_want.f, typing_typer_fail.f, Option.bind_some, if_true, if_false];exact Ev.some rfl
      · skip
        apply Same.bad
        · refine Ev.sub 8 ?_;simp (decide := true) only [e, hl', ht', w01, w12, ha, hb, blazonref19_of.l2, blazonref19_of.j3, blazonref19_of.j2, blazonref19_of.j1, blazonref19_of.j0, blazonref19_of.l1, if_true, if_false];exact Ev.some rfl
        · refine Ev.sub 8 ?_;simp (decide := true) only [e, hl', ht', ha, hb, typing_typer_of.l1, typing_typer_binary.f, typing_typer_binary.j0, typing_typer_binary.j1, typing_typer_unary.f, typing_typer_want.f, typing_typer_fail.f, Option.bind_some, if_true, if_false];exact Ev.some rfl
    · by_cases hb : rd ts 1 = 0
      · skip
        apply Same.bad
        · refine Ev.sub 8 ?_;simp (decide := true) only [e, hl', ht', w01, w12, ha, hb, blazonref19_of.l2, blazonref19_of.j3, blazonref19_of.j2, blazonref19_of.j1, blazonref19_of.j0, blazonref19_of.l1, if_true, if_false];exact Ev.some rfl
        · refine Ev.sub 8 ?_;simp (decide := true) only [e, hl', ht', ha, hb, typing_typer_of.l1, typing_typer_binary.f, typing_typer_binary.j0, typing_typer_binary.j1, typing_typer_unary.f, typing_typer_want.f, typing_typer_fail.f, Option.bind_some, if_true, if_false];exact Ev.some rfl
      · skip
        apply Same.bad
        · refine Ev.sub 8 ?_;simp (decide := true) only [e, hl', ht', w01, w12, ha, hb, blazonref19_of.l2, blazonref19_of.j3, blazonref19_of.j2, blazonref19_of.j1, blazonref19_of.j0, blazonref19_of.l1, if_true, if_false];exact Ev.some rfl
        · refine Ev.sub 8 ?_;simp (decide := true) only [e, hl', ht', ha, hb, typing_typer_of.l1, typing_typer_binary.f, typing_typer_binary.j0, typing_typer_binary.j1, typing_typer_unary.f, typing_typer_want.f, typing_typer_fail.f, Option.bind_some, if_true, if_false];exact Ev.some rfl
  by_cases n7 : nm = (⟨#[42]⟩ : ByteArray)
  · subst n7;by_cases ha : rd ts 0 = 0
    · by_cases hb : rd ts 1 = 0
      · skip
        apply Same.good
        · refine Ev.sub 8 ?_;simp (decide := true) only [e, hl', ht', w01, w12, ha, hb, blazonref19_of.l2, blazonref19_of.j3, blazonref19_of.j2, blazonref19_of.j1, blazonref19_of.j0, blazonref19_of.l1, if_true, if_false];exact Ev.some rfl
        · refine Ev.sub 8 ?_;simp (decide := true) only [e, hl', ht', ha, hb, typing_typer_of.l1, typing_typer_binary.f, typing_typer_binary.j0, typing_typer_binary.j1, typing_typer_unary.f, typing_typer_want.f, typing_typer_fail.f, Option.bind_some, if_true, if_false];exact Ev.some rfl
      · skip
        apply Same.bad
        · refine Ev.sub 8 ?_;simp (decide := true) only [e, hl', ht', w01, w12, ha, hb, blazonref19_of.l2, blazonref19_of.j3, blazonref19_of.j2, blazonref19_of.j1, blazonref19_of.j0, blazonref19_of.l1, if_true, if_false];exact Ev.some rfl
        · refine Ev.sub 8 ?_;simp (decide := true) only [e, hl', ht', ha, hb, typing_typer_of.l1, typing_typer_binary.f, typing_typer_binary.j0, typing_typer_binary.j1, typing_typer_unary.f, typing_typer_want.f, typing_typer_fail.f, Option.bind_some, if_true, if_false];exact Ev.some rfl
    · by_cases hb : rd ts 1 = 0
      · skip
        apply Same.bad
        · refine Ev.sub 8 ?_;simp (decide := true) only [e, hl', ht', w01, w12, ha, hb, blazonref19_of.l2, blazonref19_of.j3, blazonref19_of.j2, blazonref19_of.j1, blazonref19_of.j0, blazonref19_of.l1, if_true, if_false];exact Ev.some rfl
        · refine Ev.sub 8 ?_;simp (decide := true) only [e, hl', ht', ha, hb, typing_typer_of.l1, typing_typer_binary.f, typing_typer_binary.j0, typing_typer_binary.j1, typing_typer_unary.f, typing_typer_want.f, typing_typer_fail.f, Option.bind_some, if_true, if_false];exact Ev.some rfl
      · skip
        apply Same.bad
        · refine Ev.sub 8 ?_;simp (decide := true) only [e, hl', ht', w01, w12, ha, hb, blazonref19_of.l2, blazonref19_of.j3, blazonref19_of.j2, blazonref19_of.j1, blazonref19_of.j0, blazonref19_of.l1, if_true, if_false];exact Ev.some rfl
        · refine Ev.sub 8 ?_;simp (decide := true) only [e, hl', ht', ha, hb, typing_typer_of.l1, typing_typer_binary.f, typing_typer_binary.j0, typing_typer_binary.j1, typing_typer_unary.f, typing_typer_want.f, typing_typer_fail.f, Option.bind_some, if_true, if_false];exact Ev.some rfl
  apply Same.bad
  · refine Ev.sub 8 ?_;simp (decide := true) only [e, hl', ht', w01, w12, n0, n1, n2, n3, n4, n5, n6, n7, blazonref19_of.l2, blazonref19_of.j3, blazonref19_of.j2, blazonref19_of.j1, blazonref19_of.j0, blazonref19_of.l1, if_true, if_false];exact Ev.some rfl
  · refine Ev.sub 8 ?_;simp (decide := true) only [e, hl', ht', n0, n1, n2, n3, n4, n5, n6, n7, typing_typer_of.l1, typing_typer_binary.f, typing_typer_binary.j0, typing_typer_binary.j1, typing_typer_unary.f, typing_typer_want.f, typing_typer_fail.f, Option.bind_some, if_true, if_false];exact Ev.some rfl
set_option maxHeartbeats 4000000 in
theorem of_una (S : List S134) (F : List S102) (c : S51) (ts : List Int) (e : c.f0 = 4) (hl : c.f6.length = 1) (ht : ts.length = 1) : Same (fun K k => blazonref19_of.l2 (Rec_blazonref19_of.at K) k c.f0 c.f1 c.f3 c.f4 c.f5 S F c.f6 ts 1) (fun K k => typing_typer_of.l1 (Rec_typing_typer_of.at K) k c.f0 c.f1 c.f2 c.f3 c.f4 c.f5 S F c.f6 ts 1 0 0) := by
  have hl' : (c.f6.length : Int) = 1 := by omega
  have ht' : (ts.length : Int) = 1 := by omega
  generalize c.f6 = l at *;generalize c.f5 = nm at *;by_cases n0 : nm = (⟨#[33]⟩ : ByteArray)
  · subst n0;by_cases ha : rd ts 0 = 1
    · skip
      apply Same.good
      · refine Ev.sub 8 ?_;simp (decide := true) only [e, hl', ht', w01, w12, ha, blazonref19_of.l2, blazonref19_of.j3, blazonref19_of.j2, blazonref19_of.j1, blazonref19_of.j0, blazonref19_of.l1, if_true, if_false];exact Ev.some rfl
      · refine Ev.sub 8 ?_;simp (decide := true) only [e, hl', ht', ha, typing_typer_of.l1, typing_typer_binary.f, typing_typer_binary.j0, typing_typer_binary.j1, typing_typer_unary.f, typing_typer_want.f, typing_typer_fail.f, Option.bind_some, if_true, if_false];exact Ev.some rfl
    · skip
      apply Same.bad
      · refine Ev.sub 8 ?_;simp (decide := true) only [e, hl', ht', w01, w12, ha, blazonref19_of.l2, blazonref19_of.j3, blazonref19_of.j2, blazonref19_of.j1, blazonref19_of.j0, blazonref19_of.l1, if_true, if_false];exact Ev.some rfl
      · refine Ev.sub 8 ?_;simp (decide := true) only [e, hl', ht', ha, typing_typer_of.l1, typing_typer_binary.f, typing_typer_binary.j0, typing_typer_binary.j1, typing_typer_unary.f, typing_typer_want.f, typing_typer_fail.f, Option.bind_some, if_true, if_false];exact Ev.some rfl
  by_cases n1 : nm = (⟨#[38, 38]⟩ : ByteArray)
  · subst n1;apply Same.bad
    · refine Ev.sub 8 ?_;simp (decide := true) only [e, hl', ht', w01, w12, blazonref19_of.l2, blazonref19_of.j3, blazonref19_of.j2, blazonref19_of.j1, blazonref19_of.j0, blazonref19_of.l1, if_true, if_false];exact Ev.some rfl
    · refine Ev.sub 8 ?_;simp (decide := true) only [e, hl', ht', typing_typer_of.l1, typing_typer_binary.f, typing_typer_binary.j0, typing_typer_binary.j1, typing_typer_unary.f, typing_typer_want.f, typing_typer_fail.f, Option.bind_some, if_true, if_false];exact Ev.some rfl
  by_cases n2 : nm = (⟨#[124, 124]⟩ : ByteArray)
  · subst n2;apply Same.bad
    · refine Ev.sub 8 ?_;simp (decide := true) only [e, hl', ht', w01, w12, blazonref19_of.l2, blazonref19_of.j3, blazonref19_of.j2, blazonref19_of.j1, blazonref19_of.j0, blazonref19_of.l1, if_true, if_false];exact Ev.some rfl
    · refine Ev.sub 8 ?_;simp (decide := true) only [e, hl', ht', typing_typer_of.l1, typing_typer_binary.f, typing_typer_binary.j0, typing_typer_binary.j1, typing_typer_unary.f, typing_typer_want.f, typing_typer_fail.f, Option.bind_some, if_true, if_false];exact Ev.some rfl
  by_cases n3 : nm = (⟨#[60]⟩ : ByteArray)
  · subst n3;apply Same.bad
    · refine Ev.sub 8 ?_;simp (decide := true) only [e, hl', ht', w01, w12, blazonref19_of.l2, blazonref19_of.j3, blazonref19_of.j2, blazonref19_of.j1, blazonref19_of.j0, blazonref19_of.l1, if_true, if_false];exact Ev.some rfl
    · refine Ev.sub 8 ?_;simp (decide := true) only [e, hl', ht', typing_typer_of.l1, typing_typer_binary.f, typing_typer_binary.j0, typing_typer_binary.j1, typing_typer_unary.f, typing_typer_want.f, typing_typer_fail.f, Option.bind_some, if_true, if_false];exact Ev.some rfl
  by_cases n4 : nm = (⟨#[61, 61]⟩ : ByteArray)
  · subst n4;apply Same.bad
    · refine Ev.sub 8 ?_;simp (decide := true) only [e, hl', ht', w01, w12, blazonref19_of.l2, blazonref19_of.j3, blazonref19_of.j2, blazonref19_of.j1, blazonref19_of.j0, blazonref19_of.l1, if_true, if_false];exact Ev.some rfl
    · refine Ev.sub 8 ?_;simp (decide := true) only [e, hl', ht', typing_typer_of.l1, typing_typer_binary.f, typing_typer_binary.j0, typing_typer_binary.j1, typing_typer_unary.f, typing_typer_want.f, typing_typer_fail.f, Option.bind_some, if_true, if_false];exact Ev.some rfl
  by_cases n5 : nm = (⟨#[43]⟩ : ByteArray)
  · subst n5;apply Same.bad
    · refine Ev.sub 8 ?_;simp (decide := true) only [e, hl', ht', w01, w12, blazonref19_of.l2, blazonref19_of.j3, blazonref19_of.j2, blazonref19_of.j1, blazonref19_of.j0, blazonref19_of.l1, if_true, if_false];exact Ev.some rfl
    · refine Ev.sub 8 ?_;simp (decide := true) only [e, hl', ht', typing_typer_of.l1, typing_typer_binary.f, typing_typer_binary.j0, typing_typer_binary.j1, typing_typer_unary.f, typing_typer_want.f, typing_typer_fail.f, Option.bind_some, if_true, if_false];exact Ev.some rfl
  by_cases n6 : nm = (⟨#[45]⟩ : ByteArray)
  · subst n6;by_cases ha : rd ts 0 = 0
    · skip
      apply Same.good
      · refine Ev.sub 8 ?_;simp (decide := true) only [e, hl', ht', w01, w12, ha, blazonref19_of.l2, blazonref19_of.j3, blazonref19_of.j2, blazonref19_of.j1, blazonref19_of.j0, blazonref19_of.l1, if_true, if_false];exact Ev.some rfl
      · refine Ev.sub 8 ?_;simp (decide := true) only [e, hl', ht', ha, typing_typer_of.l1, typing_typer_binary.f, typing_typer_binary.j0, typing_typer_binary.j1, typing_typer_unary.f, typing_typer_want.f, typing_typer_fail.f, Option.bind_some, if_true, if_false];exact Ev.some rfl
    · skip
      apply Same.bad
      · refine Ev.sub 8 ?_;simp (decide := true) only [e, hl', ht', w01, w12, ha, blazonref19_of.l2, blazonref19_of.j3, blazonref19_of.j2, blazonref19_of.j1, blazonref19_of.j0, blazonref19_of.l1, if_true, if_false];exact Ev.some rfl
      · refine Ev.sub 8 ?_;simp (decide := true) only [e, hl', ht', ha, typing_typer_of.l1, typing_typer_binary.f, typing_typer_binary.j0, typing_typer_binary.j1, typing_typer_unary.f, typing_typer_want.f, typing_typer_fail.f, Option.bind_some, if_true, if_false];exact Ev.some rfl
  by_cases n7 : nm = (⟨#[42]⟩ : ByteArray)
  · subst n7;apply Same.bad
    · refine Ev.sub 8 ?_;simp (decide := true) only [e, hl', ht', w01, w12, blazonref19_of.l2, blazonref19_of.j3, blazonref19_of.j2, blazonref19_of.j1, blazonref19_of.j0, blazonref19_of.l1, if_true, if_false];exact Ev.some rfl
    · refine Ev.sub 8 ?_;simp (decide := true) only [e, hl', ht', typing_typer_of.l1, typing_typer_binary.f, typing_typer_binary.j0, typing_typer_binary.j1, typing_typer_unary.f, typing_typer_want.f, typing_typer_fail.f, Option.bind_some, if_true, if_false];exact Ev.some rfl
  apply Same.bad
  · refine Ev.sub 8 ?_;simp (decide := true) only [e, hl', ht', w01, w12, n0, n1, n2, n3, n4, n5, n6, n7, blazonref19_of.l2, blazonref19_of.j3, blazonref19_of.j2, blazonref19_of.j1, blazonref19_of.j0, blazonref19_of.l1, if_true, if_false];exact Ev.some rfl
  · refine Ev.sub 8 ?_;simp (decide := true) only [e, hl', ht', n0, n1, n2, n3, n4, n5, n6, n7, typing_typer_of.l1, typing_typer_binary.f, typing_typer_binary.j0, typing_typer_binary.j1, typing_typer_unary.f, typing_typer_want.f, typing_typer_fail.f, Option.bind_some, if_true, if_false];exact Ev.some rfl
def FnOk (S : List S134) (F : List S102) : Prop := ∀ x ∈ F, (∀ p ∈ x.f3, 0 ≤ p ∧ p < (S.length : Int)) ∧ 0 ≤ x.f4 ∧ x.f4 < (S.length : Int)
theorem rdi_mem {l : List Int} {j : Nat} (h : j < l.length) : rd l (j : Int) ∈ l := by
  unfold rd;rw [Int.toNat_natCast, List.getD_eq_getElem?_getD, List.getElem?_eq_getElem h]; exact List.getElem_mem h
theorem rd102_int {l : List S102} {i : Int} (h0 : 0 ≤ i) (h : i < (l.length : Int)) : rd_T102 l i ∈ l := by
  obtain ⟨n, rfl⟩ : ∃ n : Nat, i = n := ⟨i.toNat, by omega⟩;exact rd102_mem (by omega)
theorem par_go (S : List S134) (F : List S102) (fn : Int) (l : List S51) (ts : List Int) (hf : (∀ p ∈ (rd_T102 F fn).f3, 0 ≤ p ∧ p < (S.length : Int)) ∧ 0 ≤ (rd_T102 F fn).f4 ∧ (rd_T102 F fn).f4 < (S.length : Int)) (hl : l.length ≤ maxLen) (hn : (rd_T102 F fn).f3.length = l.length) (ht : ts.length = l.length) (a : Int) : ∀ m j, j + m = l.length → Ev (fun K k => typing_typer_of.l0 (Rec_typing_typer_of.at K) k fn S F l ts (j : Int) a 15) ((rd_T134 S (rd_T102 F fn).f4).f4, a, 15) := by
  intro m
  induction m with
  | zero =>
    intro j hj;refine Ev.sub 1 ?_;simp only [typing_typer_of.l0, if_neg (show ¬ ((j : Int) < ((rd_T102 F fn).f3.length : Int)) by omega), if_pos hf.2.1, if_pos hf.2.2];exact Ev.some rfl
  | succ m IH =>
    intro j hj;refine Ev.sub 1 ?_;have hp := hf.1 _ (rdi_mem (show j < (rd_T102 F fn).f3.length by omega));simp only [typing_typer_of.l0, if_pos (show ((j : Int) < ((rd_T102 F fn).f3.length : Int)) by omega), if_pos (show (0 : Int) ≤ (j : Int) by omega), if_pos (show ((j : Int) < (ts.length : Int)) by omega), if_pos (show ((j : Int) < (l.length : Int)) by omega), if_pos hp.1, if_pos hp.2, typing_typer_want.f, typing_typer_fail.f, wr_succ hl (show j < l.length by omega), Int.reduceEq, if_false, Option.bind_some, iteb, ite_self];exact IH (j + 1) (by omega)
theorem par_l0 (S : List S134) (F : List S102) (fn : Int) (l : List S51) (ts : List Int) (hf : (∀ p ∈ (rd_T102 F fn).f3, 0 ≤ p ∧ p < (S.length : Int)) ∧ 0 ≤ (rd_T102 F fn).f4 ∧ (rd_T102 F fn).f4 < (S.length : Int)) (hl : l.length ≤ maxLen) (hn : (rd_T102 F fn).f3.length = l.length) (ht : ts.length = l.length) : ∀ m j, j + m = l.length → Same (fun K k => blazonref19_of.l0 (Rec_blazonref19_of.at K) k fn S F l ts (j : Int)) (fun K k => typing_typer_of.l0 (Rec_typing_typer_of.at K) k fn S F l ts (j : Int) 0 0) := by
  intro m
  induction m with
  | zero =>
    intro j hj;apply Same.good
    · refine Ev.sub 1 ?_;simp only [blazonref19_of.l0, if_neg (show ¬ ((j : Int) < (ts.length : Int)) by omega), if_pos hf.2.1, if_pos hf.2.2];exact Ev.some rfl
    · refine Ev.sub 1 ?_;simp only [typing_typer_of.l0, if_neg (show ¬ ((j : Int) < ((rd_T102 F fn).f3.length : Int)) by omega), if_pos hf.2.1, if_pos hf.2.2];exact Ev.some rfl
  | succ m IH =>
    intro j hj;have hp := hf.1 _ (rdi_mem (show j < (rd_T102 F fn).f3.length by omega));by_cases ht1 : rd ts (j : Int) = (rd_T134 S (rd (rd_T102 F fn).f3 (j : Int))).f4
    · obtain ⟨T, bad, a, T', h, w, o⟩ := IH (j + 1) (by omega);refine ⟨T, bad, a, T', Ev.sub 1 ?_, Ev.sub 1 ?_, o⟩
      · simp only [blazonref19_of.l0, if_pos (show ((j : Int) < ((rd_T102 F fn).f3.length : Int)) by omega), if_pos (show (0 : Int) ≤ (j : Int) by omega), if_pos (show ((j : Int) < (ts.length : Int)) by omega), if_pos (show ((j : Int) < (l.length : Int)) by omega), if_pos hp.1, if_pos hp.2, if_pos ht1, wr_succ hl (show j < l.length by omega)];exact h
      · simp only [typing_typer_of.l0, if_pos (show ((j : Int) < ((rd_T102 F fn).f3.length : Int)) by omega), if_pos (show (0 : Int) ≤ (j : Int) by omega), if_pos (show ((j : Int) < (ts.length : Int)) by omega), if_pos (show ((j : Int) < (l.length : Int)) by omega), if_pos hp.1, if_pos hp.2, typing_typer_want.f, if_pos ht1, Option.bind_some, wr_succ hl (show j < l.length by omega)];exact w
    · apply Same.bad
      · refine Ev.sub 1 ?_;simp only [blazonref19_of.l0, if_pos (show ((j : Int) < ((rd_T102 F fn).f3.length : Int)) by omega), if_pos (show (0 : Int) ≤ (j : Int) by omega), if_pos (show ((j : Int) < (ts.length : Int)) by omega), if_pos (show ((j : Int) < (l.length : Int)) by omega), if_pos hp.1, if_pos hp.2, if_neg ht1];exact Ev.some rfl
      · refine Ev.sub 1 ?_;simp only [typing_typer_of.l0, if_pos (show ((j : Int) < ((rd_T102 F fn).f3.length : Int)) by omega), if_pos (show (0 : Int) ≤ (j : Int) by omega), if_pos (show ((j : Int) < (ts.length : Int)) by omega), if_pos (show ((j : Int) < (l.length : Int)) by omega), if_pos hp.1, if_pos hp.2, typing_typer_want.f, typing_typer_fail.f, if_neg ht1, if_true, Option.bind_some, wr_succ hl (show j < l.length by omega)];exact par_go S F fn l ts hf hl hn ht _ m (j + 1) (by omega)
theorem of_tail (S : List S134) (F : List S102) (c : S51) (hF : FnOk S F) (hl : c.f6.length ≤ maxLen) (h0 : 0 ≤ c.f0) (h1 : c.f0 ≤ 6) (h2 : c.f0 = 2 → 0 ≤ c.f3 ∧ c.f3 < (S.length : Int)) (h3 : c.f0 = 3 → 0 ≤ c.f4 ∧ c.f4 < (F.length : Int)) (h4 : c.f0 = 4 → c.f6.length = 1) (h5 : c.f0 = 5 → c.f6.length = 2) (h6 : c.f0 = 6 → c.f6.length = 1) (ts : List Int) (ht : ts.length = c.f6.length) : Same (fun K k => blazonref19_of.l2 (Rec_blazonref19_of.at K) k c.f0 c.f1 c.f3 c.f4 c.f5 S F c.f6 ts (c.f6.length : Nat)) (fun K k => typing_typer_of.l1 (Rec_typing_typer_of.at K) k c.f0 c.f1 c.f2 c.f3 c.f4 c.f5 S F c.f6 ts (c.f6.length : Nat) 0 0) := by
  have hk : c.f0 = 0 ∨ c.f0 = 1 ∨ c.f0 = 2 ∨ c.f0 = 3 ∨ c.f0 = 4 ∨ c.f0 = 5 ∨ c.f0 = 6 := by omega
  have nl : ¬ ((c.f6.length : Int) < (c.f6.length : Int)) := by omega
  rcases hk with e | e | e | e | e | e | e
  · apply Same.good
    · refine Ev.sub 1 ?_;simp only [blazonref19_of.l2, if_neg nl, e, if_true];exact Ev.some rfl
    · refine Ev.sub 1 ?_;simp only [typing_typer_of.l1, if_neg nl, e, if_true];exact Ev.some rfl
  · apply Same.good
    · refine Ev.sub 1 ?_;simp only [blazonref19_of.l2, if_neg nl, e, Int.reduceEq, if_false, if_true];exact Ev.some rfl
    · refine Ev.sub 1 ?_;simp only [typing_typer_of.l1, if_neg nl, e, Int.reduceEq, if_false];exact Ev.some rfl
  · apply Same.good
    · refine Ev.sub 1 ?_;simp only [blazonref19_of.l2, if_neg nl, e, Int.reduceEq, if_false, if_true, if_pos (h2 e).1, if_pos (h2 e).2];exact Ev.some rfl
    · refine Ev.sub 1 ?_;simp only [typing_typer_of.l1, if_neg nl, e, Int.reduceEq, if_false, if_true, if_pos (h2 e).1, if_pos (h2 e).2];exact Ev.some rfl
  · by_cases hn : (ts.length : Int) = ((rd_T102 F c.f4).f3.length : Int)
    · obtain ⟨T, bad, a, T', h, w, o⟩ := par_l0 S F c.f4 c.f6 ts (hF _ (rd102_int (h3 e).1 (h3 e).2)) hl (by omega) ht c.f6.length 0 (by omega);refine ⟨T, bad, a, T', Ev.sub 1 ?_, Ev.sub 1 ?_, o⟩
      · simp only [blazonref19_of.l2, if_neg nl, e, Int.reduceEq, if_false, if_true, if_pos (h3 e).1, if_pos (h3 e).2, if_pos hn];exact h
      · simp only [typing_typer_of.l1, if_neg nl, e, Int.reduceEq, if_false, if_true, if_pos (h3 e).1, if_pos (h3 e).2, if_pos hn];exact w
    · apply Same.bad
      · refine Ev.sub 1 ?_;simp only [blazonref19_of.l2, if_neg nl, e, Int.reduceEq, if_false, if_true, if_pos (h3 e).1, if_pos (h3 e).2, if_neg hn];exact Ev.some rfl
      · refine Ev.sub 1 ?_;simp only [typing_typer_of.l1, if_neg nl, e, Int.reduceEq, if_false, if_true, if_pos (h3 e).1, if_pos (h3 e).2, if_neg hn, typing_typer_fail.f, Option.bind_some];exact Ev.some rfl
  · have := of_una S F c ts e (h4 e) (by rw [ht, h4 e]);rw [h4 e]; exact this
  · have := of_bin S F c ts e (h5 e) (by rw [ht, h5 e]);rw [h5 e]; exact this
  · have hp : (0 : Int) < (ts.length : Int) := by have := h6 e; omega
    apply Same.good
    · refine Ev.sub 1 ?_;simp only [blazonref19_of.l2, if_neg nl, e, Int.reduceEq, if_false, if_true, if_pos hp];exact Ev.some rfl
    · refine Ev.sub 1 ?_;simp only [typing_typer_of.l1, if_neg nl, e, Int.reduceEq, if_false, if_true, if_pos hp];exact Ev.some rfl
def OFP (S : List S134) (F : List S102) (c : S51) : Prop := Same (fun _ k => blazonref19_of.f k S F c.f0 c.f1 c.f2 c.f3 c.f4 c.f5 c.f6) (fun _ k => typing_typer_of.f k S F 0 0 c.f0 c.f1 c.f2 c.f3 c.f4 c.f5 c.f6)
theorem Ev.one {α : Type} {F : Nat → Option α} {v : α} (h : Ev (fun _ k => F k) v) : E1 F v := h.diag
theorem of_loop (S : List S134) (F : List S102) (c : S51) (hl : c.f6.length ≤ maxLen) (hb : c.f6.length * 80 ≤ 140737488351232) (ih : ∀ x ∈ c.f6, OFP S F x) (tail : ∀ ts : List Int, ts.length = c.f6.length → Same (fun K k => blazonref19_of.l2 (Rec_blazonref19_of.at K) k c.f0 c.f1 c.f3 c.f4 c.f5 S F c.f6 ts (c.f6.length : Nat)) (fun K k => typing_typer_of.l1 (Rec_typing_typer_of.at K) k c.f0 c.f1 c.f2 c.f3 c.f4 c.f5 S F c.f6 ts (c.f6.length : Nat) 0 0)) : ∀ m j, j + m = c.f6.length → ∀ ts : List Int, ts.length = j → Same (fun K k => blazonref19_of.l2 (Rec_blazonref19_of.at K) k c.f0 c.f1 c.f3 c.f4 c.f5 S F c.f6 ts (j : Int)) (fun K k => typing_typer_of.l1 (Rec_typing_typer_of.at K) k c.f0 c.f1 c.f2 c.f3 c.f4 c.f5 S F c.f6 ts (j : Int) 0 0) := by
  intro m
  induction m with
  | zero =>
    intro j hj ts ht;obtain rfl : j = c.f6.length := by omega
    exact tail ts ht
  | succ m IH =>
    intro j hj ts ht;obtain ⟨T, bad, a, T', h, w, o⟩ := ih _ (rd51_mem (show j < c.f6.length by omega));have p1 : ((j : Int) < (c.f6.length : Int)) := by omega
    have p2 : (0 : Int) ≤ (j : Int) := by omega
    have p3 : ts.length < 17592186044416 := by omega
    cases bad
    · obtain rfl := o rfl;obtain ⟨T2, bad2, a2, T2', h', w', o'⟩ := IH (j + 1) (by omega) (ts ++ [T']) (by simp [ht]);refine ⟨T2, bad2, a2, T2', Ev.sub 1 ?_, Ev.sub 1 ?_, o'⟩
      · simp only [blazonref19_of.l2, if_pos p1, if_pos p2, if_pos p3];refine Ev.bind h.one.K ?_;simp only [Bool.false_eq_true, if_false, Option.bind_some, wr_succ hl (show j < c.f6.length by omega)];exact h'
      · simp only [typing_typer_of.l1, if_pos p1, if_pos p2, if_pos p3];refine Ev.bind w.one.K ?_;simp only [Bool.false_eq_true, if_false, if_true, Option.bind_some, wr_succ hl (show j < c.f6.length by omega)];exact w'
    · apply Same.bad
      · refine Ev.sub 1 ?_;simp only [blazonref19_of.l2, if_pos p1, if_pos p2, if_pos p3];refine Ev.bind h.one.K ?_;simp only [if_true];exact Ev.some rfl
      · refine Ev.sub 1 ?_;simp only [typing_typer_of.l1, if_pos p1, if_pos p2, if_pos p3];refine Ev.bind w.one.K ?_;simp only [if_true, Option.bind_some, Int.reduceEq, if_false];exact Ev.some rfl
theorem of_ev (S : List S134) (F : List S102) (hF : FnOk S F) {c : S51} (h : Ok51 c) : OKc S F c → OFP S F c := by
  induction h with
  | mk x g0 g1 g2 g3 g4 g5 g6a g6b g6c ih =>
    intro ok
    cases ok with
    | mk _ h0 h1 h2 h3 h4 h5 h6 h7 hc =>
      obtain ⟨T, bad, a, T', h, w, o⟩ := of_loop S F x g6a g6b (fun y hy => ih y hy (hc y hy)) (of_tail S F x hF g6a h0 h1 h2 h3 h4 h5 h6) x.f6.length 0 (by omega) [] rfl;exact ⟨T, bad, a, T', (E1.succ h fun k => rfl).k, (E1.succ w fun k => rfl).k, o⟩
def St (S : List S134) (i : Int) : Bool := decide (0 ≤ i ∧ i < (S.length : Int))
theorem site_eq (S : List S134) (F : List S102) (i : Int) : blazonref19_site.f S F i = some (St S i) := by
  unfold blazonref19_site.f St;by_cases h : i ≥ 0
  · rw [if_pos h];simp only [show (0 ≤ i) = True from eq_true (by omega), true_and]
  · rw [if_neg h, decide_eq_false (by omega)]
theorem walk_eq (S : List S134) (F : List S102) (i : Int) : typing_newWalker_1.f i (some ⟨S, F⟩) = some (St S i) := by
  unfold typing_newWalker_1.f St onOpt;by_cases h : i ≥ 0
  · rw [if_pos h];simp only [show (0 ≤ i) = True from eq_true (by omega), true_and]
  · rw [if_neg h, decide_eq_false (by omega)]
theorem may1_eq (S : List S134) (F : List S102) (i : Int) : typing_May_1.f i (some ⟨some ⟨⟨S, F⟩, some ⟨S, F⟩, false⟩⟩) = some (!St S i) := by
  unfold typing_May_1.f onOpt;simp only [walk_eq, Option.bind_some]
theorem par_may (S : List S134) (F : List S102) (i : Int) (x : S102) (hx : rd_T102 F i = x) (hl : x.f3.length ≤ maxLen) (v : Bool) (hv : Ev (fun _ k => blazonref19_May.l0 k S F i (x.f3.length : Int)) v) : ∀ m j, j + m = x.f3.length → ∃ b : Bool, Ev (fun _ k => blazonref19_May.l0 k S F i (j : Int)) (b && v) ∧ (∃ r : Int, Ev (fun _ k => slices_IndexFunc_int_int_typing_May_1.l0 k x.f3 (some ⟨some ⟨⟨S, F⟩, some ⟨S, F⟩, false⟩⟩) (j : Int)) r ∧ decide (r ≥ 0) = !b) ∧ (b = true → ∀ q : Nat, j ≤ q → q < x.f3.length → St S (rd x.f3 (q : Int)) = true) := by
  intro m
  induction m with
  | zero =>
    intro j hj;obtain rfl : j = x.f3.length := by omega
    refine ⟨true, by simpa using hv, ⟨-1, Ev.sub 1 ?_, by decide⟩, fun _ q h1 h2 => by omega⟩;simp only [slices_IndexFunc_int_int_typing_May_1.l0, if_neg (show ¬ ((x.f3.length : Int) < (x.f3.length : Int)) by omega)];exact Ev.some rfl
  | succ m IH =>
    intro j hj;have p1 : ((j : Int) < (x.f3.length : Int)) := by omega
    have p2 : (0 : Int) ≤ (j : Int) := by omega
    cases hs : St S (rd x.f3 (j : Int))
    · refine ⟨false, Ev.sub 1 ?_, ⟨(j : Int), Ev.sub 1 ?_, decide_eq_true p2⟩, fun h => by cases h⟩
      · simp only [blazonref19_May.l0, hx, if_pos p1, if_pos p2, site_eq, hs, Option.bind_some, Bool.false_eq_true, if_false, Bool.false_and];exact Ev.some rfl
      · simp only [slices_IndexFunc_int_int_typing_May_1.l0, if_pos p1, if_pos p2, may1_eq, hs, Option.bind_some, Bool.not_false, if_true];exact Ev.some rfl
    · obtain ⟨b, h, ⟨r, h', e⟩, o⟩ := IH (j + 1) (by omega);refine ⟨b, Ev.sub 1 ?_, ⟨r, Ev.sub 1 ?_, e⟩, fun hb q h1 h2 => ?_⟩
      · simp only [blazonref19_May.l0, hx, if_pos p1, if_pos p2, site_eq, hs, Option.bind_some, if_true, wr_succ hl (show j < x.f3.length by omega)];exact h
      · simp only [slices_IndexFunc_int_int_typing_May_1.l0, if_pos p1, if_pos p2, may1_eq, hs, Option.bind_some, Bool.not_true, Bool.false_eq_true, if_false, wr_succ hl (show j < x.f3.length by omega)];exact h'
      · rcases Nat.eq_or_lt_of_le h1 with e' | e'
        · rw [← e']; exact hs
        · exact o hb q (by omega) h2
def FnGood (S : List S134) (F : List S102) (x : S102) : Prop := ((∀ p ∈ x.f3, 0 ≤ p ∧ p < (S.length : Int)) ∧ 0 ≤ x.f4 ∧ x.f4 < (S.length : Int)) ∧ (∀ a ∈ x.f7, OKa S F a) ∧ OKc S F x.f8
theorem may_bad (S : List S134) (F : List S102) (j : Nat) : Ev (fun _ k => typing_May.l0 k F S F (j : Int) (some ⟨S, F⟩) true) false := by
  refine Ev.sub 1 ?_;by_cases h : (j : Int) < (F.length : Int)
  · simp only [typing_May.l0, if_pos h, if_pos (show (0 : Int) ≤ (j : Int) by omega), if_true];exact Ev.some rfl
  · simp only [typing_May.l0, if_neg h];exact Ev.some rfl
theorem may_l0 (S : List S134) (F : List S102) (hl : F.length ≤ maxLen) (hc : ∀ x ∈ F, Ok102 x) : ∀ m j, j + m = F.length → ∃ b : Bool, Ev (fun _ k => blazonref19_May.l1 k S F (j : Int)) (b && decide ((S.length : Int) ≤ 512)) ∧ Ev (fun _ k => typing_May.l0 k F S F (j : Int) (some ⟨S, F⟩) false) b ∧ (b = true → ∀ q : Nat, j ≤ q → q < F.length → FnGood S F (rd_T102 F (q : Int))) := by
  intro m
  induction m with
  | zero =>
    intro j hj;refine ⟨true, Ev.sub 1 ?_, Ev.sub 1 ?_, fun _ q h1 h2 => by omega⟩
    · simp only [blazonref19_May.l1, if_neg (show ¬ ((j : Int) < (F.length : Int)) by omega)];exact Ev.some rfl
    · simp only [typing_May.l0, if_neg (show ¬ ((j : Int) < (F.length : Int)) by omega)];exact Ev.some rfl
  | succ m IH =>
    intro j hj;have p1 : ((j : Int) < (F.length : Int)) := by omega
    have p2 : (0 : Int) ≤ (j : Int) := by omega
    have hm := hc _ (rd102_mem (show j < F.length by omega));have hw := wr_succ hl (show j < F.length by omega);obtain ⟨r, h, w, o⟩ := IH (j + 1) (by omega);generalize hx : rd_T102 F (j : Int) = x at *;obtain ⟨b7, h7, w7, o7⟩ := ac_evl S F hm.2.2.2.2.2.2.2.1.1 hm.2.2.2.2.2.2.2.1.2.2;obtain ⟨b8, h8, w8, o8⟩ := mc_ev S F hm.2.2.2.2.2.2.2.2 1 (by omega) (by omega);have hl3 := hm.2.2.2.1.1;have hend : Ev (fun _ k => blazonref19_May.l0 k S F (j : Int) (x.f3.length : Int)) (St S x.f4 && (St S x.f5 && (b7 && (b8 && (r && decide ((S.length : Int) ≤ 512)))))) := by
      refine Ev.sub 1 ?_;simp only [blazonref19_May.l0, hx, if_neg (show ¬ ((x.f3.length : Int) < (x.f3.length : Int)) by omega), site_eq, Option.bind_some]
      cases St S x.f4
      · exact Ev.some rfl
      simp only [if_true, Bool.true_and]
      cases St S x.f5
      · exact Ev.some rfl
      simp only [if_true, Bool.true_and];refine Ev.bind h7.k ?_
      cases b7
      · exact Ev.some rfl
      simp only [if_true, Bool.true_and];refine Ev.bind h8.k ?_
      cases b8
      · exact Ev.some rfl
      simp only [if_true, Bool.true_and, hw];exact h
    obtain ⟨b3, h3, ⟨r3, h3', e3⟩, o3⟩ := par_may S F (j : Int) x hx hl3 _ hend x.f3.length 0 (by omega);refine ⟨b3 && (St S x.f4 && (St S x.f5 && (b7 && (b8 && r)))), Ev.sub 1 ?_, Ev.sub 1 ?_, fun hb q h1 h2 => ?_⟩
    · simp only [blazonref19_May.l1, if_pos p1, if_pos p2];refine h3.cast ?_;simp only [Bool.and_assoc]
    · simp only [typing_May.l0, if_pos p1, if_pos p2, hx, onOpt, walk_eq, Option.bind_some, Bool.false_eq_true, if_false]
      cases St S x.f4
      · exact Ev.some (by cases b3 <;> rfl)
      simp only [if_true, Bool.true_and]
      cases St S x.f5
      · exact Ev.some (by cases b3 <;> rfl)
      simp only [if_true, Bool.true_and, slices_ContainsFunc_int_int_typing_May_1.f, slices_IndexFunc_int_int_typing_May_1.f, Option.bind_assoc];refine Ev.bind h3' ?_;simp only [Option.bind_some, e3]
      cases b3
      · exact Ev.some rfl
      simp only [Bool.not_true, Bool.false_eq_true, if_false, Bool.true_and];refine Ev.bind (w7 false).k ?_;refine Ev.bind (w8 _).k ?_;simp only [hw]
      cases b7
      · exact may_bad S F (j + 1)
      cases b8
      · exact may_bad S F (j + 1)
      exact w
    · simp only [Bool.and_eq_true] at hb;rcases Nat.eq_or_lt_of_le h1 with e | e
      · rw [← e, hx];refine ⟨⟨fun p hp => ?_, ?_⟩, o7 hb.2.2.2.1, o8 hb.2.2.2.2.1⟩
        · obtain ⟨i, hi, e⟩ := List.getElem_of_mem hp;have := o3 hb.1 i (Nat.zero_le i) hi;unfold rd St at this;rw [Int.toNat_natCast, List.getD_eq_getElem?_getD, List.getElem?_eq_getElem hi, Option.getD_some, e] at this;exact of_decide_eq_true this
        · exact of_decide_eq_true hb.2.1
      · exact o hb.2.2.2.2.2 q (by omega) h2
theorem may_ev (S : List S134) (F : List S102) (hl : F.length ≤ maxLen) (hc : ∀ x ∈ F, Ok102 x) : ∃ b : Bool, Ev (fun _ k => blazonref19_May.f k S F) b ∧ Ev (fun _ k => typing_May.f k S F) b ∧ (b = true → ∀ x ∈ F, FnGood S F x) := by
  obtain ⟨b, h, w, o⟩ := may_l0 S F hl hc F.length 0 (by omega);refine ⟨b && decide ((S.length : Int) ≤ 512), h, ?_, fun hb x hx => ?_⟩
  · simp only [typing_May.f, typing_newWalker.f, Option.bind_some];by_cases h5 : (S.length : Int) > 512
    · rw [decide_eq_true h5, decide_eq_false (by omega), Bool.and_false];exact may_bad S F 0
    · rw [decide_eq_false h5, decide_eq_true (by omega), Bool.and_true];exact w
  · simp only [Bool.and_eq_true] at hb;obtain ⟨i, hi, e⟩ := List.getElem_of_mem hx;have := o hb.1 i (Nat.zero_le i) hi;unfold rd_T102 at this
    rwa [Int.toNat_natCast, List.getD_eq_getElem?_getD, List.getElem?_eq_getElem hi, Option.getD_some, e] at this
theorem awake_ev : Ev (fun _ k => blazonlaw19_awake.f k) true := Ev.sub 60 ⟨0, fun K k _ _ => by kernel_rfl⟩
theorem great_j0 (S : List S134) (F : List S102) (c : S51) (hF1 : F.length ≤ maxLen) (hF3 : ∀ x ∈ F, Ok102 x) (hc : Ok51 c) (g : Bool) : Ev (fun _ k => blazonlaw19_TypingOf.j0 k c.f0 c.f1 c.f2 c.f3 c.f4 c.f5 S F c.f6 g) true := by
  refine Ev.sub 1 ?_;simp only [blazonlaw19_TypingOf.j0]
  cases g
  · simp only [Bool.false_eq_true, if_false];obtain ⟨b, h, w, o⟩ := may_ev S F hF1 hF3;obtain ⟨b8, h8, w8, o8⟩ := mc_ev S F hc 1 (by omega) (by omega);obtain ⟨x, y, z, hC, hR⟩ : ∃ x y z : Int, Ev (fun _ k => typing_Of.f k S F c.f0 c.f1 c.f2 c.f3 c.f4 c.f5 c.f6) (x, y, z) ∧ Ev (fun _ k => blazonref19_Of.f k S F c.f0 c.f1 c.f2 c.f3 c.f4 c.f5 c.f6) (x, y, z) := by
      have no : ∀ b' : Bool, b' = false → Ev (fun _ k => blazonref19_Of.j0 k c.f0 c.f1 c.f2 c.f3 c.f4 c.f5 S F c.f6 (!b')) (0, 0, 1) := fun b' e => by
        subst e;refine Ev.sub 1 ?_;simp only [blazonref19_Of.j0, Bool.not_false, if_true];exact Ev.some rfl
      have no' : Ev (fun _ k => typing_Of.j0 k c.f0 c.f1 c.f2 c.f3 c.f4 c.f5 S F c.f6 true) (0, 0, 1) := by
        refine Ev.sub 1 ?_;simp only [typing_Of.j0, if_true];exact Ev.some rfl
      cases b
      · refine ⟨0, 0, 1, ?_, ?_⟩
        · simp only [typing_Of.f, typing_newWalker.f, Option.bind_some];refine Ev.bind (w8 _).k ?_;refine Ev.ite (fun _ => no') fun _ => ?_;refine Ev.bind w ?_;exact no'
        · simp only [blazonref19_Of.f];refine Ev.bind h ?_;simp only [Bool.false_eq_true, if_false];exact no false rfl
      · have h512 : decide ((S.length : Int) > 512) = false := by
          obtain ⟨b', h', w', o'⟩ := may_l0 S F hF1 hF3 F.length 0 (by omega);obtain ⟨k1, e1⟩ := h;obtain ⟨k2, e2⟩ := h';have a1 := e1 (k1 + k2) (k1 + k2) (by omega) (by omega);have a2 := e2 (k1 + k2) (k1 + k2) (by omega) (by omega);have : some true = some (b' && decide ((S.length : Int) ≤ 512)) := a1.symm.trans a2;have := (Option.some.inj this).symm;simp only [Bool.and_eq_true, decide_eq_true_eq] at this;exact decide_eq_false (by omega)
        cases b8
        · refine ⟨0, 0, 1, ?_, ?_⟩
          · simp only [typing_Of.f, typing_newWalker.f, Option.bind_some, h512];refine Ev.bind (w8 _).k ?_;exact no'
          · simp only [blazonref19_Of.f];refine Ev.bind h ?_;simp only [if_true];refine Ev.bind h8.k ?_;exact no false rfl
        · have hF : FnOk S F := fun x hx => (o rfl x hx).1;obtain ⟨T, bad, a, T', hr, wr, e⟩ := of_ev S F hF hc (o8 rfl)
          cases bad
          · obtain rfl := e rfl;refine ⟨T', 0, 0, ?_, ?_⟩
            · simp only [typing_Of.f, typing_newWalker.f, Option.bind_some, h512];refine Ev.bind (w8 _).k ?_;simp only [Bool.not_true, Bool.or_self, Bool.false_eq_true, if_false];refine Ev.bind w ?_;refine Ev.sub 1 ?_;simp only [typing_Of.j0, Bool.not_true, Bool.false_eq_true, if_false];refine Ev.bind wr ?_;simp only [Bool.false_eq_true, if_false, if_true];exact Ev.some rfl
            · simp only [blazonref19_Of.f];refine Ev.bind h ?_;simp only [if_true];refine Ev.bind h8.k ?_;refine Ev.sub 1 ?_;simp only [blazonref19_Of.j0, Bool.not_true, Bool.false_eq_true, if_false];refine Ev.bind hr ?_;simp only [Bool.false_eq_true, if_false];exact Ev.some rfl
          · refine ⟨0, a, 15, ?_, ?_⟩
            · simp only [typing_Of.f, typing_newWalker.f, Option.bind_some, h512];refine Ev.bind (w8 _).k ?_;simp only [Bool.not_true, Bool.or_self, Bool.false_eq_true, if_false];refine Ev.bind w ?_;refine Ev.sub 1 ?_;simp only [typing_Of.j0, Bool.not_true, Bool.false_eq_true, if_false];refine Ev.bind wr ?_;simp only [if_true, Int.reduceEq, if_false];exact Ev.some rfl
            · simp only [blazonref19_Of.f];refine Ev.bind h ?_;simp only [if_true];refine Ev.bind h8.k ?_;refine Ev.sub 1 ?_;simp only [blazonref19_Of.j0, Bool.not_true, Bool.false_eq_true, if_false];refine Ev.bind hr ?_;simp only [if_true];exact Ev.some rfl
    refine Ev.bind hC (Ev.bind hR ?_);simp only [if_true];exact Ev.bind awake_ev (Ev.some rfl)
  · simp only [if_true];exact Ev.bind awake_ev (Ev.some rfl)
theorem TypingOf : blazonlaw19_TypingOf.Pure := by
  intro S F c0 c1 c2 c3 c4 c5 c6 hS1 hS2 hS3 hF1 hF2 hF3 q0 q1 q2 q3 q4 q5 q6 q7 q8;apply Ev.out (F := fun _ k => blazonlaw19_TypingOf.f k S F c0 c1 c2 c3 c4 c5 c6);have hc : Ok51 ⟨c0, c1, c2, c3, c4, c5, c6⟩ := ⟨_, q0, q1, q2, q3, q4, q5, q6, q7, q8⟩;obtain ⟨g, hg⟩ := great_ev S F hF1 hF3 600;simp only [blazonlaw19_TypingOf.f];refine Ev.bind hg (Ev.ite (fun _ => ?_) fun _ => ?_)
  · exact great_j0 S F _ hF1 hF3 hc true
  · obtain ⟨r, hr⟩ := size_ev hc 600;refine Ev.bind (a := decide (r < 0)) ?_ (great_j0 S F _ hF1 hF3 hc _);simp only [blazonref19_GreatCode.f];exact Ev.bind hr.k (Ev.some rfl)
end Go.Proofs.Ytnhcpdepjpfcfaa.Pure
