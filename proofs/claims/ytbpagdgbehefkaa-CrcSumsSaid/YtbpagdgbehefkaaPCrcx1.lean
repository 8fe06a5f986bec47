-- By xprint.py, a program of this work, over the kit's printer. Lean checks it.
import Derived.Test.YtbpagdgbehefkaaPCrcx0
namespace Go.Proofs.Ytbpagdgbehefkaa.PCrc
open Go.RowKit Go.Proofs.YtbpagdgbehefkaaW.PrintWords Go.Proofs.YtbpagdgbehefkaaW.PrintLast Go.Proofs.YtbpagdgbehefkaaW.PrintMore
attribute [local go_sem] x_isSome max2_int min2_int max_two min_two max_three min_three max_four min_four   -- for this text's walks alone
set_option linter.unusedVariables false
set_option linter.unusedSimpArgs false

/-- A state of type 97 at block g of W; what its slices lead to came in by w0. -/
def IsS97 (w0 W : World) (g : Nat) (f0 : Int) : Prop := ∃ cs, W.heap[g]? = some (.cells cs 97 (0, 0)) ∧ w0.heap.size ≤ g ∧ Go.Proofs.Ytbpagdgbehefkaa.Crc.Inv97 cs f0
theorem IsS97.grown {w0 W : World} {g : Nat} {f0 : Int} {W1 : World} {row : Option Nat} (h : IsS97 w0 W g f0) (hw : W.grownBy W1 row) (hne : some g ≠ row) : IsS97 w0 W1 g f0 := by
  obtain ⟨cs, hb, hg, hv⟩ := h
  exact ⟨cs, blk_grown hb hw hne, hg, hv⟩
theorem IsS97.own_neN {w0 W : World} {g : Nat} {f0 : Int} {α : Type} {d : Kd α} {e : Nat} {base : Nat} {ok : Nat → Prop} {v : Value} {xs : List α} (h : IsS97 w0 W g f0) (ho : Kd.N d e W base ok v xs) (ht : e ≠ 97) : some g ≠ v.ownBlock := by
  obtain ⟨cs, hb, hg, hv⟩ := h
  exact Kd.N_ne ho hb ht
theorem IsS97.fresh {w0 W : World} {g : Nat} {f0 : Int} (h : IsS97 w0 W g f0) : ∀ k, W.heap.size ≤ k → k ≠ g := by
  obtain ⟨cs, hb, hg, hv⟩ := h
  exact Kd.freshB hb
theorem IsS97.kept {w0 W : World} {g : Nat} {f0 : Int} {W1 : World} {S : Nat → Prop} (h : IsS97 w0 W g f0) (hk : Kept W W1 S) (hne : ¬ S g) : IsS97 w0 W1 g f0 := by
  obtain ⟨cs, hb, hg, hv⟩ := h
  exact ⟨cs, blk_kept hb hk hne, hg, hv⟩
theorem IsS97.below {w0 W : World} {g : Nat} {f0 : Int} {W1 : World} (h : IsS97 w0 W g f0) (hw : Below W.heap.size W W1) : IsS97 w0 W1 g f0 := h.grown (grown_of_below hw none) (by simp)
theorem IsS97.alloc {w0 W : World} {g : Nat} {f0 : Int} (h : IsS97 w0 W g f0) (o : Obj) : IsS97 w0 (W.alloc o) g f0 := h.below (below_alloc (Below.refl _ _) o)
theorem IsS97.drewN {w0 W : World} {g : Nat} {f0 : Int} (h : IsS97 w0 W g f0) (m : Nat) : IsS97 w0 (W.drewN m) g f0 := h
theorem IsS97.drew {w0 W : World} {g : Nat} {f0 : Int} (h : IsS97 w0 W g f0) : IsS97 w0 W.drew g f0 := h
theorem IsS97.at_ {w0 W : World} {g : Nat} {f0 : Int} {w' : World} {m : Nat} (hq : W.drewN m = w') (h : IsS97 w0 W g f0) : IsS97 w0 w' g f0 := by subst hq; exact IsS97.drewN h m
theorem IsS97.apart {w0 W : World} {g : Nat} {f0 : Int} {α : Type} {d : Kd α} {e : Nat} {base : Nat} {ok : Nat → Prop} {v : Value} {xs : List α} (h : IsS97 w0 W g f0) (ho : d.R e W base ok v xs) (ht : ∀ q, q ∈ e :: d.E → q ≠ 97) : d.R e W base (fun k => ok k ∧ k ≠ g) v xs := by
  obtain ⟨cs, hb, hg, hv⟩ := h
  exact Kd.R_types ho hb ht
theorem IsS97.own_ne {w0 W : World} {g : Nat} {f0 : Int} {α : Type} {d : Kd α} {e : Nat} {base : Nat} {ok : Nat → Prop} {v : Value} {xs : List α} (h : IsS97 w0 W g f0) (ho : d.R e W base ok v xs) (ht : e ≠ 97) : some g ≠ v.ownBlock := by
  obtain ⟨cs, hb, hg, hv⟩ := h
  exact Kd.R_ne ho hb ht
theorem IsS97.apartQ {w0 W : World} {g : Nat} {f0 : Int} {α : Type} {d : Kd α} {e : Nat} {base : Nat} {ok : Nat → Prop} {v : Value} {xs : List α} (h : IsS97 w0 W g f0) (ho : d.Q e W base ok v xs) (ht : ∀ q, q ∈ e :: d.E → q ≠ 97) : d.Q e W base (fun k => ok k ∧ k ≠ g) v xs := by
  obtain ⟨cs, hb, hg, hv⟩ := h
  exact Kd.Q_types ho hb ht
theorem IsS97.own_neQ {w0 W : World} {g : Nat} {f0 : Int} {α : Type} {d : Kd α} {e : Nat} {base : Nat} {ok : Nat → Prop} {v : Value} {xs : List α} (h : IsS97 w0 W g f0) (ho : d.Q e W base ok v xs) (ht : e ≠ 97) : some g ≠ v.ownBlock := by
  obtain ⟨cs, hb, hg, hv⟩ := h
  exact Kd.Q_ne ho hb ht
theorem IsS97.apartS {w0 W : World} {g : Nat} {f0 : Int} {α : Type} {d : Kd α} {e : Nat} {base : Nat} {ok : Nat → Prop} {v : Value} {xs : List α} (h : IsS97 w0 W g f0) (ho : d.S e W base ok v xs) (ht : ∀ q, q ∈ e :: d.E → q ≠ 97) : d.S e W base (fun k => ok k ∧ k ≠ g) v xs := by
  obtain ⟨cs, hb, hg, hv⟩ := h
  exact Kd.S_types ho hb ht
theorem IsS97.own_neS {w0 W : World} {g : Nat} {f0 : Int} {α : Type} {d : Kd α} {e : Nat} {base : Nat} {ok : Nat → Prop} {v : Value} {xs : List α} (h : IsS97 w0 W g f0) (ho : d.S e W base ok v xs) (ht : e ≠ 97) : some g ≠ v.ownBlock := by
  obtain ⟨cs, hb, hg, hv⟩ := h
  exact Kd.S_ne ho hb ht
theorem IsS97.lt {w0 W : World} {g : Nat} {f0 : Int} (h : IsS97 w0 W g f0) : g < W.heap.size := by
  obtain ⟨cs, hb, hg, hv⟩ := h
  exact blk_lt hb
theorem IsS97.ge {w0 W : World} {g : Nat} {f0 : Int} (h : IsS97 w0 W g f0) : w0.heap.size ≤ g := by
  obtain ⟨cs, hb, hg, hv⟩ := h
  exact hg
theorem IsS97.ne_blk {w0 W : World} {g : Nat} {f0 : Int} {a : Nat} {cs : Array Value} {t : TypeId} {fr : Nat × Nat} (h : IsS97 w0 W g f0) (hb2 : W.heap[a]? = some (.cells cs t fr)) (ht : t ≠ 97) : g ≠ a := by
  obtain ⟨cs, hb, hg, hv⟩ := h
  rintro rfl
  rw [hb] at hb2
  injection hb2 with hb2
  injection hb2 with _ ht2
  exact ht ht2.symm
theorem IsS97.far {w0 W : World} {g : Nat} {f0 : Int} {p : Addr} (h : IsS97 w0 W g f0) (hne : g ≠ p.block) (u : Value) : IsS97 w0 (W.setCell p u) g f0 := by
  obtain ⟨cs, hb, hg, hv⟩ := h
  exact ⟨cs, blk_far hb hne u, hg, hv⟩
/-! ### crc_New: function 34 -/
def crc_New.f : Option (Int) := some 0
theorem crc_New.calls (r : Int) (w0 w : World) (hB : Below w0.heap.size w0 w) (h : crc_New.f = some r) :
    Calls Try.prog 34 #[] w fun e w' => ∃ g_ : Nat, e = .returned (.pointer (some ⟨g_, 0, none⟩)) ∧ IsS97 w0 w' g_ r ∧ Below w0.heap.size w0 w' ∧ Below w.heap.size w w' := by
  obtain rfl := Option.some.inj h
  have hsz := hB.size
  refine (Go.Proofs.Ytbpagdgbehefkaa.Crc.new_calls w).mono ?_
  rintro e w' ⟨he, hs, hbel, hsize, cs, hb⟩
  exact ⟨w.heap.size, he, ⟨cs, hb, hsz, Go.Proofs.Ytbpagdgbehefkaa.Crc.inv_of hb hs⟩, hB.trans (hbel.mono hsz), hbel⟩

/-! ### crc_Summer_Of: function 36 -/
def crc_Summer_Of.f (s0_0 : Int) (l1 : List Int) : Option (Int × Int) := if l1.length ≤ 1000000 ∧ 0 ≤ s0_0 ∧ s0_0 ≤ 1000000 then some (Go.Proofs.Ytbpagdgbehefkaa.Crc.flip (Go.Proofs.Ytbpagdgbehefkaa.Crc.stepsF 4294967295 l1), s0_0 + 1) else none
theorem crc_Summer_Of.calls (g : Nat) (s0_0 : Int) (A1 : Option Addr) (c1 : Nat) (l1 : List Int) (r1 : Int) (r2 : Int) (w0 w : World) (hI : IsS97 w0 w g s0_0) (hB : Below w0.heap.size w0 w) (hr1 : Kd.C (Kd.int .u8) w A1 l1.length l1) (hc1 : l1.length ≤ c1) (hf1 : ∀ ad, A1 = some ad → 0 < l1.length → ad.block ≠ g) (h : crc_Summer_Of.f s0_0 l1 = some (r1, r2)) :
    Calls Try.prog 36 #[.pointer (some ⟨g, 0, none⟩), .slice A1 l1.length c1] w fun e w' => e = .returned (.int .u32 r1) ∧ IsS97 w0 w' g r2 ∧ Below w0.heap.size w0 w' ∧ KeepBut w w' g none := by
  unfold crc_Summer_Of.f at h
  by_cases e1 : l1.length ≤ 1000000 ∧ 0 ≤ s0_0 ∧ s0_0 ≤ 1000000
  · rw [if_pos e1] at h
    simp only [Option.some.injEq, Prod.mk.injEq] at h
    obtain ⟨rfl, rfl⟩ := h
    obtain ⟨cs, hb, hg, hv⟩ := hI
    refine (Go.Proofs.Ytbpagdgbehefkaa.Crc.of_calls g s0_0 A1 c1 l1 w (Go.Proofs.Ytbpagdgbehefkaa.Crc.sum_of hb hv) e1.2 e1.1 (fun w' ho => Kd.C_keep (0 : Int) hr1 ho.keep hf1)).mono ?_
    rintro e w' ⟨he, hs, ho⟩
    obtain ⟨cs', hb'⟩ := ho.kept cs hb
    exact ⟨he, ⟨cs', hb', hg, Go.Proofs.Ytbpagdgbehefkaa.Crc.inv_of hb' hs⟩, hB.trans (ho.below hg), ho.keep⟩
  · rw [if_neg e1] at h
    cases h

/-! ### crc_Summer_Calls: function 40 -/
def crc_Summer_Calls.f (s0_0 : Int) : Option (Int × Int) := some (s0_0, s0_0)
theorem crc_Summer_Calls.calls (g : Nat) (s0_0 : Int) (r1 : Int) (r2 : Int) (w0 w : World) (hI : IsS97 w0 w g s0_0) (hB : Below w0.heap.size w0 w) (h : crc_Summer_Calls.f s0_0 = some (r1, r2)) :
    Calls Try.prog 40 #[.pointer (some ⟨g, 0, none⟩)] w fun e w' => e = .returned (.int .i64 r1) ∧ IsS97 w0 w' g r2 ∧ Below w0.heap.size w0 w' ∧ KeepBut w w' g none := by
  unfold crc_Summer_Calls.f at h
  simp only [Option.some.injEq, Prod.mk.injEq] at h
  obtain ⟨rfl, rfl⟩ := h
  obtain ⟨cs, hb, hg, hv⟩ := hI
  refine (Go.Proofs.Ytbpagdgbehefkaa.Crc.calls_calls g s0_0 w (Go.Proofs.Ytbpagdgbehefkaa.Crc.sum_of hb hv)).mono ?_
  rintro e w' ⟨he, rfl⟩
  exact ⟨he, ⟨cs, hb, hg, hv⟩, hB, KeepBut.refl _ _ _⟩

/-! ### blazonlaw02_awake: function 33 -/
def blazonlaw02_awake.f  : Option (Bool) := (crc_New.f).bind fun t101 => ((crc_Summer_Of.f t101 (([49, 50, 51, 52, 53, 54, 55, 56, 57] : List Int))).bind fun bt106 => (if bt106.1 = 3421780262 then ((crc_Summer_Of.f bt106.2 ([] : List Int)).bind fun bt108 => (if bt108.1 = 0 then ((crc_Summer_Calls.f bt108.2).bind fun bt110 => (some (bt110.1 == 2))) else (some false))) else (some false)))
set_option maxHeartbeats 8000000 in
set_option maxRecDepth 100000 in
theorem blazonlaw02_awake.calls  (r : Bool) (w : World) (h : blazonlaw02_awake.f  = some r) :
    Calls Try.prog 33 #[] w fun e w' => e = .returned (.bool r) ∧ Below w.heap.size w w' := by
  have HB := Aside0.mk (Below.refl w.heap.size w)
  have H : ((crc_New.f).bind fun t101 => ((crc_Summer_Of.f t101 (([49, 50, 51, 52, 53, 54, 55, 56, 57] : List Int))).bind fun bt106 => (if bt106.1 = 3421780262 then ((crc_Summer_Of.f bt106.2 ([] : List Int)).bind fun bt108 => (if bt108.1 = 0 then ((crc_Summer_Calls.f bt108.2).bind fun bt110 => (some (bt110.1 == 2))) else (some false))) else (some false)))) = some r := h
  clear h
  replace H := Option.bind_eq_some_iff.mp H
  obtain ⟨t101, A10, H⟩ := H
  replace H : ((crc_Summer_Of.f t101 (([49, 50, 51, 52, 53, 54, 55, 56, 57] : List Int))).bind fun bt106 => (if bt106.1 = 3421780262 then ((crc_Summer_Of.f bt106.2 ([] : List Int)).bind fun bt108 => (if bt108.1 = 0 then ((crc_Summer_Calls.f bt108.2).bind fun bt110 => (some (bt110.1 == 2))) else (some false))) else (some false))) = some r := H
  have A1 := Aside0.mk A10
  clear A10
  obtain ⟨y103, hy103⟩ : ∃ y_ : List Int, y_ = (([49, 50, 51, 52, 53, 54, 55, 56, 57] : List Int)) := ⟨_, rfl⟩
  replace H : ((crc_Summer_Of.f t101 y103).bind fun bt106 => (if bt106.1 = 3421780262 then ((crc_Summer_Of.f bt106.2 ([] : List Int)).bind fun bt108 => (if bt108.1 = 0 then ((crc_Summer_Calls.f bt108.2).bind fun bt110 => (some (bt110.1 == 2))) else (some false))) else (some false))) = some r := by first | (rw [hy103]; with_reducible exact H) | (have H2_ := (Option.bind_some _ _).symm.trans H; rw [hy103]; with_reducible exact H2_) | (have H2_ := (Option.bind_some _ _).symm.trans H; with_reducible exact H2_) | with_reducible exact H | (rw [hy103]; exact H) | exact H
  have Ny103 := Aside0.mk hy103
  clear hy103
  replace H := Option.bind_eq_some_iff.mp H
  obtain ⟨⟨t106, t107⟩, A20, H⟩ := H
  replace H : (if t106 = 3421780262 then ((crc_Summer_Of.f t107 ([] : List Int)).bind fun bt108 => (if bt108.1 = 0 then ((crc_Summer_Calls.f bt108.2).bind fun bt110 => (some (bt110.1 == 2))) else (some false))) else (some false)) = some r := H
  have A2 := Aside0.mk A20
  clear A20
  by_cases c3 : t106 = 3421780262
  · rw [if_pos c3] at H
    have c3b0 : (t106 == 3421780262) = true := beq_iff_eq.mpr c3
    have c3b1 : (t106 != 3421780262) = false := bne_eq_false_iff_eq.mpr c3
    clear c3
    replace H := Option.bind_eq_some_iff.mp H
    obtain ⟨⟨t108, t109⟩, A40, H⟩ := H
    replace H : (if t108 = 0 then ((crc_Summer_Calls.f t109).bind fun bt110 => (some (bt110.1 == 2))) else (some false)) = some r := H
    have A4 := Aside0.mk A40
    clear A40
    by_cases c5 : t108 = 0
    · rw [if_pos c5] at H
      have c5b0 : (t108 == 0) = true := beq_iff_eq.mpr c5
      have c5b1 : (t108 != 0) = false := bne_eq_false_iff_eq.mpr c5
      clear c5
      replace H := Option.bind_eq_some_iff.mp H
      obtain ⟨⟨t110, t111⟩, A60, H⟩ := H
      replace H : (some (t110 == 2)) = some r := H
      have A6 := Aside0.mk A60
      clear A60
      obtain rfl := Option.some.inj H
      go_enter Try.func33, Try.ntmps33
      go_wp2_with (first | ((with_reducible refine gate_callee (f := 34) rfl ?_); refine goesL_ (some 2) rfl rfl Try.func34 (by kernel_rfl) rfl #[] rfl (by (try simp only [List.map_toArray, List.map_cons, List.map_nil]); first | done | rfl | (simp only [List.length_drop, List.length_take]; rfl)) ?_; (with_reducible refine (crc_New.calls  t101 w _ ?side1 A1.out).mono ?_); (case side1 => repeat (first | (with_reducible first | exact HB.out | apply below_alloc | apply pw_below_drewN | apply below_drew1) | exact HB.out)); rintro e w7 ⟨g102, rfl, hi, hb, hb2⟩; refine ⟨_, rfl, ?_⟩; have n0_ := Aside0.mk (hb); have n1_ := Aside0.mk (hi); clear HB; have HB := n0_; have HI102 := n1_; clear n0_ n1_; (try clear hb); (try clear hb2); (try clear hk); (try clear hi)) | ((with_reducible refine gate_dst (N := 4) rfl ?_); refine Kd.V_litconv _ 5 ?hg (N := 4) ?hd (xs := ([49, 50, 51, 52, 53, 54, 55, 56, 57] : List Int)) (inner := [.int .u8 49, .int .u8 50, .int .u8 51, .int .u8 52, .int .u8 53, .int .u8 54, .int .u8 55, .int .u8 56, .int .u8 57]) ?hr rfl 23 rfl _ rfl rfl Try.underlying23 Try.underlying5 (by simp) (Below.refl _ _) (Nat.le_refl _) ?_; (case hd => rfl); (case hg => rfl); (case hr => first | (go_simp; done) | (go_simp; rfl)); intro v104 w8 ho9 hb hg_ hnew_; clear hg_ hnew_; (first | rw [← Ny103.out] at ho9 | (simp only [Int.reduceToNat] at ho9; rw [← Ny103.out] at ho9)); have n0_ := Aside0.mk (Kd.V_lower (Kd.V_mono (ok' := fun k_ => k_ ≠ g102) ho9 (fun k_ hk_ => (IsS97.fresh (by repeat (first | (with_reducible first | exact HI102.out | apply IsS97.alloc | apply IsS97.drewN | apply IsS97.drew | apply IsS97.set_0) | exact HI102.out)) k_ hk_))) (below_size (by repeat (first | (with_reducible first | exact HB.out | apply below_alloc | apply pw_below_drewN | apply below_drew1 | refine below_set ?_ (IsS97.ge HI102.out)) | exact HB.out)))); have n1_ := Aside0.mk (IsS97.below (by repeat (first | (with_reducible first | exact HI102.out | apply IsS97.alloc | apply IsS97.drewN | apply IsS97.drew | apply IsS97.set_0) | exact HI102.out)) hb); have n2_ := Aside0.mk (below_step (by repeat (first | (with_reducible first | exact HB.out | apply below_alloc | apply pw_below_drewN | apply below_drew1 | refine below_set ?_ (IsS97.ge HI102.out)) | exact HB.out)) hb); clear HI102; clear HB; have HO105 := n0_; have HI102 := n1_; have HB := n2_; clear n0_ n1_ n2_; clear hb ho9; obtain ⟨Ao10, co10, eo10⟩ := Kd.V_slice HO105.out; subst eo10) | ((with_reducible refine gate_callee (f := 36) rfl ?_); refine goesL_ (some 6) rfl rfl Try.func36 (by kernel_rfl) rfl #[.pointer (some ⟨g102, 0, none⟩), .slice Ao10 y103.length co10] rfl (by (try simp only [List.map_toArray, List.map_cons, List.map_nil]); first | done | rfl | (simp only [List.length_drop, List.length_take]; rfl)) ?_; (with_reducible refine (crc_Summer_Of.calls g102 t101 _ _ y103 t106 t107 w _ ?side1 ?side2 ?side3 ?side4 ?side5 A2.out).mono ?_); (case side1 => repeat (first | (with_reducible first | exact HI102.out | apply IsS97.alloc | apply IsS97.drewN | apply IsS97.drew | apply IsS97.set_0) | exact HI102.out)); (case side2 => repeat (first | (with_reducible first | exact HB.out | apply below_alloc | apply pw_below_drewN | apply below_drew1 | refine below_set ?_ (IsS97.ge HI102.out)) | exact HB.out)); (case side3 => repeat (first | exact (Kd.V_reads' HO105.out).2.2 | (with_reducible refine Kd.C_alloc ?_ _) | (with_reducible refine Kd.C_drewN ?_ _) | (with_reducible refine Kd.C_drew ?_))); (case side4 => exact (Kd.V_reads' HO105.out).2.1); (case side5 => exact Kd.V_farblk HO105.out (fun h_ => (h_) rfl)); rintro e w11 ⟨rfl, hi, hb, hk⟩; refine ⟨_, rfl, ?_⟩; have n0_ := Aside0.mk (Kd.V_mono (Kd.V_keep (Kd.V_mono (ok := fun k_ => k_ ≠ g102) (by (with_reducible repeat (first | apply Kd.V_alloc | apply Kd.V_drewN | apply Kd.V_drew)); exact HO105.out) (fun k_ hk_ => (⟨hk_, hk_⟩ : _ ∧ k_ ≠ g102))) hk (fun _ h => h.2)) (fun _ h => h.1)); have n1_ := Aside0.mk (hb); have n2_ := Aside0.mk (hi); clear HO105; clear HB; clear HI102; have HO105 := n0_; have HB := n1_; have HI102 := n2_; clear n0_ n1_ n2_; (try clear hb); (try clear hb2); (try clear hk); (try clear hi)) | (go_at_call 36; (refine (crc_Summer_Of.calls g102 t107 _ _ ([] : List Int) t108 t109 w _ ?side1 ?side2 ?side3 ?side4 ?side5 A4.out).mono ?_); (case side1 => repeat (first | (with_reducible first | exact HI102.out | apply IsS97.alloc | apply IsS97.drewN | apply IsS97.drew | apply IsS97.set_0) | exact HI102.out)); (case side2 => repeat (first | (with_reducible first | exact HB.out | apply below_alloc | apply pw_below_drewN | apply below_drew1 | refine below_set ?_ (IsS97.ge HI102.out)) | exact HB.out)); (case side3 => exact Kd.C_nil _ _); (case side4 => exact Nat.le_refl _); (case side5 => intro ad he; cases he); rintro e w12 ⟨rfl, hi, hb, hk⟩; have n0_ := Aside0.mk (Kd.V_mono (Kd.V_keep (Kd.V_mono (ok := fun k_ => k_ ≠ g102) (by (with_reducible repeat (first | apply Kd.V_alloc | apply Kd.V_drewN | apply Kd.V_drew)); exact HO105.out) (fun k_ hk_ => (⟨hk_, hk_⟩ : _ ∧ k_ ≠ g102))) hk (fun _ h => h.2)) (fun _ h => h.1)); have n1_ := Aside0.mk (hb); have n2_ := Aside0.mk (hi); clear HO105; clear HB; clear HI102; have HO105 := n0_; have HB := n1_; have HI102 := n2_; clear n0_ n1_ n2_; (try clear hb); (try clear hb2); (try clear hk); (try clear hi)) | (go_at_call 40; (with_reducible refine (crc_Summer_Calls.calls g102 t109 t110 t111 w _ ?side1 ?side2 A6.out).mono ?_); (case side1 => repeat (first | (with_reducible first | exact HI102.out | apply IsS97.alloc | apply IsS97.drewN | apply IsS97.drew | apply IsS97.set_0) | exact HI102.out)); (case side2 => repeat (first | (with_reducible first | exact HB.out | apply below_alloc | apply pw_below_drewN | apply below_drew1 | refine below_set ?_ (IsS97.ge HI102.out)) | exact HB.out)); rintro e w13 ⟨rfl, hi, hb, hk⟩; have n0_ := Aside0.mk (Kd.V_mono (Kd.V_keep (Kd.V_mono (ok := fun k_ => k_ ≠ g102) (by (with_reducible repeat (first | apply Kd.V_alloc | apply Kd.V_drewN | apply Kd.V_drew)); exact HO105.out) (fun k_ hk_ => (⟨hk_, hk_⟩ : _ ∧ k_ ≠ g102))) hk (fun _ h => h.2)) (fun _ h => h.1)); have n1_ := Aside0.mk (hb); have n2_ := Aside0.mk (hi); clear HO105; clear HB; clear HI102; have HO105 := n0_; have HB := n1_; have HI102 := n2_; clear n0_ n1_ n2_; (try clear hb); (try clear hb2); (try clear hk); (try clear hi)))
      go_ret
      exact ⟨by first | rfl | (simp [errW_none, errW_some] <;> rfl) | (simp [*, errW_none, errW_some] <;> rfl), by repeat (first | (with_reducible first | exact HB.out | apply below_alloc | apply pw_below_drewN | apply below_drew1 | refine below_set ?_ (IsS97.ge HI102.out)) | exact HB.out)⟩
    · rw [if_neg c5] at H
      have c5b0 : (t108 == 0) = false := beq_eq_false_iff_ne.mpr c5
      have c5b1 : (t108 != 0) = true := bne_iff_ne.mpr c5
      obtain rfl := Option.some.inj H
      go_enter Try.func33, Try.ntmps33
      go_wp2_with (first | ((with_reducible refine gate_callee (f := 34) rfl ?_); refine goesL_ (some 2) rfl rfl Try.func34 (by kernel_rfl) rfl #[] rfl (by (try simp only [List.map_toArray, List.map_cons, List.map_nil]); first | done | rfl | (simp only [List.length_drop, List.length_take]; rfl)) ?_; (with_reducible refine (crc_New.calls  t101 w _ ?side1 A1.out).mono ?_); (case side1 => repeat (first | (with_reducible first | exact HB.out | apply below_alloc | apply pw_below_drewN | apply below_drew1) | exact HB.out)); rintro e w14 ⟨g102, rfl, hi, hb, hb2⟩; refine ⟨_, rfl, ?_⟩; have n0_ := Aside0.mk (hb); have n1_ := Aside0.mk (hi); clear HB; have HB := n0_; have HI102 := n1_; clear n0_ n1_; (try clear hb); (try clear hb2); (try clear hk); (try clear hi)) | ((with_reducible refine gate_dst (N := 4) rfl ?_); refine Kd.V_litconv _ 5 ?hg (N := 4) ?hd (xs := ([49, 50, 51, 52, 53, 54, 55, 56, 57] : List Int)) (inner := [.int .u8 49, .int .u8 50, .int .u8 51, .int .u8 52, .int .u8 53, .int .u8 54, .int .u8 55, .int .u8 56, .int .u8 57]) ?hr rfl 23 rfl _ rfl rfl Try.underlying23 Try.underlying5 (by simp) (Below.refl _ _) (Nat.le_refl _) ?_; (case hd => rfl); (case hg => rfl); (case hr => first | (go_simp; done) | (go_simp; rfl)); intro v104 w15 ho16 hb hg_ hnew_; clear hg_ hnew_; (first | rw [← Ny103.out] at ho16 | (simp only [Int.reduceToNat] at ho16; rw [← Ny103.out] at ho16)); have n0_ := Aside0.mk (Kd.V_lower (Kd.V_mono (ok' := fun k_ => k_ ≠ g102) ho16 (fun k_ hk_ => (IsS97.fresh (by repeat (first | (with_reducible first | exact HI102.out | apply IsS97.alloc | apply IsS97.drewN | apply IsS97.drew | apply IsS97.set_0) | exact HI102.out)) k_ hk_))) (below_size (by repeat (first | (with_reducible first | exact HB.out | apply below_alloc | apply pw_below_drewN | apply below_drew1 | refine below_set ?_ (IsS97.ge HI102.out)) | exact HB.out)))); have n1_ := Aside0.mk (IsS97.below (by repeat (first | (with_reducible first | exact HI102.out | apply IsS97.alloc | apply IsS97.drewN | apply IsS97.drew | apply IsS97.set_0) | exact HI102.out)) hb); have n2_ := Aside0.mk (below_step (by repeat (first | (with_reducible first | exact HB.out | apply below_alloc | apply pw_below_drewN | apply below_drew1 | refine below_set ?_ (IsS97.ge HI102.out)) | exact HB.out)) hb); clear HI102; clear HB; have HO105 := n0_; have HI102 := n1_; have HB := n2_; clear n0_ n1_ n2_; clear hb ho16; obtain ⟨Ao17, co17, eo17⟩ := Kd.V_slice HO105.out; subst eo17) | ((with_reducible refine gate_callee (f := 36) rfl ?_); refine goesL_ (some 6) rfl rfl Try.func36 (by kernel_rfl) rfl #[.pointer (some ⟨g102, 0, none⟩), .slice Ao17 y103.length co17] rfl (by (try simp only [List.map_toArray, List.map_cons, List.map_nil]); first | done | rfl | (simp only [List.length_drop, List.length_take]; rfl)) ?_; (with_reducible refine (crc_Summer_Of.calls g102 t101 _ _ y103 t106 t107 w _ ?side1 ?side2 ?side3 ?side4 ?side5 A2.out).mono ?_); (case side1 => repeat (first | (with_reducible first | exact HI102.out | apply IsS97.alloc | apply IsS97.drewN | apply IsS97.drew | apply IsS97.set_0) | exact HI102.out)); (case side2 => repeat (first | (with_reducible first | exact HB.out | apply below_alloc | apply pw_below_drewN | apply below_drew1 | refine below_set ?_ (IsS97.ge HI102.out)) | exact HB.out)); (case side3 => repeat (first | exact (Kd.V_reads' HO105.out).2.2 | (with_reducible refine Kd.C_alloc ?_ _) | (with_reducible refine Kd.C_drewN ?_ _) | (with_reducible refine Kd.C_drew ?_))); (case side4 => exact (Kd.V_reads' HO105.out).2.1); (case side5 => exact Kd.V_farblk HO105.out (fun h_ => (h_) rfl)); rintro e w18 ⟨rfl, hi, hb, hk⟩; refine ⟨_, rfl, ?_⟩; have n0_ := Aside0.mk (Kd.V_mono (Kd.V_keep (Kd.V_mono (ok := fun k_ => k_ ≠ g102) (by (with_reducible repeat (first | apply Kd.V_alloc | apply Kd.V_drewN | apply Kd.V_drew)); exact HO105.out) (fun k_ hk_ => (⟨hk_, hk_⟩ : _ ∧ k_ ≠ g102))) hk (fun _ h => h.2)) (fun _ h => h.1)); have n1_ := Aside0.mk (hb); have n2_ := Aside0.mk (hi); clear HO105; clear HB; clear HI102; have HO105 := n0_; have HB := n1_; have HI102 := n2_; clear n0_ n1_ n2_; (try clear hb); (try clear hb2); (try clear hk); (try clear hi)) | (go_at_call 36; (refine (crc_Summer_Of.calls g102 t107 _ _ ([] : List Int) t108 t109 w _ ?side1 ?side2 ?side3 ?side4 ?side5 A4.out).mono ?_); (case side1 => repeat (first | (with_reducible first | exact HI102.out | apply IsS97.alloc | apply IsS97.drewN | apply IsS97.drew | apply IsS97.set_0) | exact HI102.out)); (case side2 => repeat (first | (with_reducible first | exact HB.out | apply below_alloc | apply pw_below_drewN | apply below_drew1 | refine below_set ?_ (IsS97.ge HI102.out)) | exact HB.out)); (case side3 => exact Kd.C_nil _ _); (case side4 => exact Nat.le_refl _); (case side5 => intro ad he; cases he); rintro e w19 ⟨rfl, hi, hb, hk⟩; have n0_ := Aside0.mk (Kd.V_mono (Kd.V_keep (Kd.V_mono (ok := fun k_ => k_ ≠ g102) (by (with_reducible repeat (first | apply Kd.V_alloc | apply Kd.V_drewN | apply Kd.V_drew)); exact HO105.out) (fun k_ hk_ => (⟨hk_, hk_⟩ : _ ∧ k_ ≠ g102))) hk (fun _ h => h.2)) (fun _ h => h.1)); have n1_ := Aside0.mk (hb); have n2_ := Aside0.mk (hi); clear HO105; clear HB; clear HI102; have HO105 := n0_; have HB := n1_; have HI102 := n2_; clear n0_ n1_ n2_; (try clear hb); (try clear hb2); (try clear hk); (try clear hi)))
      go_ret
      exact ⟨by first | rfl | (simp [errW_none, errW_some] <;> rfl) | (simp [*, errW_none, errW_some] <;> rfl), by repeat (first | (with_reducible first | exact HB.out | apply below_alloc | apply pw_below_drewN | apply below_drew1 | refine below_set ?_ (IsS97.ge HI102.out)) | exact HB.out)⟩
  · rw [if_neg c3] at H
    have c3b0 : (t106 == 3421780262) = false := beq_eq_false_iff_ne.mpr c3
    have c3b1 : (t106 != 3421780262) = true := bne_iff_ne.mpr c3
    obtain rfl := Option.some.inj H
    go_enter Try.func33, Try.ntmps33
    go_wp2_with (first | ((with_reducible refine gate_callee (f := 34) rfl ?_); refine goesL_ (some 2) rfl rfl Try.func34 (by kernel_rfl) rfl #[] rfl (by (try simp only [List.map_toArray, List.map_cons, List.map_nil]); first | done | rfl | (simp only [List.length_drop, List.length_take]; rfl)) ?_; (with_reducible refine (crc_New.calls  t101 w _ ?side1 A1.out).mono ?_); (case side1 => repeat (first | (with_reducible first | exact HB.out | apply below_alloc | apply pw_below_drewN | apply below_drew1) | exact HB.out)); rintro e w20 ⟨g102, rfl, hi, hb, hb2⟩; refine ⟨_, rfl, ?_⟩; have n0_ := Aside0.mk (hb); have n1_ := Aside0.mk (hi); clear HB; have HB := n0_; have HI102 := n1_; clear n0_ n1_; (try clear hb); (try clear hb2); (try clear hk); (try clear hi)) | ((with_reducible refine gate_dst (N := 4) rfl ?_); refine Kd.V_litconv _ 5 ?hg (N := 4) ?hd (xs := ([49, 50, 51, 52, 53, 54, 55, 56, 57] : List Int)) (inner := [.int .u8 49, .int .u8 50, .int .u8 51, .int .u8 52, .int .u8 53, .int .u8 54, .int .u8 55, .int .u8 56, .int .u8 57]) ?hr rfl 23 rfl _ rfl rfl Try.underlying23 Try.underlying5 (by simp) (Below.refl _ _) (Nat.le_refl _) ?_; (case hd => rfl); (case hg => rfl); (case hr => first | (go_simp; done) | (go_simp; rfl)); intro v104 w21 ho22 hb hg_ hnew_; clear hg_ hnew_; (first | rw [← Ny103.out] at ho22 | (simp only [Int.reduceToNat] at ho22; rw [← Ny103.out] at ho22)); have n0_ := Aside0.mk (Kd.V_lower (Kd.V_mono (ok' := fun k_ => k_ ≠ g102) ho22 (fun k_ hk_ => (IsS97.fresh (by repeat (first | (with_reducible first | exact HI102.out | apply IsS97.alloc | apply IsS97.drewN | apply IsS97.drew | apply IsS97.set_0) | exact HI102.out)) k_ hk_))) (below_size (by repeat (first | (with_reducible first | exact HB.out | apply below_alloc | apply pw_below_drewN | apply below_drew1 | refine below_set ?_ (IsS97.ge HI102.out)) | exact HB.out)))); have n1_ := Aside0.mk (IsS97.below (by repeat (first | (with_reducible first | exact HI102.out | apply IsS97.alloc | apply IsS97.drewN | apply IsS97.drew | apply IsS97.set_0) | exact HI102.out)) hb); have n2_ := Aside0.mk (below_step (by repeat (first | (with_reducible first | exact HB.out | apply below_alloc | apply pw_below_drewN | apply below_drew1 | refine below_set ?_ (IsS97.ge HI102.out)) | exact HB.out)) hb); clear HI102; clear HB; have HO105 := n0_; have HI102 := n1_; have HB := n2_; clear n0_ n1_ n2_; clear hb ho22; obtain ⟨Ao23, co23, eo23⟩ := Kd.V_slice HO105.out; subst eo23) | ((with_reducible refine gate_callee (f := 36) rfl ?_); refine goesL_ (some 6) rfl rfl Try.func36 (by kernel_rfl) rfl #[.pointer (some ⟨g102, 0, none⟩), .slice Ao23 y103.length co23] rfl (by (try simp only [List.map_toArray, List.map_cons, List.map_nil]); first | done | rfl | (simp only [List.length_drop, List.length_take]; rfl)) ?_; (with_reducible refine (crc_Summer_Of.calls g102 t101 _ _ y103 t106 t107 w _ ?side1 ?side2 ?side3 ?side4 ?side5 A2.out).mono ?_); (case side1 => repeat (first | (with_reducible first | exact HI102.out | apply IsS97.alloc | apply IsS97.drewN | apply IsS97.drew | apply IsS97.set_0) | exact HI102.out)); (case side2 => repeat (first | (with_reducible first | exact HB.out | apply below_alloc | apply pw_below_drewN | apply below_drew1 | refine below_set ?_ (IsS97.ge HI102.out)) | exact HB.out)); (case side3 => repeat (first | exact (Kd.V_reads' HO105.out).2.2 | (with_reducible refine Kd.C_alloc ?_ _) | (with_reducible refine Kd.C_drewN ?_ _) | (with_reducible refine Kd.C_drew ?_))); (case side4 => exact (Kd.V_reads' HO105.out).2.1); (case side5 => exact Kd.V_farblk HO105.out (fun h_ => (h_) rfl)); rintro e w24 ⟨rfl, hi, hb, hk⟩; refine ⟨_, rfl, ?_⟩; have n0_ := Aside0.mk (Kd.V_mono (Kd.V_keep (Kd.V_mono (ok := fun k_ => k_ ≠ g102) (by (with_reducible repeat (first | apply Kd.V_alloc | apply Kd.V_drewN | apply Kd.V_drew)); exact HO105.out) (fun k_ hk_ => (⟨hk_, hk_⟩ : _ ∧ k_ ≠ g102))) hk (fun _ h => h.2)) (fun _ h => h.1)); have n1_ := Aside0.mk (hb); have n2_ := Aside0.mk (hi); clear HO105; clear HB; clear HI102; have HO105 := n0_; have HB := n1_; have HI102 := n2_; clear n0_ n1_ n2_; (try clear hb); (try clear hb2); (try clear hk); (try clear hi)))
    go_ret
    exact ⟨by first | rfl | (simp [errW_none, errW_some] <;> rfl) | (simp [*, errW_none, errW_some] <;> rfl), by repeat (first | (with_reducible first | exact HB.out | apply below_alloc | apply pw_below_drewN | apply below_drew1 | refine below_set ?_ (IsS97.ge HI102.out)) | exact HB.out)⟩

/-! ### blazonref01_Pick: function 35 -/
def blazonref01_Pick.f (a0 : Int) (a1 : Int) : Option (Int) := if a1 < 1 then (some 0) else (if a1 = 0 then (none) else (if (Int.tmod a0 a1) < 0 then (some (wrap64 ((Int.tmod a0 a1) + a1))) else (some (Int.tmod a0 a1))))
set_option maxHeartbeats 8000000 in
set_option maxRecDepth 100000 in
theorem blazonref01_Pick.calls (a0 : Int) (a1 : Int) (r : Int) (w : World) (h : blazonref01_Pick.f a0 a1 = some r) :
    Calls Try.prog 35 #[.int .i64 a0, .int .i64 a1] w fun e w' => e = .returned (.int .i64 r) ∧ Drawn0 w w' := by
  have H : (if a1 < 1 then (some 0) else (if a1 = 0 then (none) else (if (Int.tmod a0 a1) < 0 then (some (wrap64 ((Int.tmod a0 a1) + a1))) else (some (Int.tmod a0 a1))))) = some r := h
  clear h
  by_cases c3 : a1 < 1
  · rw [if_pos c3] at H
    have c3b0 : decide (a1 < 1) = true := decide_eq_true c3
    clear c3
    obtain rfl := Option.some.inj H
    go_enter Try.func35, Try.ntmps35
    go_wp2
    go_ret
    exact ⟨by first | rfl | (simp; done) | (simp [*]; done), by repeat (first | exact Drawn0.refl _ | apply Drawn0.step)⟩
  · rw [if_neg c3] at H
    have c3b0 : decide (a1 < 1) = false := decide_eq_false c3
    clear c3
    by_cases c4 : a1 = 0
    · rw [if_pos c4] at H
      exact absurd H (by simp)
    · rw [if_neg c4] at H
      have c4b0 : (a1 == 0) = false := beq_eq_false_iff_ne.mpr c4
      have c4b1 : (a1 != 0) = true := bne_iff_ne.mpr c4
      by_cases c5 : (Int.tmod a0 a1) < 0
      · rw [if_pos c5] at H
        have c5b0 : decide ((Int.tmod a0 a1) < 0) = true := decide_eq_true c5
        clear c5
        obtain rfl := Option.some.inj H
        go_enter Try.func35, Try.ntmps35
        go_wp2
        go_ret
        exact ⟨by first | rfl | (simp; done) | (simp [*]; done), by repeat (first | exact Drawn0.refl _ | apply Drawn0.step)⟩
      · rw [if_neg c5] at H
        have c5b0 : decide ((Int.tmod a0 a1) < 0) = false := decide_eq_false c5
        clear c5
        obtain rfl := Option.some.inj H
        go_enter Try.func35, Try.ntmps35
        go_wp2
        go_ret
        exact ⟨by first | rfl | (simp; done) | (simp [*]; done), by repeat (first | exact Drawn0.refl _ | apply Drawn0.step)⟩

/-! ### blazonlaw02_CrcTurned: function 8 -/
def blazonlaw02_CrcTurned.j0 : Nat → List Int → Int → Int → Bool → Option (Bool)
  | 0, _, _, _, _ => none
  | k + 1, x0, x1, x2, x21 => if x21 = true then ((blazonlaw02_awake.f).bind fun t112 => (some t112)) else ((crc_New.f).bind fun t113 => ((blazonref01_Pick.f x1 (x0.length : Int)).bind fun t115 => ((some (([] : List Int) : List Int)).bind fun y116 => (if y116.length + x0.length < 140737488355328 then ((some (y116 ++ x0 : List Int)).bind fun y119 => (if 0 ≤ t115 then (if t115 < (y119.length : Int) then ((crc_Summer_Of.f t113 (y119.set (t115 : Int).toNat (Go.bits .xor .u8 (rd y119 t115) x2))).bind fun bt124 => ((crc_Summer_Of.f bt124.2 x0).bind fun bt126 => (if bt124.1 = bt126.1 then (some false) else ((blazonlaw02_awake.f).bind fun t128 => (some t128))))) else (none)) else (none))) else (none)))))
def blazonlaw02_CrcTurned.f (k : Nat) (l0 : List Int) (a1 : Int) (a2 : Int) : Option (Bool) := if (l0.length : Int) = 0 then (blazonlaw02_CrcTurned.j0 k l0 a1 a2 true) else (if (l0.length : Int) > 1000 then (blazonlaw02_CrcTurned.j0 k l0 a1 a2 true) else (blazonlaw02_CrcTurned.j0 k l0 a1 a2 (a2 == 0)))
theorem blazonlaw02_CrcTurned.mono_l : ∀ k, (∀ y0 y1 y2 y3, LeO (blazonlaw02_CrcTurned.j0 k y0 y1 y2 y3) (blazonlaw02_CrcTurned.j0 (k + 1) y0 y1 y2 y3))
  | 0 => fun _ _ _ _ r h => by simp [blazonlaw02_CrcTurned.j0] at h
  | k + 1 => by
    have ih0 := blazonlaw02_CrcTurned.mono_l k
    · intro y0 y1 y2 y3
      unfold blazonlaw02_CrcTurned.j0
      repeat' first
      | (with_reducible exact ih0 _ _ _ _)
      | (with_reducible exact LeO.refl _)
      | (with_reducible exact LeO.none _)
      | (with_reducible refine LeO.ite ?_ ?_)
      | (with_reducible refine LeO.bind ?_ (fun _ => ?_))
      | exact ih0 _ _ _ _
      | exact LeO.none _
      | refine LeO.ite ?_ ?_
      | refine LeO.bind ?_ (fun _ => ?_)
theorem blazonlaw02_CrcTurned.mono : ∀ a0 a1 a2 k, LeO (blazonlaw02_CrcTurned.f k a0 a1 a2) (blazonlaw02_CrcTurned.f (k + 1) a0 a1 a2) := by
  intro a0 a1 a2 k
  have ih0 := blazonlaw02_CrcTurned.mono_l k
  unfold blazonlaw02_CrcTurned.f
  repeat' first
      | (with_reducible exact ih0 _ _ _ _)
      | (with_reducible exact LeO.refl _)
      | (with_reducible exact LeO.none _)
      | (with_reducible refine LeO.ite ?_ ?_)
      | (with_reducible refine LeO.bind ?_ (fun _ => ?_))
      | exact ih0 _ _ _ _
      | exact LeO.none _
      | refine LeO.ite ?_ ?_
      | refine LeO.bind ?_ (fun _ => ?_)
set_option maxHeartbeats 8000000 in
set_option maxRecDepth 100000 in
theorem blazonlaw02_CrcTurned.calls (k : Nat) (A0 : Option Addr) (c0 : Nat) (l0 : List Int) (a1 : Int) (a2 : Int) (r : Bool) (w : World) (hr0 : Kd.C (Kd.int .u8) w A0 l0.length l0) (hc0 : l0.length ≤ c0) (h : blazonlaw02_CrcTurned.f k l0 a1 a2 = some r) :
    Calls Try.prog 8 #[.slice A0 l0.length c0, .int .i64 a1, .int .u8 a2] w fun e w' => e = .returned (.bool r) ∧ Below w.heap.size w w' := by
  have HR0 := Aside0.mk hr0
  have HC0 := Aside0.mk hc0
  clear hr0 hc0
  have HB := Aside0.mk (Below.refl w.heap.size w)
  have H : (if (l0.length : Int) = 0 then (blazonlaw02_CrcTurned.j0 k l0 a1 a2 true) else (if (l0.length : Int) > 1000 then (blazonlaw02_CrcTurned.j0 k l0 a1 a2 true) else (blazonlaw02_CrcTurned.j0 k l0 a1 a2 (a2 == 0)))) = some r := h
  clear h
  have HC4 := Aside0.mk H
  clear H
  go_enter Try.func8, Try.ntmps8
  go_upto_region 1 with (fail)
  go_cut [21] (fun v21 wc => ∃ (kq : Nat) (x21_3 : Bool), v21 = .bool x21_3 ∧ Aside0 (blazonlaw02_CrcTurned.j0 kq l0 a1 a2 x21_3 = some r) ∧ Aside0 (kq ≤ k) ∧ Aside0 (Below w.heap.size w wc))
  case first =>
    have H := HC4.out
    clear HC4
    by_cases c5 : (l0.length : Int) = 0
    · rw [if_pos c5] at H
      have c5b0 : ((l0.length : Int) == 0) = true := beq_iff_eq.mpr c5
      have c5b1 : ((l0.length : Int) != 0) = false := bne_eq_false_iff_eq.mpr c5
      clear c5
      (first | rw [c5b0] | (simp only [i64_w, i32_w]; rw [c5b0]) | skip)
      have H' := Aside0.mk H
      clear H
      go_wp2
      go_meet
      case rel => exact ⟨_, (true), (by first | rfl | (simp; done) | (simp [*]; done)), H', ⟨by first | omega | exact Nat.le_refl _⟩, ⟨by repeat (first | (with_reducible first | exact HB.out | apply below_alloc | apply pw_below_drewN | apply below_drew1) | exact HB.out)⟩⟩
    · rw [if_neg c5] at H
      have c5b0 : ((l0.length : Int) == 0) = false := beq_eq_false_iff_ne.mpr c5
      have c5b1 : ((l0.length : Int) != 0) = true := bne_iff_ne.mpr c5
      have c5b2 : ¬ (l0 = []) := fun h_ => c5 (by rw [h_]; rfl)
      (first | rw [c5b0] | (simp only [i64_w, i32_w]; rw [c5b0]) | skip)
      by_cases c6 : (l0.length : Int) > 1000
      · rw [if_pos c6] at H
        have c6b0 : decide (1000 < (l0.length : Int)) = true := decide_eq_true c6
        have c6b1 : decide (1000 < l0.length) = true := decide_eq_true (by omega)
        clear c6
        have H' := Aside0.mk H
        clear H
        go_wp2
        go_meet
        case rel => exact ⟨_, (true), (by first | rfl | (simp; done) | (simp [*]; done)), H', ⟨by first | omega | exact Nat.le_refl _⟩, ⟨by repeat (first | (with_reducible first | exact HB.out | apply below_alloc | apply pw_below_drewN | apply below_drew1) | exact HB.out)⟩⟩
      · rw [if_neg c6] at H
        have c6b0 : decide (1000 < (l0.length : Int)) = false := decide_eq_false c6
        have c6b1 : decide (1000 < l0.length) = false := decide_eq_false (by omega)
        clear c6
        have H' := Aside0.mk H
        clear H
        go_wp2
        go_meet
        case rel => exact ⟨_, ((a2 == 0)), (by first | rfl | (simp; done) | (simp [*]; done)), H', ⟨by first | omega | exact Nat.le_refl _⟩, ⟨by repeat (first | (with_reducible first | exact HB.out | apply below_alloc | apply pw_below_drewN | apply below_drew1) | exact HB.out)⟩⟩
  case rest =>
    clear HC4
    try clear p2
    try clear c5
    try clear c5b0
    try clear c5b1
    try clear c5b2
    try clear c6
    try clear c6b0
    try clear c6b1
    obtain ⟨kq, x21_3, rfl, HA, HJ3, HB⟩ := hcut
    cases kq with
    | zero => exact absurd HA.out (by simp [blazonlaw02_CrcTurned.j0])
    | succ kj3 =>
      have H := HA.out
      clear HA
      simp only [blazonlaw02_CrcTurned.j0] at H
      by_cases c7 : x21_3 = true
      · subst c7
        have H1 : ((blazonlaw02_awake.f).bind fun t112 => (some t112)) = some r := by rw [if_pos rfl] at H; exact H
        clear H
        have H := H1
        clear H1
        replace H := Option.bind_eq_some_iff.mp H
        obtain ⟨t112, A80, H⟩ := H
        replace H : (some t112) = some r := H
        have A8 := Aside0.mk A80
        clear A80
        obtain rfl := Option.some.inj H
        go_wp2_with (first | ((with_reducible refine gate_callee (f := 33) rfl ?_); refine goesL_ (some 22) rfl rfl Try.func33 (by kernel_rfl) rfl #[] rfl (by (try simp only [List.map_toArray, List.map_cons, List.map_nil]); first | done | rfl | (simp only [List.length_drop, List.length_take]; rfl)) ?_; (with_reducible refine (blazonlaw02_awake.calls  t112 _ A8.out).mono ?_); rintro e w9 ⟨rfl, hb⟩; refine ⟨_, rfl, ?_⟩; have n0_ := Aside0.mk (below_step (by repeat (first | (with_reducible first | exact HB.out | apply below_alloc | apply pw_below_drewN | apply below_drew1) | exact HB.out)) hb); clear HB; have HB := n0_; clear n0_; (try clear hb); (try clear hb2); (try clear hk); (try clear hi)))
        go_ret
        exact ⟨by first | rfl | (simp [errW_none, errW_some] <;> rfl) | (simp [*, errW_none, errW_some] <;> rfl), by repeat (first | (with_reducible first | exact HB.out | apply below_alloc | apply pw_below_drewN | apply below_drew1) | exact HB.out)⟩
      · replace c7 := Bool.eq_false_iff.mpr c7
        subst c7
        have H1 : ((crc_New.f).bind fun t113 => ((blazonref01_Pick.f a1 (l0.length : Int)).bind fun t115 => ((some (([] : List Int) : List Int)).bind fun y116 => (if y116.length + l0.length < 140737488355328 then ((some (y116 ++ l0 : List Int)).bind fun y119 => (if 0 ≤ t115 then (if t115 < (y119.length : Int) then ((crc_Summer_Of.f t113 (y119.set (t115 : Int).toNat (Go.bits .xor .u8 (rd y119 t115) a2))).bind fun bt124 => ((crc_Summer_Of.f bt124.2 l0).bind fun bt126 => (if bt124.1 = bt126.1 then (some false) else ((blazonlaw02_awake.f).bind fun t128 => (some t128))))) else (none)) else (none))) else (none))))) = some r := by rw [if_neg (show ¬ (false = true) by decide)] at H; exact H
        clear H
        have H := H1
        clear H1
        replace H := Option.bind_eq_some_iff.mp H
        obtain ⟨t113, A100, H⟩ := H
        replace H : ((blazonref01_Pick.f a1 (l0.length : Int)).bind fun t115 => ((some (([] : List Int) : List Int)).bind fun y116 => (if y116.length + l0.length < 140737488355328 then ((some (y116 ++ l0 : List Int)).bind fun y119 => (if 0 ≤ t115 then (if t115 < (y119.length : Int) then ((crc_Summer_Of.f t113 (y119.set (t115 : Int).toNat (Go.bits .xor .u8 (rd y119 t115) a2))).bind fun bt124 => ((crc_Summer_Of.f bt124.2 l0).bind fun bt126 => (if bt124.1 = bt126.1 then (some false) else ((blazonlaw02_awake.f).bind fun t128 => (some t128))))) else (none)) else (none))) else (none)))) = some r := H
        have A10 := Aside0.mk A100
        clear A100
        replace H := Option.bind_eq_some_iff.mp H
        obtain ⟨t115, A110, H⟩ := H
        replace H : ((some (([] : List Int) : List Int)).bind fun y116 => (if y116.length + l0.length < 140737488355328 then ((some (y116 ++ l0 : List Int)).bind fun y119 => (if 0 ≤ t115 then (if t115 < (y119.length : Int) then ((crc_Summer_Of.f t113 (y119.set (t115 : Int).toNat (Go.bits .xor .u8 (rd y119 t115) a2))).bind fun bt124 => ((crc_Summer_Of.f bt124.2 l0).bind fun bt126 => (if bt124.1 = bt126.1 then (some false) else ((blazonlaw02_awake.f).bind fun t128 => (some t128))))) else (none)) else (none))) else (none))) = some r := H
        have A11 := Aside0.mk A110
        clear A110
        obtain ⟨y116, hy116⟩ : ∃ y_ : List Int, y_ = (([] : List Int)) := ⟨_, rfl⟩
        replace H : (if y116.length + l0.length < 140737488355328 then ((some (y116 ++ l0 : List Int)).bind fun y119 => (if 0 ≤ t115 then (if t115 < (y119.length : Int) then ((crc_Summer_Of.f t113 (y119.set (t115 : Int).toNat (Go.bits .xor .u8 (rd y119 t115) a2))).bind fun bt124 => ((crc_Summer_Of.f bt124.2 l0).bind fun bt126 => (if bt124.1 = bt126.1 then (some false) else ((blazonlaw02_awake.f).bind fun t128 => (some t128))))) else (none)) else (none))) else (none)) = some r := by first | (rw [hy116]; with_reducible exact H) | (have H2_ := (Option.bind_some _ _).symm.trans H; rw [hy116]; with_reducible exact H2_) | (have H2_ := (Option.bind_some _ _).symm.trans H; with_reducible exact H2_) | with_reducible exact H | (rw [hy116]; exact H) | exact H
        have Ny116 := Aside0.mk hy116
        clear hy116
        by_cases c12 : y116.length + l0.length < 140737488355328
        · rw [if_pos c12] at H
          have LMc12 := Aside0.mk c12
          clear c12
          obtain ⟨y119, hy119⟩ : ∃ y_ : List Int, y_ = (y116 ++ l0) := ⟨_, rfl⟩
          replace H : (if 0 ≤ t115 then (if t115 < (y119.length : Int) then ((crc_Summer_Of.f t113 (y119.set (t115 : Int).toNat (Go.bits .xor .u8 (rd y119 t115) a2))).bind fun bt124 => ((crc_Summer_Of.f bt124.2 l0).bind fun bt126 => (if bt124.1 = bt126.1 then (some false) else ((blazonlaw02_awake.f).bind fun t128 => (some t128))))) else (none)) else (none)) = some r := by first | (rw [hy119]; with_reducible exact H) | (have H2_ := (Option.bind_some _ _).symm.trans H; rw [hy119]; with_reducible exact H2_) | (have H2_ := (Option.bind_some _ _).symm.trans H; with_reducible exact H2_) | with_reducible exact H | (rw [hy119]; exact H) | exact H
          have Ny119 := Aside0.mk hy119
          clear hy119
          by_cases c13 : 0 ≤ t115
          · rw [if_pos c13] at H
            have c13b0 : decide (0 ≤ t115) = true := decide_eq_true c13
            clear c13
            by_cases c14 : t115 < (y119.length : Int)
            · rw [if_pos c14] at H
              have c14b0 : decide (t115 < (y119.length : Int)) = true := decide_eq_true c14
              clear c14
              obtain ⟨y123, hy123⟩ : ∃ y_ : List Int, y_ = (y119.set (t115 : Int).toNat (Go.bits .xor .u8 (rd y119 t115) a2)) := ⟨_, rfl⟩
              replace H : ((crc_Summer_Of.f t113 y123).bind fun bt124 => ((crc_Summer_Of.f bt124.2 l0).bind fun bt126 => (if bt124.1 = bt126.1 then (some false) else ((blazonlaw02_awake.f).bind fun t128 => (some t128))))) = some r := by first | (rw [hy123]; with_reducible exact H) | (have H2_ := (Option.bind_some _ _).symm.trans H; rw [hy123]; with_reducible exact H2_) | (have H2_ := (Option.bind_some _ _).symm.trans H; with_reducible exact H2_) | with_reducible exact H | (rw [hy123]; exact H) | exact H
              have Ny123 := Aside0.mk hy123
              clear hy123
              replace H := Option.bind_eq_some_iff.mp H
              obtain ⟨⟨t124, t125⟩, A160, H⟩ := H
              replace H : ((crc_Summer_Of.f t125 l0).bind fun bt126 => (if t124 = bt126.1 then (some false) else ((blazonlaw02_awake.f).bind fun t128 => (some t128)))) = some r := H
              have A16 := Aside0.mk A160
              clear A160
              replace H := Option.bind_eq_some_iff.mp H
              obtain ⟨⟨t126, t127⟩, A170, H⟩ := H
              replace H : (if t124 = t126 then (some false) else ((blazonlaw02_awake.f).bind fun t128 => (some t128))) = some r := H
              have A17 := Aside0.mk A170
              clear A170
              by_cases c18 : t124 = t126
              · rw [if_pos c18] at H
                have c18b0 : (t124 == t126) = true := beq_iff_eq.mpr c18
                have c18b1 : (t124 != t126) = false := bne_eq_false_iff_eq.mpr c18
                clear c18
                obtain rfl := Option.some.inj H
                go_wp2_with (first | ((with_reducible refine gate_callee (f := 34) rfl ?_); refine goesL_ (some 23) rfl rfl Try.func34 (by kernel_rfl) rfl #[] rfl (by (try simp only [List.map_toArray, List.map_cons, List.map_nil]); first | done | rfl | (simp only [List.length_drop, List.length_take]; rfl)) ?_; (with_reducible refine (crc_New.calls  t113 w _ ?side1 A10.out).mono ?_); (case side1 => repeat (first | (with_reducible first | exact HB.out | apply below_alloc | apply pw_below_drewN | apply below_drew1) | exact HB.out)); rintro e w19 ⟨g114, rfl, hi, hb, hb2⟩; refine ⟨_, rfl, ?_⟩; have n0_ := Aside0.mk (hb); have n1_ := Aside0.mk (hi); clear HB; have HB := n0_; have HI114 := n1_; clear n0_ n1_; (try clear hb); (try clear hb2); (try clear hk); (try clear hi)) | ((with_reducible refine gate_callee (f := 35) rfl ?_); refine goesL_ (some 27) rfl rfl Try.func35 (by kernel_rfl) rfl #[.int .i64 a1, .int .i64 (l0.length : Int)] rfl (by (try simp only [List.map_toArray, List.map_cons, List.map_nil]); first | done | rfl | (simp only [List.length_drop, List.length_take]; rfl)) ?_; (with_reducible refine (blazonref01_Pick.calls a1 (l0.length : Int) t115 _ A11.out).mono ?_); rintro e w' ⟨rfl, ⟨nd, rfl⟩⟩; refine ⟨_, rfl, ?_⟩; (try (rw [drewN_self w19]; generalize hq_ : World.drewN w19 _ = w19; have n0_ : Aside0 (IsS97 w w19 g114 t113) := ⟨by rw [← hq_]; exact (by repeat (first | (with_reducible first | exact HI114.out | apply IsS97.alloc | apply IsS97.drewN | apply IsS97.drew | apply IsS97.set_0) | exact HI114.out))⟩; have n1_ : Aside0 (Below w.heap.size w w19) := ⟨by rw [← hq_]; exact (by repeat (first | (with_reducible first | exact HB.out | apply below_alloc | apply pw_below_drewN | apply below_drew1 | refine below_set ?_ (IsS97.ge HI114.out)) | exact HB.out))⟩; clear HI114 HB hq_; have HI114 := n0_; have HB := n1_; clear n0_ n1_))) | ((with_reducible refine gate_dst (N := 28) rfl ?_); (try (refine gate_guard (by rfl) ?_; dsimp only)); refine Kd.R_lit (Kd.int .u8) _ 5 ?hg (N := 28) ?hd (xs := ([] : List Int)) (inner := []) (ok := fun _ => True) (okp := fun _ => True) ?hr ?hp (fun _ hk => hk) trivial (Below.refl _ _) (Nat.le_refl _) (by simp) ?_; (case hd => rfl); (case hg => rfl); (case hr => first | (go_simp; done) | (go_simp; rfl)); (case hp => exact (Reps.none _ _)); intro v117 w20 ho21 hb hg_ hnew_; clear hg_ hnew_; (first | rw [← Ny116.out] at ho21 | (simp only [Int.reduceToNat] at ho21; rw [← Ny116.out] at ho21)); have n0_ := Aside0.mk (Kd.R_lower ho21 (below_size (by repeat (first | (with_reducible first | exact HB.out | apply below_alloc | apply pw_below_drewN | apply below_drew1 | refine below_set ?_ (IsS97.ge HI114.out)) | exact HB.out)))); have n1_ := Aside0.mk (IsS97.below (by repeat (first | (with_reducible first | exact HI114.out | apply IsS97.alloc | apply IsS97.drewN | apply IsS97.drew | apply IsS97.set_0) | exact HI114.out)) hb); have n2_ := Aside0.mk (below_step (by repeat (first | (with_reducible first | exact HB.out | apply below_alloc | apply pw_below_drewN | apply below_drew1 | refine below_set ?_ (IsS97.ge HI114.out)) | exact HB.out)) hb); clear HI114; clear HB; have HO118 := n0_; have HI114 := n1_; have HB := n2_; clear n0_ n1_ n2_; clear hb ho21) | ((with_reducible refine gate_builtin (b := .append) (xs := #[.tmp 28, .tmp 29]) rfl ?_); (try (refine gate_guard (by rfl) ?_; dsimp only)); at_builtin; refine Kd.R_append_rows (Kd.int .u8) (w0 := w) w.heap.size rfl (.tmp 28) (.tmp 29) 23 5 (.int .u8 0) 1 rfl Try.underlying23 info5 rfl (by decide) (by omega) v117 y116 l0 _ _ _ (fun _ => True) (fun _ => False) rfl rfl ?aO ?aR (fun _ _ h => h) (fun _ h => h.elim) ?aF ?aB ?aS ?aL ?_; (case aR => repeat (first | exact (Kd.C_below HR0.out HB.out) | (with_reducible refine Kd.C_alloc ?_ _) | (with_reducible refine Kd.C_drewN ?_ _) | (with_reducible refine Kd.C_drew ?_))); (case aB => exact (by repeat (first | (with_reducible first | exact HB.out | apply below_alloc | apply pw_below_drewN | apply below_drew1 | refine below_set ?_ (IsS97.ge HI114.out)) | exact HB.out))); (case aF => exact (fun _ _ => trivial)); (case aO => exact (by (with_reducible repeat (first | apply Kd.R_alloc | apply Kd.R_drewN | apply Kd.R_drew)); exact HO118.out)); (case aS => exact (below_size (by repeat (first | (with_reducible first | exact HB.out | apply below_alloc | apply pw_below_drewN | apply below_drew1 | refine below_set ?_ (IsS97.ge HI114.out)) | exact HB.out)))); (case aL => have := LMc12.out; omega); intro v120 w22 ho hb hg hat; rw [← Ny119.out] at ho; have n0_ := Aside0.mk (IsS97.grown (by repeat (first | (with_reducible first | exact HI114.out | apply IsS97.alloc | apply IsS97.drewN | apply IsS97.drew | apply IsS97.set_0) | exact HI114.out)) hg (IsS97.own_ne HI114.out HO118.out (by decide))); have n1_ := Aside0.mk (hb); have n2_ := Aside0.mk (ho); clear HI114; clear HB; clear HO118; have HI114 := n0_; have HB := n1_; have HO121 := n2_; clear n0_ n1_ n2_; clear ho hb hg hat; obtain ⟨Ao23, co23, eo23⟩ := Kd.R_slice HO121.out; subst eo23; have p122 : 0 ≤ (t115 : Int) := of_decide_eq_true (by first | (with_reducible assumption) | assumption); have q122 : t115 < (y119.length : Int) := of_decide_eq_true (by first | (with_reducible assumption) | assumption); obtain ⟨ad122, e122, hx122_0⟩ := Kd.at_int (Kd.R_reads' HO121.out).2.2 t115 p122 q122; cases e122; replace p122 := eq_true p122; replace q122 := eq_true q122; have p15 : 0 ≤ (t115 : Int) := of_decide_eq_true (by first | (with_reducible assumption) | assumption); have q15 : (t115 : Int) < ((y119.length : Int) : Int) := of_decide_eq_true (by first | (with_reducible assumption) | assumption); obtain ⟨go15, co15, eo15, gb15, gl15, cl15, HG15⟩ := Kd.R_form HO121.out (by omega); (first | cases eo15 | (injection eo15 with ea_ en_ ec_; (first | subst ea_ | (injection ea_ with ea_; subst ea_)); subst ec_; clear en_)); have GB15 := Aside0.mk gb15; have GG15 := Aside0.mk HG15; clear gb15 gl15 HG15; (first | simp only [add_plain] at hx122_0 | skip); obtain ⟨hx15_0, hf15_0⟩ := Kd.R_celln 0 HO121.out (t115 : Int) p15 q15; replace p15 := eq_true p15; replace q15 := eq_true q15; obtain ⟨hy24_, hz24_⟩ := Kd.R_celln 0 HO121.out (t115 : Int) (of_decide_eq_true (by first | (with_reducible assumption) | assumption)) (of_decide_eq_true (by first | (with_reducible assumption) | assumption)); have HP24 := Kd.R_putg HO121.out (t115 : Int) (Go.bits .xor .u8 (rd y119 t115) a2)) | ((with_reducible refine gate_store (t := 5) (p := 39) rfl ?_); refine store_event (t := 5) (p := 39) (v := ?vo_w25) (w1 := (w22.setCell ⟨go15, (t115 : Int).toNat, none⟩ (.int .u8 (Go.bits .xor .u8 (rd y119 t115) a2)))) ?hg ?ho ?hn ?hr ?_; (case ho => rfl); (case hg => rfl); (case hn => rfl); (case hr => first | (go_simp; done) | (go_simp; rfl)); intro w25 hw; have hg : w22.grownBy w25 (some go15) := (by rw [hw]; exact HP24.2); have hp_ : Kd.R (Kd.int .u8) 5 w25 w.heap.size (fun _ => True) (.slice (some ⟨go15, 0, none⟩) y119.length co23) y123 := (by rw [hw, Ny123.out]; exact HP24.1); clear HP24; have n0_ := Aside0.mk (IsS97.grown (by repeat (first | (with_reducible first | exact HI114.out | apply IsS97.alloc | apply IsS97.drewN | apply IsS97.drew | apply IsS97.set_0) | exact HI114.out)) hg (IsS97.own_ne HI114.out HO121.out (by decide))); have n1_ := Aside0.mk (hp_); have n2_ := Aside0.mk ((by rw [hw]; exact below_set (HB.out) GB15.out : Below w.heap.size w w25)); clear HI114; clear HO121; clear HB; have HI114 := n0_; have HO121 := n1_; have HB := n2_; clear n0_ n1_ n2_; clear hg hw hp_) | ((with_reducible refine gate_callee (f := 36) rfl ?_); refine goesL_ (some 42) rfl rfl Try.func36 (by kernel_rfl) rfl #[.pointer (some ⟨g114, 0, none⟩), .slice (some ⟨go15, 0, none⟩) y123.length co23] rfl (by (try simp only [List.map_toArray, List.map_cons, List.map_nil]); first | done | (rw [show y123.length = y119.length from (Kd.R_reads' HO121.out).1.symm] <;> rfl) | rfl | (simp only [List.length_drop, List.length_take]; rfl)) ?_; (with_reducible refine (crc_Summer_Of.calls g114 t113 _ _ y123 t124 t125 w _ ?side1 ?side2 ?side3 ?side4 ?side5 A16.out).mono ?_); (case side1 => repeat (first | (with_reducible first | exact HI114.out | apply IsS97.alloc | apply IsS97.drewN | apply IsS97.drew | apply IsS97.set_0) | exact HI114.out)); (case side2 => repeat (first | (with_reducible first | exact HB.out | apply below_alloc | apply pw_below_drewN | apply below_drew1 | refine below_set ?_ (IsS97.ge HI114.out)) | exact HB.out)); (case side3 => repeat (first | exact (Kd.R_reads' HO121.out).2.2 | (with_reducible refine Kd.C_alloc ?_ _) | (with_reducible refine Kd.C_drewN ?_ _) | (with_reducible refine Kd.C_drew ?_))); (case side4 => rw [show y123.length = y119.length from (Kd.R_reads' HO121.out).1.symm]; exact (Kd.R_reads' HO121.out).2.1); (case side5 => exact x_far (IsS97.own_ne HI114.out HO121.out (by decide))); rintro e w26 ⟨rfl, hi, hb, hk⟩; refine ⟨_, rfl, ?_⟩; have n0_ := Aside0.mk (Kd.R_mono (Kd.R_keep (IsS97.apart (show IsS97 w _ g114 t113 from by repeat (first | (with_reducible first | exact HI114.out | apply IsS97.alloc | apply IsS97.drewN | apply IsS97.drew | apply IsS97.set_0) | exact HI114.out)) (by (with_reducible repeat (first | apply Kd.R_alloc | apply Kd.R_drewN | apply Kd.R_drew)); exact HO121.out) (by decide)) hk (fun _ h => h.2)) (fun _ h => h.1)); have n1_ := Aside0.mk (hb); have n2_ := Aside0.mk (hi); clear HO121; clear HB; clear HI114; have HO121 := n0_; have HB := n1_; have HI114 := n2_; clear n0_ n1_ n2_; (try clear hb); (try clear hb2); (try clear hk); (try clear hi)) | ((with_reducible refine gate_callee (f := 36) rfl ?_); refine goesL_ (some 45) rfl rfl Try.func36 (by kernel_rfl) rfl #[.pointer (some ⟨g114, 0, none⟩), .slice A0 l0.length c0] rfl (by (try simp only [List.map_toArray, List.map_cons, List.map_nil]); first | done | rfl | (simp only [List.length_drop, List.length_take]; rfl)) ?_; (with_reducible refine (crc_Summer_Of.calls g114 t125 _ _ l0 t126 t127 w _ ?side1 ?side2 ?side3 ?side4 ?side5 A17.out).mono ?_); (case side1 => repeat (first | (with_reducible first | exact HI114.out | apply IsS97.alloc | apply IsS97.drewN | apply IsS97.drew | apply IsS97.set_0) | exact HI114.out)); (case side2 => repeat (first | (with_reducible first | exact HB.out | apply below_alloc | apply pw_below_drewN | apply below_drew1 | refine below_set ?_ (IsS97.ge HI114.out)) | exact HB.out)); (case side3 => repeat (first | exact (Kd.C_below HR0.out HB.out) | (with_reducible refine Kd.C_alloc ?_ _) | (with_reducible refine Kd.C_drewN ?_ _) | (with_reducible refine Kd.C_drew ?_))); (case side4 => exact HC0.out); (case side5 => exact Kd.far_C 0 HR0.out (IsS97.ge HI114.out)); rintro e w27 ⟨rfl, hi, hb, hk⟩; refine ⟨_, rfl, ?_⟩; have n0_ := Aside0.mk (Kd.R_mono (Kd.R_keep (IsS97.apart (show IsS97 w _ g114 t125 from by repeat (first | (with_reducible first | exact HI114.out | apply IsS97.alloc | apply IsS97.drewN | apply IsS97.drew | apply IsS97.set_0) | exact HI114.out)) (by (with_reducible repeat (first | apply Kd.R_alloc | apply Kd.R_drewN | apply Kd.R_drew)); exact HO121.out) (by decide)) hk (fun _ h => h.2)) (fun _ h => h.1)); have n1_ := Aside0.mk (hb); have n2_ := Aside0.mk (hi); clear HO121; clear HB; clear HI114; have HO121 := n0_; have HB := n1_; have HI114 := n2_; clear n0_ n1_ n2_; (try clear hb); (try clear hb2); (try clear hk); (try clear hi)))
                go_ret
                exact ⟨by first | rfl | (simp [errW_none, errW_some] <;> rfl) | (simp [*, errW_none, errW_some] <;> rfl), by repeat (first | (with_reducible first | exact HB.out | apply below_alloc | apply pw_below_drewN | apply below_drew1 | refine below_set ?_ (IsS97.ge HI114.out)) | exact HB.out)⟩
              · rw [if_neg c18] at H
                have c18b0 : (t124 == t126) = false := beq_eq_false_iff_ne.mpr c18
                have c18b1 : (t124 != t126) = true := bne_iff_ne.mpr c18
                replace H := Option.bind_eq_some_iff.mp H
                obtain ⟨t128, A280, H⟩ := H
                replace H : (some t128) = some r := H
                have A28 := Aside0.mk A280
                clear A280
                obtain rfl := Option.some.inj H
                go_wp2_with (first | ((with_reducible refine gate_callee (f := 34) rfl ?_); refine goesL_ (some 23) rfl rfl Try.func34 (by kernel_rfl) rfl #[] rfl (by (try simp only [List.map_toArray, List.map_cons, List.map_nil]); first | done | rfl | (simp only [List.length_drop, List.length_take]; rfl)) ?_; (with_reducible refine (crc_New.calls  t113 w _ ?side1 A10.out).mono ?_); (case side1 => repeat (first | (with_reducible first | exact HB.out | apply below_alloc | apply pw_below_drewN | apply below_drew1) | exact HB.out)); rintro e w29 ⟨g114, rfl, hi, hb, hb2⟩; refine ⟨_, rfl, ?_⟩; have n0_ := Aside0.mk (hb); have n1_ := Aside0.mk (hi); clear HB; have HB := n0_; have HI114 := n1_; clear n0_ n1_; (try clear hb); (try clear hb2); (try clear hk); (try clear hi)) | ((with_reducible refine gate_callee (f := 35) rfl ?_); refine goesL_ (some 27) rfl rfl Try.func35 (by kernel_rfl) rfl #[.int .i64 a1, .int .i64 (l0.length : Int)] rfl (by (try simp only [List.map_toArray, List.map_cons, List.map_nil]); first | done | rfl | (simp only [List.length_drop, List.length_take]; rfl)) ?_; (with_reducible refine (blazonref01_Pick.calls a1 (l0.length : Int) t115 _ A11.out).mono ?_); rintro e w' ⟨rfl, ⟨nd, rfl⟩⟩; refine ⟨_, rfl, ?_⟩; (try (rw [drewN_self w29]; generalize hq_ : World.drewN w29 _ = w29; have n0_ : Aside0 (IsS97 w w29 g114 t113) := ⟨by rw [← hq_]; exact (by repeat (first | (with_reducible first | exact HI114.out | apply IsS97.alloc | apply IsS97.drewN | apply IsS97.drew | apply IsS97.set_0) | exact HI114.out))⟩; have n1_ : Aside0 (Below w.heap.size w w29) := ⟨by rw [← hq_]; exact (by repeat (first | (with_reducible first | exact HB.out | apply below_alloc | apply pw_below_drewN | apply below_drew1 | refine below_set ?_ (IsS97.ge HI114.out)) | exact HB.out))⟩; clear HI114 HB hq_; have HI114 := n0_; have HB := n1_; clear n0_ n1_))) | ((with_reducible refine gate_dst (N := 28) rfl ?_); (try (refine gate_guard (by rfl) ?_; dsimp only)); refine Kd.R_lit (Kd.int .u8) _ 5 ?hg (N := 28) ?hd (xs := ([] : List Int)) (inner := []) (ok := fun _ => True) (okp := fun _ => True) ?hr ?hp (fun _ hk => hk) trivial (Below.refl _ _) (Nat.le_refl _) (by simp) ?_; (case hd => rfl); (case hg => rfl); (case hr => first | (go_simp; done) | (go_simp; rfl)); (case hp => exact (Reps.none _ _)); intro v117 w30 ho31 hb hg_ hnew_; clear hg_ hnew_; (first | rw [← Ny116.out] at ho31 | (simp only [Int.reduceToNat] at ho31; rw [← Ny116.out] at ho31)); have n0_ := Aside0.mk (Kd.R_lower ho31 (below_size (by repeat (first | (with_reducible first | exact HB.out | apply below_alloc | apply pw_below_drewN | apply below_drew1 | refine below_set ?_ (IsS97.ge HI114.out)) | exact HB.out)))); have n1_ := Aside0.mk (IsS97.below (by repeat (first | (with_reducible first | exact HI114.out | apply IsS97.alloc | apply IsS97.drewN | apply IsS97.drew | apply IsS97.set_0) | exact HI114.out)) hb); have n2_ := Aside0.mk (below_step (by repeat (first | (with_reducible first | exact HB.out | apply below_alloc | apply pw_below_drewN | apply below_drew1 | refine below_set ?_ (IsS97.ge HI114.out)) | exact HB.out)) hb); clear HI114; clear HB; have HO118 := n0_; have HI114 := n1_; have HB := n2_; clear n0_ n1_ n2_; clear hb ho31) | ((with_reducible refine gate_builtin (b := .append) (xs := #[.tmp 28, .tmp 29]) rfl ?_); (try (refine gate_guard (by rfl) ?_; dsimp only)); at_builtin; refine Kd.R_append_rows (Kd.int .u8) (w0 := w) w.heap.size rfl (.tmp 28) (.tmp 29) 23 5 (.int .u8 0) 1 rfl Try.underlying23 info5 rfl (by decide) (by omega) v117 y116 l0 _ _ _ (fun _ => True) (fun _ => False) rfl rfl ?aO ?aR (fun _ _ h => h) (fun _ h => h.elim) ?aF ?aB ?aS ?aL ?_; (case aR => repeat (first | exact (Kd.C_below HR0.out HB.out) | (with_reducible refine Kd.C_alloc ?_ _) | (with_reducible refine Kd.C_drewN ?_ _) | (with_reducible refine Kd.C_drew ?_))); (case aB => exact (by repeat (first | (with_reducible first | exact HB.out | apply below_alloc | apply pw_below_drewN | apply below_drew1 | refine below_set ?_ (IsS97.ge HI114.out)) | exact HB.out))); (case aF => exact (fun _ _ => trivial)); (case aO => exact (by (with_reducible repeat (first | apply Kd.R_alloc | apply Kd.R_drewN | apply Kd.R_drew)); exact HO118.out)); (case aS => exact (below_size (by repeat (first | (with_reducible first | exact HB.out | apply below_alloc | apply pw_below_drewN | apply below_drew1 | refine below_set ?_ (IsS97.ge HI114.out)) | exact HB.out)))); (case aL => have := LMc12.out; omega); intro v120 w32 ho hb hg hat; rw [← Ny119.out] at ho; have n0_ := Aside0.mk (IsS97.grown (by repeat (first | (with_reducible first | exact HI114.out | apply IsS97.alloc | apply IsS97.drewN | apply IsS97.drew | apply IsS97.set_0) | exact HI114.out)) hg (IsS97.own_ne HI114.out HO118.out (by decide))); have n1_ := Aside0.mk (hb); have n2_ := Aside0.mk (ho); clear HI114; clear HB; clear HO118; have HI114 := n0_; have HB := n1_; have HO121 := n2_; clear n0_ n1_ n2_; clear ho hb hg hat; obtain ⟨Ao33, co33, eo33⟩ := Kd.R_slice HO121.out; subst eo33; have p122 : 0 ≤ (t115 : Int) := of_decide_eq_true (by first | (with_reducible assumption) | assumption); have q122 : t115 < (y119.length : Int) := of_decide_eq_true (by first | (with_reducible assumption) | assumption); obtain ⟨ad122, e122, hx122_0⟩ := Kd.at_int (Kd.R_reads' HO121.out).2.2 t115 p122 q122; cases e122; replace p122 := eq_true p122; replace q122 := eq_true q122; have p15 : 0 ≤ (t115 : Int) := of_decide_eq_true (by first | (with_reducible assumption) | assumption); have q15 : (t115 : Int) < ((y119.length : Int) : Int) := of_decide_eq_true (by first | (with_reducible assumption) | assumption); obtain ⟨go15, co15, eo15, gb15, gl15, cl15, HG15⟩ := Kd.R_form HO121.out (by omega); (first | cases eo15 | (injection eo15 with ea_ en_ ec_; (first | subst ea_ | (injection ea_ with ea_; subst ea_)); subst ec_; clear en_)); have GB15 := Aside0.mk gb15; have GG15 := Aside0.mk HG15; clear gb15 gl15 HG15; (first | simp only [add_plain] at hx122_0 | skip); obtain ⟨hx15_0, hf15_0⟩ := Kd.R_celln 0 HO121.out (t115 : Int) p15 q15; replace p15 := eq_true p15; replace q15 := eq_true q15; obtain ⟨hy34_, hz34_⟩ := Kd.R_celln 0 HO121.out (t115 : Int) (of_decide_eq_true (by first | (with_reducible assumption) | assumption)) (of_decide_eq_true (by first | (with_reducible assumption) | assumption)); have HP34 := Kd.R_putg HO121.out (t115 : Int) (Go.bits .xor .u8 (rd y119 t115) a2)) | ((with_reducible refine gate_store (t := 5) (p := 39) rfl ?_); refine store_event (t := 5) (p := 39) (v := ?vo_w35) (w1 := (w32.setCell ⟨go15, (t115 : Int).toNat, none⟩ (.int .u8 (Go.bits .xor .u8 (rd y119 t115) a2)))) ?hg ?ho ?hn ?hr ?_; (case ho => rfl); (case hg => rfl); (case hn => rfl); (case hr => first | (go_simp; done) | (go_simp; rfl)); intro w35 hw; have hg : w32.grownBy w35 (some go15) := (by rw [hw]; exact HP34.2); have hp_ : Kd.R (Kd.int .u8) 5 w35 w.heap.size (fun _ => True) (.slice (some ⟨go15, 0, none⟩) y119.length co33) y123 := (by rw [hw, Ny123.out]; exact HP34.1); clear HP34; have n0_ := Aside0.mk (IsS97.grown (by repeat (first | (with_reducible first | exact HI114.out | apply IsS97.alloc | apply IsS97.drewN | apply IsS97.drew | apply IsS97.set_0) | exact HI114.out)) hg (IsS97.own_ne HI114.out HO121.out (by decide))); have n1_ := Aside0.mk (hp_); have n2_ := Aside0.mk ((by rw [hw]; exact below_set (HB.out) GB15.out : Below w.heap.size w w35)); clear HI114; clear HO121; clear HB; have HI114 := n0_; have HO121 := n1_; have HB := n2_; clear n0_ n1_ n2_; clear hg hw hp_) | ((with_reducible refine gate_callee (f := 36) rfl ?_); refine goesL_ (some 42) rfl rfl Try.func36 (by kernel_rfl) rfl #[.pointer (some ⟨g114, 0, none⟩), .slice (some ⟨go15, 0, none⟩) y123.length co33] rfl (by (try simp only [List.map_toArray, List.map_cons, List.map_nil]); first | done | (rw [show y123.length = y119.length from (Kd.R_reads' HO121.out).1.symm] <;> rfl) | rfl | (simp only [List.length_drop, List.length_take]; rfl)) ?_; (with_reducible refine (crc_Summer_Of.calls g114 t113 _ _ y123 t124 t125 w _ ?side1 ?side2 ?side3 ?side4 ?side5 A16.out).mono ?_); (case side1 => repeat (first | (with_reducible first | exact HI114.out | apply IsS97.alloc | apply IsS97.drewN | apply IsS97.drew | apply IsS97.set_0) | exact HI114.out)); (case side2 => repeat (first | (with_reducible first | exact HB.out | apply below_alloc | apply pw_below_drewN | apply below_drew1 | refine below_set ?_ (IsS97.ge HI114.out)) | exact HB.out)); (case side3 => repeat (first | exact (Kd.R_reads' HO121.out).2.2 | (with_reducible refine Kd.C_alloc ?_ _) | (with_reducible refine Kd.C_drewN ?_ _) | (with_reducible refine Kd.C_drew ?_))); (case side4 => rw [show y123.length = y119.length from (Kd.R_reads' HO121.out).1.symm]; exact (Kd.R_reads' HO121.out).2.1); (case side5 => exact x_far (IsS97.own_ne HI114.out HO121.out (by decide))); rintro e w36 ⟨rfl, hi, hb, hk⟩; refine ⟨_, rfl, ?_⟩; have n0_ := Aside0.mk (Kd.R_mono (Kd.R_keep (IsS97.apart (show IsS97 w _ g114 t113 from by repeat (first | (with_reducible first | exact HI114.out | apply IsS97.alloc | apply IsS97.drewN | apply IsS97.drew | apply IsS97.set_0) | exact HI114.out)) (by (with_reducible repeat (first | apply Kd.R_alloc | apply Kd.R_drewN | apply Kd.R_drew)); exact HO121.out) (by decide)) hk (fun _ h => h.2)) (fun _ h => h.1)); have n1_ := Aside0.mk (hb); have n2_ := Aside0.mk (hi); clear HO121; clear HB; clear HI114; have HO121 := n0_; have HB := n1_; have HI114 := n2_; clear n0_ n1_ n2_; (try clear hb); (try clear hb2); (try clear hk); (try clear hi)) | ((with_reducible refine gate_callee (f := 36) rfl ?_); refine goesL_ (some 45) rfl rfl Try.func36 (by kernel_rfl) rfl #[.pointer (some ⟨g114, 0, none⟩), .slice A0 l0.length c0] rfl (by (try simp only [List.map_toArray, List.map_cons, List.map_nil]); first | done | rfl | (simp only [List.length_drop, List.length_take]; rfl)) ?_; (with_reducible refine (crc_Summer_Of.calls g114 t125 _ _ l0 t126 t127 w _ ?side1 ?side2 ?side3 ?side4 ?side5 A17.out).mono ?_); (case side1 => repeat (first | (with_reducible first | exact HI114.out | apply IsS97.alloc | apply IsS97.drewN | apply IsS97.drew | apply IsS97.set_0) | exact HI114.out)); (case side2 => repeat (first | (with_reducible first | exact HB.out | apply below_alloc | apply pw_below_drewN | apply below_drew1 | refine below_set ?_ (IsS97.ge HI114.out)) | exact HB.out)); (case side3 => repeat (first | exact (Kd.C_below HR0.out HB.out) | (with_reducible refine Kd.C_alloc ?_ _) | (with_reducible refine Kd.C_drewN ?_ _) | (with_reducible refine Kd.C_drew ?_))); (case side4 => exact HC0.out); (case side5 => exact Kd.far_C 0 HR0.out (IsS97.ge HI114.out)); rintro e w37 ⟨rfl, hi, hb, hk⟩; refine ⟨_, rfl, ?_⟩; have n0_ := Aside0.mk (Kd.R_mono (Kd.R_keep (IsS97.apart (show IsS97 w _ g114 t125 from by repeat (first | (with_reducible first | exact HI114.out | apply IsS97.alloc | apply IsS97.drewN | apply IsS97.drew | apply IsS97.set_0) | exact HI114.out)) (by (with_reducible repeat (first | apply Kd.R_alloc | apply Kd.R_drewN | apply Kd.R_drew)); exact HO121.out) (by decide)) hk (fun _ h => h.2)) (fun _ h => h.1)); have n1_ := Aside0.mk (hb); have n2_ := Aside0.mk (hi); clear HO121; clear HB; clear HI114; have HO121 := n0_; have HB := n1_; have HI114 := n2_; clear n0_ n1_ n2_; (try clear hb); (try clear hb2); (try clear hk); (try clear hi)) | (go_at_call 33; (with_reducible refine (blazonlaw02_awake.calls  t128 _ A28.out).mono ?_); rintro e w38 ⟨rfl, hb⟩; have n0_ := Aside0.mk (Kd.R_below (by (with_reducible repeat (first | apply Kd.R_alloc | apply Kd.R_drewN | apply Kd.R_drew)); exact HO121.out) hb); have n1_ := Aside0.mk (IsS97.below (by repeat (first | (with_reducible first | exact HI114.out | apply IsS97.alloc | apply IsS97.drewN | apply IsS97.drew | apply IsS97.set_0) | exact HI114.out)) hb); have n2_ := Aside0.mk (below_step (by repeat (first | (with_reducible first | exact HB.out | apply below_alloc | apply pw_below_drewN | apply below_drew1 | refine below_set ?_ (IsS97.ge HI114.out)) | exact HB.out)) hb); clear HO121; clear HI114; clear HB; have HO121 := n0_; have HI114 := n1_; have HB := n2_; clear n0_ n1_ n2_; (try clear hb); (try clear hb2); (try clear hk); (try clear hi)))
                go_ret
                exact ⟨by first | rfl | (simp [errW_none, errW_some] <;> rfl) | (simp [*, errW_none, errW_some] <;> rfl), by repeat (first | (with_reducible first | exact HB.out | apply below_alloc | apply pw_below_drewN | apply below_drew1 | refine below_set ?_ (IsS97.ge HI114.out)) | exact HB.out)⟩
            · rw [if_neg c14] at H
              exact absurd H (by simp)
          · rw [if_neg c13] at H
            exact absurd H (by simp)
        · rw [if_neg c12] at H
          exact absurd H (by simp)

/-- THE ONE PURE STATEMENT of blazonlaw02_CrcTurned: yours. -/
def blazonlaw02_CrcTurned.Pure : Prop := ∀ (l0 : List Int) (a1 : Int) (a2 : Int), l0.length ≤ maxLen → l0.length * 1 ≤ 140737488351232 → (∀ x ∈ l0, (Lit.int .u8 x).wf = true) → (Lit.int .i64 a1).wf = true → (Lit.int .u8 a2).wf = true → ∃ k, blazonlaw02_CrcTurned.f k l0 a1 a2 = some true
theorem blazonlaw02_CrcTurned.walk (P : blazonlaw02_CrcTurned.Pure) (a0 : Option Addr) (len0 cap0 : Nat) (z0 : List Int) (a1 : Int) (a2 : Int) (w : World) (w0 : (a0 = none ∧ len0 = 0 ∧ cap0 = 0 ∧ z0 = []) ∨ ∃ x, a0 = some x ∧ len0 ≤ cap0 ∧ cap0 ≤ maxLen ∧ z0.length = cap0 ∧ (∀ i, i < z0.length → w.cell? (x.add i) = some (.int .u8 (z0.getD i 0))) ∧ ∀ n ∈ z0, (Lit.int .u8 n).wf = true) (y0 : len0 * 1 ≤ 140737488351232) (w1 : (Lit.int .i64 a1).wf = true) (w2 : (Lit.int .u8 a2).wf = true) :
    Calls Try.prog 8 #[.slice a0 len0 cap0, .int .i64 a1, .int .u8 a2] w fun e w' => e = .returned (.bool true) ∧ Below w.heap.size w w' := by
  obtain ⟨l0, rfl, hr0, hm0, hw0, hc0⟩ := ReadsInt.ofRowC w0
  obtain ⟨k, h⟩ := P l0 a1 a2 hm0 y0 hw0 w1 w2
  refine (blazonlaw02_CrcTurned.calls k _ _ l0 a1 a2 true w (Kd.C_of_reads (d := (0 : Int)) (h1 := fun _ => rfl) hr0) hc0 h).mono ?_
  rintro e w' ⟨rfl, hd⟩
  exact ⟨rfl, hd⟩

/-! ### blazonref01_Lent: function 23 -/
def blazonref01_Lent.f (l0 : List Int) : Option (List Int) := (some (([] : List Int) : List Int)).bind fun y180 => (if y180.length + l0.length < 140737488355328 then ((some (y180 ++ l0 : List Int)).bind fun y183 => ((some (([77, 78, 79] : List Int) : List Int)).bind fun y186 => (if y183.length + y186.length < 140737488355328 then ((some (y183 ++ y186 : List Int)).bind fun y189 => (if 0 ≤ (l0.length : Int) then (if (l0.length : Int) ≤ (y189.length : Int) then (some (y189.take ((l0.length : Int) : Int).toNat)) else (none)) else (none))) else (none)))) else (none))
set_option maxHeartbeats 8000000 in
set_option maxRecDepth 100000 in
theorem blazonref01_Lent.calls (A0 : Option Addr) (c0 : Nat) (l0 : List Int) (r : List Int) (w : World) (hr0 : Kd.C (Kd.int .u8) w A0 l0.length l0) (hc0 : l0.length ≤ c0) (h : blazonref01_Lent.f l0 = some r) :
    Calls Try.prog 23 #[.slice A0 l0.length c0] w fun e w' => ∃ v0_ : Value, e = .returned (v0_) ∧ Kd.L (Kd.int .u8) 5 w' w.heap.size (fun k_ => (w.heap.size ≤ k_)) v0_ r ∧ Below w.heap.size w w' := by
  have HR0 := Aside0.mk hr0
  have HC0 := Aside0.mk hc0
  clear hr0 hc0
  have HB := Aside0.mk (Below.refl w.heap.size w)
  have H : ((some (([] : List Int) : List Int)).bind fun y180 => (if y180.length + l0.length < 140737488355328 then ((some (y180 ++ l0 : List Int)).bind fun y183 => ((some (([77, 78, 79] : List Int) : List Int)).bind fun y186 => (if y183.length + y186.length < 140737488355328 then ((some (y183 ++ y186 : List Int)).bind fun y189 => (if 0 ≤ (l0.length : Int) then (if (l0.length : Int) ≤ (y189.length : Int) then (some (y189.take ((l0.length : Int) : Int).toNat)) else (none)) else (none))) else (none)))) else (none))) = some r := h
  clear h
  obtain ⟨y180, hy180⟩ : ∃ y_ : List Int, y_ = (([] : List Int)) := ⟨_, rfl⟩
  replace H : (if y180.length + l0.length < 140737488355328 then ((some (y180 ++ l0 : List Int)).bind fun y183 => ((some (([77, 78, 79] : List Int) : List Int)).bind fun y186 => (if y183.length + y186.length < 140737488355328 then ((some (y183 ++ y186 : List Int)).bind fun y189 => (if 0 ≤ (l0.length : Int) then (if (l0.length : Int) ≤ (y189.length : Int) then (some (y189.take ((l0.length : Int) : Int).toNat)) else (none)) else (none))) else (none)))) else (none)) = some r := by first | (rw [hy180]; with_reducible exact H) | (have H2_ := (Option.bind_some _ _).symm.trans H; rw [hy180]; with_reducible exact H2_) | (have H2_ := (Option.bind_some _ _).symm.trans H; with_reducible exact H2_) | with_reducible exact H | (rw [hy180]; exact H) | exact H
  have Ny180 := Aside0.mk hy180
  clear hy180
  by_cases c2 : y180.length + l0.length < 140737488355328
  · rw [if_pos c2] at H
    have LMc2 := Aside0.mk c2
    clear c2
    obtain ⟨y183, hy183⟩ : ∃ y_ : List Int, y_ = (y180 ++ l0) := ⟨_, rfl⟩
    replace H : ((some (([77, 78, 79] : List Int) : List Int)).bind fun y186 => (if y183.length + y186.length < 140737488355328 then ((some (y183 ++ y186 : List Int)).bind fun y189 => (if 0 ≤ (l0.length : Int) then (if (l0.length : Int) ≤ (y189.length : Int) then (some (y189.take ((l0.length : Int) : Int).toNat)) else (none)) else (none))) else (none))) = some r := by first | (rw [hy183]; with_reducible exact H) | (have H2_ := (Option.bind_some _ _).symm.trans H; rw [hy183]; with_reducible exact H2_) | (have H2_ := (Option.bind_some _ _).symm.trans H; with_reducible exact H2_) | with_reducible exact H | (rw [hy183]; exact H) | exact H
    have Ny183 := Aside0.mk hy183
    clear hy183
    obtain ⟨y186, hy186⟩ : ∃ y_ : List Int, y_ = (([77, 78, 79] : List Int)) := ⟨_, rfl⟩
    replace H : (if y183.length + y186.length < 140737488355328 then ((some (y183 ++ y186 : List Int)).bind fun y189 => (if 0 ≤ (l0.length : Int) then (if (l0.length : Int) ≤ (y189.length : Int) then (some (y189.take ((l0.length : Int) : Int).toNat)) else (none)) else (none))) else (none)) = some r := by first | (rw [hy186]; with_reducible exact H) | (have H2_ := (Option.bind_some _ _).symm.trans H; rw [hy186]; with_reducible exact H2_) | (have H2_ := (Option.bind_some _ _).symm.trans H; with_reducible exact H2_) | with_reducible exact H | (rw [hy186]; exact H) | exact H
    have Ny186 := Aside0.mk hy186
    clear hy186
    by_cases c3 : y183.length + y186.length < 140737488355328
    · rw [if_pos c3] at H
      have LMc3 := Aside0.mk c3
      clear c3
      obtain ⟨y189, hy189⟩ : ∃ y_ : List Int, y_ = (y183 ++ y186) := ⟨_, rfl⟩
      replace H : (if 0 ≤ (l0.length : Int) then (if (l0.length : Int) ≤ (y189.length : Int) then (some (y189.take ((l0.length : Int) : Int).toNat)) else (none)) else (none)) = some r := by first | (rw [hy189]; with_reducible exact H) | (have H2_ := (Option.bind_some _ _).symm.trans H; rw [hy189]; with_reducible exact H2_) | (have H2_ := (Option.bind_some _ _).symm.trans H; with_reducible exact H2_) | with_reducible exact H | (rw [hy189]; exact H) | exact H
      have Ny189 := Aside0.mk hy189
      clear hy189
      by_cases c4 : 0 ≤ (l0.length : Int)
      · rw [if_pos c4] at H
        have c4b0 := eq_true c4
        have c4b1 : decide (0 ≤ (l0.length : Int)) = true := decide_eq_true c4
        clear c4
        by_cases c5 : (l0.length : Int) ≤ (y189.length : Int)
        · rw [if_pos c5] at H
          have c5b0 := eq_true c5
          have c5b1 : decide ((l0.length : Int) ≤ (y189.length : Int)) = true := decide_eq_true c5
          clear c5
          obtain ⟨y192, hy192⟩ : ∃ y_ : List Int, y_ = (y189.take ((l0.length : Int) : Int).toNat) := ⟨_, rfl⟩
          replace H : (some y192) = some r := by first | (rw [hy192]; with_reducible exact H) | (have H2_ := (Option.bind_some _ _).symm.trans H; rw [hy192]; with_reducible exact H2_) | (have H2_ := (Option.bind_some _ _).symm.trans H; with_reducible exact H2_) | with_reducible exact H | (rw [hy192]; exact H) | exact H
          have Ny192 := Aside0.mk hy192
          clear hy192
          obtain rfl := Option.some.inj H
          go_enter Try.func23, Try.ntmps23
          go_wp2_with (first | ((with_reducible refine gate_dst (N := 4) rfl ?_); refine Kd.R_lit (Kd.int .u8) _ 5 ?hg (N := 4) ?hd (xs := ([] : List Int)) (inner := []) (ok := fun _ => True) (okp := fun _ => True) ?hr ?hp (fun _ hk => hk) trivial (Below.refl _ _) (Nat.le_refl _) (by simp) ?_; (case hd => rfl); (case hg => rfl); (case hr => first | (go_simp; done) | (go_simp; rfl)); (case hp => exact (Reps.none _ _)); intro v181 w6 ho7 hb hg_ hnew_; clear hg_ hnew_; (first | rw [← Ny180.out] at ho7 | (simp only [Int.reduceToNat] at ho7; rw [← Ny180.out] at ho7)); have n0_ := Aside0.mk (Kd.R_lower ho7 (below_size (by repeat (first | (with_reducible first | exact HB.out | apply below_alloc | apply pw_below_drewN | apply below_drew1) | exact HB.out)))); have n1_ := Aside0.mk (below_step (by repeat (first | (with_reducible first | exact HB.out | apply below_alloc | apply pw_below_drewN | apply below_drew1) | exact HB.out)) hb); clear HB; have HO182 := n0_; have HB := n1_; clear n0_ n1_; clear hb ho7) | ((with_reducible refine gate_builtin (b := .append) (xs := #[.tmp 4, .tmp 5]) rfl ?_); at_builtin; refine Kd.R_append_rows (Kd.int .u8) (w0 := w) w.heap.size rfl (.tmp 4) (.tmp 5) 23 5 (.int .u8 0) 1 rfl Try.underlying23 info5 rfl (by decide) (by omega) v181 y180 l0 _ _ _ (fun _ => True) (fun _ => False) rfl rfl ?aO ?aR (fun _ _ h => h) (fun _ h => h.elim) ?aF ?aB ?aS ?aL ?_; (case aR => repeat (first | exact (Kd.C_below HR0.out HB.out) | (with_reducible refine Kd.C_alloc ?_ _) | (with_reducible refine Kd.C_drewN ?_ _) | (with_reducible refine Kd.C_drew ?_))); (case aB => exact (by repeat (first | (with_reducible first | exact HB.out | apply below_alloc | apply pw_below_drewN | apply below_drew1) | exact HB.out))); (case aF => exact (fun _ _ => trivial)); (case aO => exact (by (with_reducible repeat (first | apply Kd.R_alloc | apply Kd.R_drewN | apply Kd.R_drew)); exact HO182.out)); (case aS => exact (below_size (by repeat (first | (with_reducible first | exact HB.out | apply below_alloc | apply pw_below_drewN | apply below_drew1) | exact HB.out)))); (case aL => have := LMc2.out; omega); intro v184 w8 ho hb hg hat; rw [← Ny183.out] at ho; have n0_ := Aside0.mk (hb); have n1_ := Aside0.mk (ho); clear HB; clear HO182; have HB := n0_; have HO185 := n1_; clear n0_ n1_; clear ho hb hg hat) | ((with_reducible refine gate_dst (N := 8) rfl ?_); refine Kd.R_lit (Kd.int .u8) _ 5 ?hg (N := 8) ?hd (xs := ([77, 78, 79] : List Int)) (inner := [.int .u8 77, .int .u8 78, .int .u8 79]) (ok := fun _ => True) (okp := fun _ => True) ?hr ?hp (fun _ hk => hk) trivial (Below.refl _ _) (Nat.le_refl _) (by simp) ?_; (case hd => rfl); (case hg => rfl); (case hr => first | (go_simp; done) | (go_simp; rfl)); (case hp => exact (Reps.one (show Kd.M (Kd.int .u8) _ _ _ 77 [.int .u8 77] from rfl) (Reps.one (show Kd.M (Kd.int .u8) _ _ _ 78 [.int .u8 78] from rfl) (Reps.one (show Kd.M (Kd.int .u8) _ _ _ 79 [.int .u8 79] from rfl) (Reps.none _ _))))); intro v187 w9 ho10 hb hg_ hnew_; clear hg_ hnew_; (first | rw [← Ny186.out] at ho10 | (simp only [Int.reduceToNat] at ho10; rw [← Ny186.out] at ho10)); have n0_ := Aside0.mk (Kd.R_elder' (by (with_reducible repeat (first | apply Kd.R_alloc | apply Kd.R_drewN | apply Kd.R_drew)); exact HO185.out) (Kd.R_base ho10) hb); have n1_ := Aside0.mk (Kd.R_lower (Kd.R_new' ho10 (Kd.R_lt (by (with_reducible repeat (first | apply Kd.R_alloc | apply Kd.R_drewN | apply Kd.R_drew)); exact HO185.out))) (below_size (by repeat (first | (with_reducible first | exact HB.out | apply below_alloc | apply pw_below_drewN | apply below_drew1) | exact HB.out)))); have n2_ := Aside0.mk (below_step (by repeat (first | (with_reducible first | exact HB.out | apply below_alloc | apply pw_below_drewN | apply below_drew1) | exact HB.out)) hb); clear HO185; clear HB; have HO185 := n0_; have HO188 := n1_; have HB := n2_; clear n0_ n1_ n2_; clear hb ho10; obtain ⟨Ao12, co12, eo12⟩ := Kd.R_slice HO188.out; subst eo12) | ((with_reducible refine gate_builtin (b := .append) (xs := #[.tmp 7, .tmp 8]) rfl ?_); at_builtin; refine Kd.R_append_rows (Kd.int .u8) (w0 := w) w.heap.size rfl (.tmp 7) (.tmp 8) 23 5 (.int .u8 0) 1 rfl Try.underlying23 info5 rfl (by decide) (by omega) v184 y183 y186 _ _ _ (fun k_ => some k_ ≠ (.slice Ao12 y186.length co12 : Value).ownBlock) (fun _ => False) rfl rfl ?aO ?aR (fun _ _ h => h) (fun _ h => h.elim) ?aF ?aB ?aS ?aL ?_; (case aR => repeat (first | exact (Kd.R_reads' HO188.out).2.2 | (with_reducible refine Kd.C_alloc ?_ _) | (with_reducible refine Kd.C_drewN ?_ _) | (with_reducible refine Kd.C_drew ?_))); (case aB => exact (by repeat (first | (with_reducible first | exact HB.out | apply below_alloc | apply pw_below_drewN | apply below_drew1) | exact HB.out))); (case aF => exact (fun k_ hk => Kd.fresh' (Kd.R_lt (by (with_reducible repeat (first | apply Kd.R_alloc | apply Kd.R_drewN | apply Kd.R_drew)); exact HO188.out)) k_ hk)); (case aO => exact (by (with_reducible repeat (first | apply Kd.R_alloc | apply Kd.R_drewN | apply Kd.R_drew)); exact Kd.R_mono HO185.out (fun _ hk => hk.2))); (case aS => exact (below_size (by repeat (first | (with_reducible first | exact HB.out | apply below_alloc | apply pw_below_drewN | apply below_drew1) | exact HB.out)))); (case aL => have := LMc3.out; omega); intro v190 w11 ho hb hg hat; rw [← Ny189.out] at ho; have n0_ := Aside0.mk (Kd.R_after (ok := (fun _ => True)) (by (with_reducible repeat (first | apply Kd.R_alloc | apply Kd.R_drewN | apply Kd.R_drew)); exact HO188.out) hg hat); have n1_ := Aside0.mk (hb); have n2_ := Aside0.mk (ho); clear HO188; clear HB; clear HO185; have HO188 := n0_; have HB := n1_; have HO191 := n2_; clear n0_ n1_ n2_; clear ho hb hg hat; obtain ⟨Ao13, co13, eo13⟩ := Kd.R_slice HO191.out; subst eo13; have q14 : ((l0.length : Int) : Int) ≤ ((y189.length : Int) : Int) := of_decide_eq_true (by first | (with_reducible assumption) | assumption); obtain ⟨i014, hi014, _, hsz14, _⟩ := info_parts info5; have hcut14 := cut_to (P := Try.prog) 23 5 .i64 Try.underlying23 hi014 Ao13 y189.length co13 (l0.length : Int) (of_decide_eq_true (by first | (with_reducible assumption) | assumption)) q14 (Kd.R_reads' HO191.out).2.1; have hy14 : y192.length = ((l0.length : Int) : Int).toNat := (by rw [Ny192.out, List.length_take]; omega); have e14 : y189 = y192 ++ [77, 78, 79] := (by rw [Ny192.out, Ny189.out, Ny186.out, Ny183.out, Ny180.out]; simp); have hr14 := Kd.L_of_R (base' := w.heap.size) (xs := y192) (by rw [← e14]; exact Kd.R_mono (Kd.R_bound HO191.out) (fun _ h_ => h_.2.1)); rw [← hy14] at hcut14; clear hy14 e14 hi014 hsz14 HO191; have HO194 := Aside0.mk hr14; clear hr14; replace q14 := eq_true q14))
          go_ret
          exact ⟨_, by first | rfl | (simp [errW_none, errW_some] <;> rfl) | (simp [*, errW_none, errW_some] <;> rfl), by exact HO194.out, by repeat (first | (with_reducible first | exact HB.out | apply below_alloc | apply pw_below_drewN | apply below_drew1) | exact HB.out)⟩
        · rw [if_neg c5] at H
          exact absurd H (by simp)
      · rw [if_neg c4] at H
        exact absurd H (by simp)
    · rw [if_neg c3] at H
      exact absurd H (by simp)
  · rw [if_neg c2] at H
    exact absurd H (by simp)


/-! ### blazonref01_Same: function 17 -/
def blazonref01_Same.l0 : Nat → List Int → List Int → Int → Option (Bool)
  | 0, _, _, _ => none
  | k + 1, x0, x1, x5 => if x5 < (x0.length : Int) then (if 0 ≤ x5 then (if x5 < (x1.length : Int) then (if (rd x0 x5) = (rd x1 x5) then (blazonref01_Same.l0 k x0 x1 (wrap64 (x5 + 1))) else (some false)) else (none)) else (none)) else (some true)
def blazonref01_Same.f (k : Nat) (l0 : List Int) (l1 : List Int) : Option (Bool) := if (l0.length : Int) = (l1.length : Int) then (blazonref01_Same.l0 k l0 l1 0) else (some false)
theorem blazonref01_Same.mono_l : ∀ k, (∀ y0 y1 y2, LeO (blazonref01_Same.l0 k y0 y1 y2) (blazonref01_Same.l0 (k + 1) y0 y1 y2))
  | 0 => fun _ _ _ r h => by simp [blazonref01_Same.l0] at h
  | k + 1 => by
    have ih0 := blazonref01_Same.mono_l k
    · intro y0 y1 y2
      unfold blazonref01_Same.l0
      repeat' first
      | (with_reducible exact ih0 _ _ _)
      | (with_reducible exact LeO.refl _)
      | (with_reducible exact LeO.none _)
      | (with_reducible refine LeO.ite ?_ ?_)
      | (with_reducible refine LeO.bind ?_ (fun _ => ?_))
      | exact ih0 _ _ _
      | exact LeO.none _
      | refine LeO.ite ?_ ?_
      | refine LeO.bind ?_ (fun _ => ?_)
theorem blazonref01_Same.mono : ∀ a0 a1 k, LeO (blazonref01_Same.f k a0 a1) (blazonref01_Same.f (k + 1) a0 a1) := by
  intro a0 a1 k
  have ih0 := blazonref01_Same.mono_l k
  unfold blazonref01_Same.f
  repeat' first
      | (with_reducible exact ih0 _ _ _)
      | (with_reducible exact LeO.refl _)
      | (with_reducible exact LeO.none _)
      | (with_reducible refine LeO.ite ?_ ?_)
      | (with_reducible refine LeO.bind ?_ (fun _ => ?_))
      | exact ih0 _ _ _
      | exact LeO.none _
      | refine LeO.ite ?_ ?_
      | refine LeO.bind ?_ (fun _ => ?_)
set_option maxHeartbeats 8000000 in
set_option maxRecDepth 100000 in
theorem blazonref01_Same.calls (k : Nat) (A0 : Option Addr) (c0 : Nat) (l0 : List Int) (A1 : Option Addr) (c1 : Nat) (l1 : List Int) (r : Bool) (w : World) (hr0 : Kd.C (Kd.int .u8) w A0 l0.length l0) (hc0 : l0.length ≤ c0) (hr1 : Kd.C (Kd.int .u8) w A1 l1.length l1) (hc1 : l1.length ≤ c1) (h : blazonref01_Same.f k l0 l1 = some r) :
    Calls Try.prog 17 #[.slice A0 l0.length c0, .slice A1 l1.length c1] w fun e w' => e = .returned (.bool r) ∧ Drawn0 w w' := by
  have HR0 := Aside0.mk hr0
  have HC0 := Aside0.mk hc0
  clear hr0 hc0
  have HR1 := Aside0.mk hr1
  have HC1 := Aside0.mk hc1
  clear hr1 hc1
  have H : (if (l0.length : Int) = (l1.length : Int) then (blazonref01_Same.l0 k l0 l1 0) else (some false)) = some r := h
  clear h
  by_cases c3 : (l0.length : Int) = (l1.length : Int)
  · rw [if_pos c3] at H
    have c3b0 : ((l0.length : Int) == (l1.length : Int)) = true := beq_iff_eq.mpr c3
    have c3b1 : ((l0.length : Int) != (l1.length : Int)) = false := bne_eq_false_iff_eq.mpr c3
    have c3b2 : (l0.length == l1.length) = true := by first | simpa using c3 | (simp at c3 ⊢; omega)
    clear c3
    have H' := Aside0.mk H
    clear H
    go_enter Try.func17, Try.ntmps17
    go_wp2
    repeat (go_quiet (fail); try go_wp2)
    go_loopg [5] k (fun kq v5 w' => ∃ (x5_1 : Int), v5 = .int .i64 x5_1 ∧ Aside0 (blazonref01_Same.l0 kq l0 l1 x5_1 = some r) ∧ Aside0 (kq ≤ k) ∧ Drawn0 w w')
    case atStart => exact ⟨(0), (by first | rfl | (simp; done) | (simp [*]; done)), H', ⟨Nat.le_refl _⟩, by repeat (first | exact Drawn0.refl _ | apply Drawn0.step)⟩
    case round =>
      clear H'
      try clear c1
      try clear p2
      try clear c3
      try clear c3b0
      try clear c3b1
      try clear c3b2
      obtain ⟨x5_1, rfl, HA, HK1, ⟨m1, rfl⟩⟩ := hrel
      cases gk with
      | zero => exact absurd HA.out (by simp [blazonref01_Same.l0])
      | succ k1 =>
        have H := HA.out
        clear HA
        simp only [blazonref01_Same.l0] at H
        by_cases c4 : x5_1 < (l0.length : Int)
        · rw [if_pos c4] at H
          have c4b0 : decide (x5_1 < (l0.length : Int)) = true := decide_eq_true c4
          clear c4
          by_cases c5 : 0 ≤ x5_1
          · rw [if_pos c5] at H
            have c5b0 : decide (0 ≤ x5_1) = true := decide_eq_true c5
            clear c5
            by_cases c6 : x5_1 < (l1.length : Int)
            · rw [if_pos c6] at H
              have c6b0 : decide (x5_1 < (l1.length : Int)) = true := decide_eq_true c6
              clear c6
              by_cases c7 : (rd l0 x5_1) = (rd l1 x5_1)
              · rw [if_pos c7] at H
                have c7b0 : ((rd l0 x5_1) == (rd l1 x5_1)) = true := beq_iff_eq.mpr c7
                have c7b1 : ((rd l0 x5_1) != (rd l1 x5_1)) = false := bne_eq_false_iff_eq.mpr c7
                clear c7
                have H' := Aside0.mk H
                clear H
                have p129 : 0 ≤ (x5_1 : Int) := of_decide_eq_true (by first | (with_reducible assumption) | assumption)
                have q129 : x5_1 < (l0.length : Int) := of_decide_eq_true (by first | (with_reducible assumption) | assumption)
                obtain ⟨ad129, e129, hx129_0⟩ := Kd.at_int HR0.out x5_1 p129 q129
                cases e129
                replace p129 := eq_true p129
                replace q129 := eq_true q129
                have p130 : 0 ≤ (x5_1 : Int) := of_decide_eq_true (by first | (with_reducible assumption) | assumption)
                have q130 : x5_1 < (l1.length : Int) := of_decide_eq_true (by first | (with_reducible assumption) | assumption)
                obtain ⟨ad130, e130, hx130_0⟩ := Kd.at_int HR1.out x5_1 p130 q130
                cases e130
                replace p130 := eq_true p130
                replace q130 := eq_true q130
                go_wp2
                repeat (go_quiet (fail); try go_wp2)
                go_roundg k1
                case measure => have := HK1.out; omega
                case rel => exact ⟨(wrap64 (x5_1 + 1)), (by first | rfl | (simp; done) | (simp [*]; done)), H', ⟨by have := HK1.out; omega⟩, by repeat (first | exact Drawn0.refl _ | apply Drawn0.step)⟩
              · rw [if_neg c7] at H
                have c7b0 : ((rd l0 x5_1) == (rd l1 x5_1)) = false := beq_eq_false_iff_ne.mpr c7
                have c7b1 : ((rd l0 x5_1) != (rd l1 x5_1)) = true := bne_iff_ne.mpr c7
                obtain rfl := Option.some.inj H
                have p129 : 0 ≤ (x5_1 : Int) := of_decide_eq_true (by first | (with_reducible assumption) | assumption)
                have q129 : x5_1 < (l0.length : Int) := of_decide_eq_true (by first | (with_reducible assumption) | assumption)
                obtain ⟨ad129, e129, hx129_0⟩ := Kd.at_int HR0.out x5_1 p129 q129
                cases e129
                replace p129 := eq_true p129
                replace q129 := eq_true q129
                have p130 : 0 ≤ (x5_1 : Int) := of_decide_eq_true (by first | (with_reducible assumption) | assumption)
                have q130 : x5_1 < (l1.length : Int) := of_decide_eq_true (by first | (with_reducible assumption) | assumption)
                obtain ⟨ad130, e130, hx130_0⟩ := Kd.at_int HR1.out x5_1 p130 q130
                cases e130
                replace p130 := eq_true p130
                replace q130 := eq_true q130
                go_wp2
                repeat (go_quiet (fail); try go_wp2)
                go_ret
                exact ⟨by first | rfl | (simp; done) | (simp [*]; done), by repeat (first | exact Drawn0.refl _ | apply Drawn0.step)⟩
            · rw [if_neg c6] at H
              exact absurd H (by simp)
          · rw [if_neg c5] at H
            exact absurd H (by simp)
        · rw [if_neg c4] at H
          have c4b0 : decide (x5_1 < (l0.length : Int)) = false := decide_eq_false c4
          clear c4
          obtain rfl := Option.some.inj H
          go_wp2
          repeat (go_quiet (fail); try go_wp2)
          go_ret
          exact ⟨by first | rfl | (simp; done) | (simp [*]; done), by repeat (first | exact Drawn0.refl _ | apply Drawn0.step)⟩
  · rw [if_neg c3] at H
    have c3b0 : ((l0.length : Int) == (l1.length : Int)) = false := beq_eq_false_iff_ne.mpr c3
    have c3b1 : ((l0.length : Int) != (l1.length : Int)) = true := bne_iff_ne.mpr c3
    have c3b2 : (l0.length == l1.length) = false := by first | simpa using c3 | (simp at c3 ⊢; omega)
    obtain rfl := Option.some.inj H
    go_enter Try.func17, Try.ntmps17
    go_wp2
    repeat (go_quiet (fail); try go_wp2)
    go_ret
    exact ⟨by first | rfl | (simp; done) | (simp [*]; done), by repeat (first | exact Drawn0.refl _ | apply Drawn0.step)⟩

/-! ### blazonref01_Kept: function 26 -/
def blazonref01_Kept.f (k : Nat) (l0 : List Int) (l1 : List Int) : Option (Bool) := if l0.length = l1.length then blazonref01_Same.f k l0 l1 else none
theorem blazonref01_Kept.mono : ∀ a0 a1 k, LeO (blazonref01_Kept.f k a0 a1) (blazonref01_Kept.f (k + 1) a0 a1) := by
  intro a0 a1 k
  unfold blazonref01_Kept.f
  exact LeO.ite (blazonref01_Same.mono a0 a1 k) (LeO.none _)
set_option maxHeartbeats 8000000 in
set_option maxRecDepth 100000 in
theorem blazonref01_Kept.calls (k : Nat) (A0 : Option Addr) (c0 : Nat) (l0 : List Int) (A1 : Option Addr) (c1 : Nat) (l1 : List Int) (r : Bool) (w : World) (hr0 : Kd.C (Kd.int .u8) w A0 (l0 ++ [77, 78, 79]).length (l0 ++ [77, 78, 79])) (hc0 : l0.length + 3 ≤ c0) (hr1 : Kd.C (Kd.int .u8) w A1 l1.length l1) (hc1 : l1.length ≤ c1) (h : blazonref01_Kept.f k l0 l1 = some r) :
    Calls Try.prog 26 #[.slice A0 l0.length c0, .slice A1 l1.length c1] w fun e w' => e = .returned (.bool r) ∧ Drawn0 w w' := by
  unfold blazonref01_Kept.f at h
  by_cases e1 : l0.length = l1.length
  · rw [if_pos e1] at h
    have hle : l0.length + 3 ≤ 9223372036854775807 := by have := hr0.2.1; simpa using this
    have HS := Aside0.mk h
    clear h
    obtain ⟨i0, hi0, _, hsz0, _⟩ := info_parts info5
    have hcut1 : ∀ W : World, (Instr.slice 23 (.slice A0 l0.length c0) none (some (.int .i64 ((l1.length : Int) + 3))) none).run Try.prog W = .ok (.slice A0 (l1.length + 3) c0) W := x_cut_to (P := Try.prog) 23 5 .i64 Try.underlying23 hi0 A0 l0.length c0 (l1.length + 3) (by omega)
    have hcut2 : ∀ W : World, (Instr.slice 23 (.slice A0 (l1.length + 3) c0) none (some (.int .i64 (l1.length : Int))) none).run Try.prog W = .ok (.slice A0 l1.length c0) W := x_cut_to (P := Try.prog) 23 5 .i64 Try.underlying23 hi0 A0 (l1.length + 3) c0 l1.length (by omega)
    obtain ⟨ad, hA, hcell⟩ := (Kd.reads_of_C (d := (0 : Int)) (h1 := fun _ => rfl) hr0).2.2 (by simp)
    subst hA
    have hx0 : w.cell? (ad.add l1.length) = some (.int .u8 77) := by
      have := hcell l1.length (by simp; omega)
      rw [List.getD_eq_getElem?_getD, List.getElem?_append_right (by omega), show l1.length - l0.length = 0 by omega] at this
      exact this
    have hx1 : w.cell? (ad.add (l1.length + 1)) = some (.int .u8 78) := by
      have := hcell (l1.length + 1) (by simp; omega)
      rw [List.getD_eq_getElem?_getD, List.getElem?_append_right (by omega), show l1.length + 1 - l0.length = 1 by omega] at this
      exact this
    have hx2 : w.cell? (ad.add (l1.length + 2)) = some (.int .u8 79) := by
      have := hcell (l1.length + 2) (by simp; omega)
      rw [List.getD_eq_getElem?_getD, List.getElem?_append_right (by omega), show l1.length + 2 - l0.length = 2 by omega] at this
      exact this
    have hr0' : Kd.C (Kd.int .u8) w (some ad) l0.length l0 := by
      have := Kd.C_take hr0 (m := l0.length) (by simp)
      simpa using this
    have hw3 : IntKind.i64.wrap ((l1.length : Int) + 3) = (l1.length : Int) + 3 := IntWalk.i64_in _ (by omega)
    obtain ⟨j1, hw1, hn1⟩ : ∃ j : Int, IntKind.i64.wrap ((l1.length : Int) + 1) = j ∧ j = (l1.length : Int) + 1 := ⟨_, rfl, IntWalk.i64_in _ (by omega)⟩
    obtain ⟨j2, hw2, hn2⟩ : ∃ j : Int, IntKind.i64.wrap ((l1.length : Int) + 2) = j ∧ j = (l1.length : Int) + 2 := ⟨_, rfl, IntWalk.i64_in _ (by omega)⟩
    have hb0 := eq_true (show (0 : Int) ≤ j1 by omega)
    have hb1 := eq_true (show (0 : Int) ≤ j2 by omega)
    rw [show l1.length + 1 = j1.toNat by omega] at hx1
    rw [show l1.length + 2 = j2.toNat by omega] at hx2
    have HSame := blazonref01_Same.calls k (some ad) c0 l0 A1 c1 l1 r w hr0' (by omega) hr1 hc1 HS.out
    rw [e1] at HSame
    have hd0 : decide ((l1.length : Int) < ((l1.length : Int) + 3)) = true := decide_eq_true (by omega)
    have hd1 := eq_true (show j1 < ((l1.length : Int) + 3) by omega)
    have hd2 := eq_true (show j2 < ((l1.length : Int) + 3) by omega)
    clear hn1 hn2
    have HE := Aside0.mk e1
    clear e1 hr0 hr1 hr0' hcell HS hle
    cases r with
    | false =>
      go_enter Try.func26, Try.ntmps26
      go_wp2_with (first | (go_at_call 17; refine HSame.mono ?_; rintro e w' ⟨rfl, ⟨nd, rfl⟩⟩))
      go_ret
      exact ⟨rfl, Drawn0.step (Drawn0.refl _) _⟩
    | true =>
      go_enter Try.func26, Try.ntmps26
      go_wp2_with (first | (go_at_call 17; refine HSame.mono ?_; rintro e w' ⟨rfl, ⟨nd, rfl⟩⟩))
      go_ret
      exact ⟨rfl, Drawn0.step (Drawn0.refl _) _⟩
  · rw [if_neg e1] at h
    cases h

/-! ### blazonref02_More: function 39 -/
mutual
def blazonref02_More.l0 : Nat → List Int → Int → Int → Option (Int)
  | 0, _, _, _ => none
  | k + 1, x1, x5, x6 => if x6 < (x1.length : Int) then (if 0 ≤ x6 then (blazonref02_More.l1 k x1 (Go.bits .xor .u32 x5 ((rd x1 x6) % 4294967296)) x6 0) else (none)) else (some ((4294967295 - x5) % 4294967296))
def blazonref02_More.l1 : Nat → List Int → Int → Int → Int → Option (Int)
  | 0, _, _, _, _ => none
  | k + 1, x1, x5, x6, x7 => if x7 < 8 then (if (Int.tmod x5 2) = 1 then (blazonref02_More.l1 k x1 (Go.bits .xor .u32 ((Int.tdiv x5 2) % 4294967296) 3988292384) x6 (wrap64 (x7 + 1))) else (blazonref02_More.l1 k x1 ((Int.tdiv x5 2) % 4294967296) x6 (wrap64 (x7 + 1)))) else (blazonref02_More.l0 k x1 x5 (wrap64 (x6 + 1)))
end
def blazonref02_More.f (k : Nat) (a0 : Int) (l1 : List Int) : Option (Int) := blazonref02_More.l0 k l1 ((4294967295 - a0) % 4294967296) 0
theorem blazonref02_More.mono_l : ∀ k, (∀ y0 y1 y2, LeO (blazonref02_More.l0 k y0 y1 y2) (blazonref02_More.l0 (k + 1) y0 y1 y2)) ∧ (∀ y0 y1 y2 y3, LeO (blazonref02_More.l1 k y0 y1 y2 y3) (blazonref02_More.l1 (k + 1) y0 y1 y2 y3))
  | 0 => ⟨fun _ _ _ r h => by simp [blazonref02_More.l0] at h, fun _ _ _ _ r h => by simp [blazonref02_More.l1] at h⟩
  | k + 1 => by
    obtain ⟨ih0, ih1⟩ := blazonref02_More.mono_l k
    refine ⟨?_, ?_⟩
    · intro y0 y1 y2
      unfold blazonref02_More.l0
      repeat' first
      | (with_reducible exact ih0 _ _ _)
      | (with_reducible exact ih1 _ _ _ _)
      | (with_reducible exact LeO.refl _)
      | (with_reducible exact LeO.none _)
      | (with_reducible refine LeO.ite ?_ ?_)
      | (with_reducible refine LeO.bind ?_ (fun _ => ?_))
      | exact ih0 _ _ _
      | exact ih1 _ _ _ _
      | exact LeO.none _
      | refine LeO.ite ?_ ?_
      | refine LeO.bind ?_ (fun _ => ?_)
    · intro y0 y1 y2 y3
      unfold blazonref02_More.l1
      repeat' first
      | (with_reducible exact ih0 _ _ _)
      | (with_reducible exact ih1 _ _ _ _)
      | (with_reducible exact LeO.refl _)
      | (with_reducible exact LeO.none _)
      | (with_reducible refine LeO.ite ?_ ?_)
      | (with_reducible refine LeO.bind ?_ (fun _ => ?_))
      | exact ih0 _ _ _
      | exact ih1 _ _ _ _
      | exact LeO.none _
      | refine LeO.ite ?_ ?_
      | refine LeO.bind ?_ (fun _ => ?_)
theorem blazonref02_More.mono : ∀ a0 a1 k, LeO (blazonref02_More.f k a0 a1) (blazonref02_More.f (k + 1) a0 a1) := by
  intro a0 a1 k
  obtain ⟨ih0, ih1⟩ := blazonref02_More.mono_l k
  unfold blazonref02_More.f
  repeat' first
      | (with_reducible exact ih0 _ _ _)
      | (with_reducible exact ih1 _ _ _ _)
      | (with_reducible exact LeO.refl _)
      | (with_reducible exact LeO.none _)
      | (with_reducible refine LeO.ite ?_ ?_)
      | (with_reducible refine LeO.bind ?_ (fun _ => ?_))
      | exact ih0 _ _ _
      | exact ih1 _ _ _ _
      | exact LeO.none _
      | refine LeO.ite ?_ ?_
      | refine LeO.bind ?_ (fun _ => ?_)
set_option maxHeartbeats 8000000 in
set_option maxRecDepth 100000 in
theorem blazonref02_More.calls (k : Nat) (a0 : Int) (A1 : Option Addr) (c1 : Nat) (l1 : List Int) (r : Int) (w : World) (hr1 : Kd.C (Kd.int .u8) w A1 l1.length l1) (hc1 : l1.length ≤ c1) (h : blazonref02_More.f k a0 l1 = some r) :
    Calls Try.prog 39 #[.int .u32 a0, .slice A1 l1.length c1] w fun e w' => e = .returned (.int .u32 r) ∧ Drawn0 w w' := by
  have HR1 := Aside0.mk hr1
  have HC1 := Aside0.mk hc1
  clear hr1 hc1
  have H : (blazonref02_More.l0 k l1 ((4294967295 - a0) % 4294967296) 0) = some r := h
  clear h
  have H' := Aside0.mk H
  clear H
  go_enter Try.func39, Try.ntmps39
  go_wp2
  go_loopg [5, 6] k (fun kq v5 v6 w' => ∃ (x5_1 : Int) (x6_1 : Int), v5 = .int .u32 x5_1 ∧ v6 = .int .i64 x6_1 ∧ Aside0 (blazonref02_More.l0 kq l1 x5_1 x6_1 = some r) ∧ Aside0 (kq ≤ k) ∧ Drawn0 w w')
  case atStart => exact ⟨((4294967295 - a0) % 4294967296), (0), (by first | rfl | (simp; done) | (simp [*]; done)), (by first | rfl | (simp; done) | (simp [*]; done)), H', ⟨Nat.le_refl _⟩, by repeat (first | exact Drawn0.refl _ | apply Drawn0.step)⟩
  case round =>
    clear H'
    try clear c1
    try clear p2
    obtain ⟨x5_1, x6_1, rfl, rfl, HA, HK1, ⟨m1, rfl⟩⟩ := hrel
    cases gk with
    | zero => exact absurd HA.out (by simp [blazonref02_More.l0])
    | succ k1 =>
      have H := HA.out
      clear HA
      simp only [blazonref02_More.l0] at H
      by_cases c3 : x6_1 < (l1.length : Int)
      · rw [if_pos c3] at H
        have c3b0 : decide (x6_1 < (l1.length : Int)) = true := decide_eq_true c3
        clear c3
        by_cases c4 : 0 ≤ x6_1
        · rw [if_pos c4] at H
          have c4b0 : decide (0 ≤ x6_1) = true := decide_eq_true c4
          clear c4
          have H' := Aside0.mk H
          clear H
          have p131 : 0 ≤ (x6_1 : Int) := of_decide_eq_true (by first | (with_reducible assumption) | assumption)
          have q131 : x6_1 < (l1.length : Int) := of_decide_eq_true (by first | (with_reducible assumption) | assumption)
          obtain ⟨ad131, e131, hx131_0⟩ := Kd.at_int HR1.out x6_1 p131 q131
          cases e131
          replace p131 := eq_true p131
          replace q131 := eq_true q131
          go_wp2
          go_loopg [5, 7] k1 (fun kq v5 v7 w' => ∃ (x5_2 : Int) (x7_2 : Int), v5 = .int .u32 x5_2 ∧ v7 = .int .i64 x7_2 ∧ Aside0 (blazonref02_More.l1 kq l1 x5_2 x6_1 x7_2 = some r) ∧ Aside0 (kq ≤ k1) ∧ Drawn0 w w')
          case atStart => exact ⟨(Go.bits .xor .u32 x5_1 ((rd l1 x6_1) % 4294967296)), (0), (by first | rfl | (simp; done) | (simp [*]; done)), (by first | rfl | (simp; done) | (simp [*]; done)), H', ⟨Nat.le_refl _⟩, by repeat (first | exact Drawn0.refl _ | apply Drawn0.step)⟩
          case round =>
            clear H'
            try clear c1
            try clear p1
            try clear q1
            try clear hx1
            try clear p2
            try clear c3
            try clear c3b0
            try clear c4
            try clear c4b0
            try clear hx131_0
            try clear p131
            try clear p2
            try clear q131
            obtain ⟨x5_2, x7_2, rfl, rfl, HA, HK2, ⟨m2, rfl⟩⟩ := hrel
            cases gk with
            | zero => exact absurd HA.out (by simp [blazonref02_More.l1])
            | succ k2 =>
              have H := HA.out
              clear HA
              simp only [blazonref02_More.l1] at H
              by_cases c5 : x7_2 < 8
              · rw [if_pos c5] at H
                have c5b0 : decide (x7_2 < 8) = true := decide_eq_true c5
                clear c5
                by_cases c6 : (Int.tmod x5_2 2) = 1
                · rw [if_pos c6] at H
                  have c6b0 : ((Int.tmod x5_2 2) == 1) = true := beq_iff_eq.mpr c6
                  have c6b1 : ((Int.tmod x5_2 2) != 1) = false := bne_eq_false_iff_eq.mpr c6
                  clear c6
                  have H' := Aside0.mk H
                  clear H
                  go_wp2
                  go_roundg k2
                  case measure => have := HK1.out; have := HK2.out; omega
                  case rel => exact ⟨(Go.bits .xor .u32 ((Int.tdiv x5_2 2) % 4294967296) 3988292384), (wrap64 (x7_2 + 1)), (by first | rfl | (simp; done) | (simp [*]; done)), (by first | rfl | (simp; done) | (simp [*]; done)), H', ⟨by have := HK1.out; have := HK2.out; omega⟩, by repeat (first | exact Drawn0.refl _ | apply Drawn0.step)⟩
                · rw [if_neg c6] at H
                  have c6b0 : ((Int.tmod x5_2 2) == 1) = false := beq_eq_false_iff_ne.mpr c6
                  have c6b1 : ((Int.tmod x5_2 2) != 1) = true := bne_iff_ne.mpr c6
                  have H' := Aside0.mk H
                  clear H
                  go_wp2
                  go_roundg k2
                  case measure => have := HK1.out; have := HK2.out; omega
                  case rel => exact ⟨((Int.tdiv x5_2 2) % 4294967296), (wrap64 (x7_2 + 1)), (by first | rfl | (simp; done) | (simp [*]; done)), (by first | rfl | (simp; done) | (simp [*]; done)), H', ⟨by have := HK1.out; have := HK2.out; omega⟩, by repeat (first | exact Drawn0.refl _ | apply Drawn0.step)⟩
              · rw [if_neg c5] at H
                have c5b0 : decide (x7_2 < 8) = false := decide_eq_false c5
                clear c5
                have H' := Aside0.mk H
                clear H
                go_wp2
                go_roundg k2
                case measure => have := HK1.out; have := HK2.out; omega
                case rel => exact ⟨(x5_2), (wrap64 (x6_1 + 1)), (by first | rfl | (simp; done) | (simp [*]; done)), (by first | rfl | (simp; done) | (simp [*]; done)), H', ⟨by have := HK1.out; have := HK2.out; omega⟩, by repeat (first | exact Drawn0.refl _ | apply Drawn0.step)⟩
        · rw [if_neg c4] at H
          exact absurd H (by simp)
      · rw [if_neg c3] at H
        have c3b0 : decide (x6_1 < (l1.length : Int)) = false := decide_eq_false c3
        clear c3
        obtain rfl := Option.some.inj H
        go_wp2
        go_ret
        exact ⟨by first | rfl | (simp; done) | (simp [*]; done), by repeat (first | exact Drawn0.refl _ | apply Drawn0.step)⟩

/-! ### blazonref02_Of: function 37 -/
def blazonref02_Of.f (k : Nat) (l0 : List Int) : Option (Int) := (blazonref02_More.f k 0 l0).bind fun t132 => (some t132)
theorem blazonref02_Of.mono : ∀ a0 k, LeO (blazonref02_Of.f k a0) (blazonref02_Of.f (k + 1) a0) := by
  intro a0 k
  unfold blazonref02_Of.f
  repeat' first
      | (with_reducible exact blazonref02_More.mono _ _ _)
      | (with_reducible exact LeO.refl _)
      | (with_reducible exact LeO.none _)
      | (with_reducible refine LeO.ite ?_ ?_)
      | (with_reducible refine LeO.bind ?_ (fun _ => ?_))
      | exact blazonref02_More.mono _ _ _
      | exact LeO.none _
      | refine LeO.ite ?_ ?_
      | refine LeO.bind ?_ (fun _ => ?_)
set_option maxHeartbeats 8000000 in
set_option maxRecDepth 100000 in
theorem blazonref02_Of.calls (k : Nat) (A0 : Option Addr) (c0 : Nat) (l0 : List Int) (r : Int) (w : World) (hr0 : Kd.C (Kd.int .u8) w A0 l0.length l0) (hc0 : l0.length ≤ c0) (h : blazonref02_Of.f k l0 = some r) :
    Calls Try.prog 37 #[.slice A0 l0.length c0] w fun e w' => e = .returned (.int .u32 r) ∧ Drawn0 w w' := by
  have HR0 := Aside0.mk hr0
  have HC0 := Aside0.mk hc0
  clear hr0 hc0
  have H : ((blazonref02_More.f k 0 l0).bind fun t132 => (some t132)) = some r := h
  clear h
  replace H := Option.bind_eq_some_iff.mp H
  obtain ⟨t132, A20, H⟩ := H
  replace H : (some t132) = some r := H
  have A2 := Aside0.mk A20
  clear A20
  obtain rfl := Option.some.inj H
  go_enter Try.func37, Try.ntmps37
  go_wp2_with (first | ((with_reducible refine gate_callee (f := 39) rfl ?_); refine goesL_ (some 4) rfl rfl Try.func39 (by kernel_rfl) rfl #[.int .u32 0, .slice A0 l0.length c0] rfl (by (try simp only [List.map_toArray, List.map_cons, List.map_nil]); first | done | rfl | (simp only [List.length_drop, List.length_take]; rfl)) ?_; (with_reducible refine (blazonref02_More.calls k 0 _ _ l0 t132 _ ?side1 ?side2 A2.out).mono ?_); (case side1 => repeat (first | exact HR0.out | (with_reducible refine Kd.C_alloc ?_ _) | (with_reducible refine Kd.C_drewN ?_ _) | (with_reducible refine Kd.C_drew ?_))); (case side2 => exact HC0.out); rintro e w' ⟨rfl, ⟨nd, rfl⟩⟩; refine ⟨_, rfl, ?_⟩))
  go_ret
  exact ⟨by first | rfl | (simp; done) | (simp [*]; done), by repeat (first | exact Drawn0.refl _ | apply Drawn0.step)⟩

end Go.Proofs.Ytbpagdgbehefkaa.PCrc
