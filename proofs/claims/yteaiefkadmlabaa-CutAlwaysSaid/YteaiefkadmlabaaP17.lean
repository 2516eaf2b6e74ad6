/- Machine steps of the program, written by a program of this session out of the translation. -/
import Derived.Test.YteaiefkadmlabaaP0
import Derived.Test.YteaiefkadmlabaaP11
import Derived.Test.YteaiefkadmlabaaP15
import Derived.Test.YteaiefkadmlabaaP16
import Derived.Test.YteaiefkadmlabaaP7
import Derived.Test.YteaiefkadmlabaaHFirst
import Derived.Test.YteaiefkadmlabaaHLeaf
namespace Go.Proofs.Yteaiefkadmlabaa.P
open Go.RowKit Go.Proofs.YteaiefkadmlabaaW.PrintWords Go.Proofs.YteaiefkadmlabaaW.PrintLast Go.Proofs.YteaiefkadmlabaaW.PrintMore
attribute [local go_sem] max2_int min2_int max_two min_two max_three min_three max_four min_four   -- for this text's walks alone
set_option linter.unusedVariables false
set_option linter.unusedSimpArgs false

/-! ### coppicelaw9_CutAlways: function 8 -/
mutual
def coppicelaw9_CutAlways.j0 : Nat → List (S38) → Bool → Bool → List Int → List Int → Int → Int → Option (Bool)
  | 0, _, _, _, _, _, _, _ => none
  | k + 1, x0, x5, x26, x333000, x333001, x333002, x333003 => if x26 = true then (some x5) else ((coppicelaw9_laid.f k x0 x333000 x333001 x333002 x333003).bind fun t339 => ((leaf_Size.f k t339).bind fun t342 => ((cut_Leaf.f k t339).bind fun t343 => (if x5 = true then ((coppiceref4_Size.f k t339).bind fun t344 => (coppicelaw9_CutAlways.j1 k t339 t342 t343 (t342 != t344))) else (coppicelaw9_CutAlways.j1 k t339 t342 t343 true)))))
def coppicelaw9_CutAlways.j1 : Nat → List (S38) → Int → Int → Bool → Option (Bool)
  | 0, _, _, _, _ => none
  | k + 1, x6, x7, x8, x42 => if x42 = true then (some false) else (if x7 ≤ 4092 then (some true) else (if x8 < 1 then (coppicelaw9_CutAlways.j2 k x6 x8 true) else (coppicelaw9_CutAlways.j2 k x6 x8 (decide (x8 ≥ (x6.length : Int))))))
def coppicelaw9_CutAlways.j2 : Nat → List (S38) → Int → Bool → Option (Bool)
  | 0, _, _, _ => none
  | k + 1, x6, x8, x52 => if x52 = true then (some false) else (if 0 ≤ x8 then (if x8 ≤ (x6.length : Int) then ((leaf_Size.f k (x6.take (x8 : Int).toNat)).bind fun t350 => ((leaf_Size.f k (x6.drop (x8 : Int).toNat)).bind fun t356 => ((cut_JoinLeaves.f k (x6.take (x8 : Int).toNat) (x6.drop (x8 : Int).toNat)).bind fun t367 => (if t350 ≤ 4092 then (if t356 ≤ 4092 then (some (!t367)) else (some false)) else (some false))))) else (none)) else (none))
end
def coppicelaw9_CutAlways.f (k : Nat) (l0 : List (S38)) (l1_0 : List Int) (l1_1 : List Int) (a1_2 : Int) (a1_3 : Int) : Option (Bool) := (coppicelaw9_first.f).bind fun t333 => (if (l0.length : Int) > 400 then (coppicelaw9_CutAlways.j0 k l0 t333 true l1_0 l1_1 a1_2 a1_3) else ((coppicelaw9_rises.f k l0).bind fun t334 => (if t334 = true then ((coppicelaw9_rises.f k (([(⟨l1_0, l1_1, a1_2, a1_3⟩ : S38)] : List (S38)))).bind fun t338 => (coppicelaw9_CutAlways.j0 k l0 t333 (!t338) l1_0 l1_1 a1_2 a1_3)) else (coppicelaw9_CutAlways.j0 k l0 t333 true l1_0 l1_1 a1_2 a1_3))))
theorem coppicelaw9_CutAlways.mono_l : ∀ k, (∀ y0 y1 y2 y3 y4 y5 y6, LeO (coppicelaw9_CutAlways.j0 k y0 y1 y2 y3 y4 y5 y6) (coppicelaw9_CutAlways.j0 (k + 1) y0 y1 y2 y3 y4 y5 y6)) ∧ (∀ y0 y1 y2 y3, LeO (coppicelaw9_CutAlways.j1 k y0 y1 y2 y3) (coppicelaw9_CutAlways.j1 (k + 1) y0 y1 y2 y3)) ∧ (∀ y0 y1 y2, LeO (coppicelaw9_CutAlways.j2 k y0 y1 y2) (coppicelaw9_CutAlways.j2 (k + 1) y0 y1 y2))
  | 0 => ⟨fun _ _ _ _ _ _ _ r h => by simp [coppicelaw9_CutAlways.j0] at h, fun _ _ _ _ r h => by simp [coppicelaw9_CutAlways.j1] at h, fun _ _ _ r h => by simp [coppicelaw9_CutAlways.j2] at h⟩
  | k + 1 => by
    obtain ⟨ih0, ih1, ih2⟩ := coppicelaw9_CutAlways.mono_l k
    refine ⟨?_, ?_, ?_⟩
    · intro y0 y1 y2 y3 y4 y5 y6
      unfold coppicelaw9_CutAlways.j0
      repeat' first
      | (with_reducible exact ih0 _ _ _ _ _ _ _)
      | (with_reducible exact ih1 _ _ _ _)
      | (with_reducible exact ih2 _ _ _)
      | (with_reducible exact coppicelaw9_laid.mono _ _ _ _ _ _)
      | (with_reducible exact coppicelaw9_rises.mono _ _)
      | (with_reducible exact coppiceref4_Size.mono _ _)
      | (with_reducible exact cut_JoinLeaves.mono _ _ _)
      | (with_reducible exact cut_Leaf.mono _ _)
      | (with_reducible exact leaf_Size.mono _ _)
      | (with_reducible exact LeO.refl _)
      | (with_reducible exact LeO.none _)
      | (with_reducible refine LeO.ite ?_ ?_)
      | (with_reducible refine LeO.bind ?_ (fun _ => ?_))
      | exact ih0 _ _ _ _ _ _ _
      | exact ih1 _ _ _ _
      | exact ih2 _ _ _
      | exact coppicelaw9_laid.mono _ _ _ _ _ _
      | exact coppicelaw9_rises.mono _ _
      | exact coppiceref4_Size.mono _ _
      | exact cut_JoinLeaves.mono _ _ _
      | exact cut_Leaf.mono _ _
      | exact leaf_Size.mono _ _
      | exact LeO.none _
      | refine LeO.ite ?_ ?_
      | refine LeO.bind ?_ (fun _ => ?_)
    · intro y0 y1 y2 y3
      unfold coppicelaw9_CutAlways.j1
      repeat' first
      | (with_reducible exact ih0 _ _ _ _ _ _ _)
      | (with_reducible exact ih1 _ _ _ _)
      | (with_reducible exact ih2 _ _ _)
      | (with_reducible exact coppicelaw9_laid.mono _ _ _ _ _ _)
      | (with_reducible exact coppicelaw9_rises.mono _ _)
      | (with_reducible exact coppiceref4_Size.mono _ _)
      | (with_reducible exact cut_JoinLeaves.mono _ _ _)
      | (with_reducible exact cut_Leaf.mono _ _)
      | (with_reducible exact leaf_Size.mono _ _)
      | (with_reducible exact LeO.refl _)
      | (with_reducible exact LeO.none _)
      | (with_reducible refine LeO.ite ?_ ?_)
      | (with_reducible refine LeO.bind ?_ (fun _ => ?_))
      | exact ih0 _ _ _ _ _ _ _
      | exact ih1 _ _ _ _
      | exact ih2 _ _ _
      | exact coppicelaw9_laid.mono _ _ _ _ _ _
      | exact coppicelaw9_rises.mono _ _
      | exact coppiceref4_Size.mono _ _
      | exact cut_JoinLeaves.mono _ _ _
      | exact cut_Leaf.mono _ _
      | exact leaf_Size.mono _ _
      | exact LeO.none _
      | refine LeO.ite ?_ ?_
      | refine LeO.bind ?_ (fun _ => ?_)
    · intro y0 y1 y2
      unfold coppicelaw9_CutAlways.j2
      repeat' first
      | (with_reducible exact ih0 _ _ _ _ _ _ _)
      | (with_reducible exact ih1 _ _ _ _)
      | (with_reducible exact ih2 _ _ _)
      | (with_reducible exact coppicelaw9_laid.mono _ _ _ _ _ _)
      | (with_reducible exact coppicelaw9_rises.mono _ _)
      | (with_reducible exact coppiceref4_Size.mono _ _)
      | (with_reducible exact cut_JoinLeaves.mono _ _ _)
      | (with_reducible exact cut_Leaf.mono _ _)
      | (with_reducible exact leaf_Size.mono _ _)
      | (with_reducible exact LeO.refl _)
      | (with_reducible exact LeO.none _)
      | (with_reducible refine LeO.ite ?_ ?_)
      | (with_reducible refine LeO.bind ?_ (fun _ => ?_))
      | exact ih0 _ _ _ _ _ _ _
      | exact ih1 _ _ _ _
      | exact ih2 _ _ _
      | exact coppicelaw9_laid.mono _ _ _ _ _ _
      | exact coppicelaw9_rises.mono _ _
      | exact coppiceref4_Size.mono _ _
      | exact cut_JoinLeaves.mono _ _ _
      | exact cut_Leaf.mono _ _
      | exact leaf_Size.mono _ _
      | exact LeO.none _
      | refine LeO.ite ?_ ?_
      | refine LeO.bind ?_ (fun _ => ?_)
theorem coppicelaw9_CutAlways.mono : ∀ a0 a1 a2 a3 a4 k, LeO (coppicelaw9_CutAlways.f k a0 a1 a2 a3 a4) (coppicelaw9_CutAlways.f (k + 1) a0 a1 a2 a3 a4) := by
  intro a0 a1 a2 a3 a4 k
  obtain ⟨ih0, ih1, ih2⟩ := coppicelaw9_CutAlways.mono_l k
  unfold coppicelaw9_CutAlways.f
  repeat' first
      | (with_reducible exact ih0 _ _ _ _ _ _ _)
      | (with_reducible exact ih1 _ _ _ _)
      | (with_reducible exact ih2 _ _ _)
      | (with_reducible exact coppicelaw9_laid.mono _ _ _ _ _ _)
      | (with_reducible exact coppicelaw9_rises.mono _ _)
      | (with_reducible exact coppiceref4_Size.mono _ _)
      | (with_reducible exact cut_JoinLeaves.mono _ _ _)
      | (with_reducible exact cut_Leaf.mono _ _)
      | (with_reducible exact leaf_Size.mono _ _)
      | (with_reducible exact LeO.refl _)
      | (with_reducible exact LeO.none _)
      | (with_reducible refine LeO.ite ?_ ?_)
      | (with_reducible refine LeO.bind ?_ (fun _ => ?_))
      | exact ih0 _ _ _ _ _ _ _
      | exact ih1 _ _ _ _
      | exact ih2 _ _ _
      | exact coppicelaw9_laid.mono _ _ _ _ _ _
      | exact coppicelaw9_rises.mono _ _
      | exact coppiceref4_Size.mono _ _
      | exact cut_JoinLeaves.mono _ _ _
      | exact cut_Leaf.mono _ _
      | exact leaf_Size.mono _ _
      | exact LeO.none _
      | refine LeO.ite ?_ ?_
      | refine LeO.bind ?_ (fun _ => ?_)
def coppicelaw9_CutAlways.T15 : Bool × List (List Nat × List Nat) := (true, [([], []), ([], []), ([0, 1], [0, 1]), ([], []), ([], []), ([3, 4], [3, 4]), ([2, 5], [2, 5]), ([6, 6, 0, 1, 2, 3, 4, 5, 6], [6])])
def coppicelaw9_CutAlways.B15 : List Nat := [0, 0, 3, 0, 0, 24, 63, 127]
theorem coppicelaw9_CutAlways.tab15 : rtab .any (opsOf Try.f8 15) = coppicelaw9_CutAlways.T15 := by kernel_rfl
theorem coppicelaw9_CutAlways.bits15 : waitsOk coppicelaw9_CutAlways.T15.2 coppicelaw9_CutAlways.B15 = true := by kernel_rfl
set_option maxHeartbeats 8000000 in
set_option maxRecDepth 100000 in
theorem coppicelaw9_CutAlways.calls (k : Nat) (P0_ : Nat → Prop) (A0 : Option Addr) (c0 : Nat) (l0 : List (S38)) (P1_0_ : Nat → Prop) (A1_0 : Option Addr) (c1_0 : Nat) (l1_0 : List Int) (P1_1_ : Nat → Prop) (A1_1 : Option Addr) (c1_1 : Nat) (l1_1 : List Int) (a1_2 : Int) (a1_3 : Int) (r : Bool) (w : World) (hs0 : Kd.V k38 38 w w.heap.size (fun k_ => P0_ k_) (.slice A0 l0.length c0) l0) (hs1_0 : Kd.V (Kd.int .u8) 5 w w.heap.size (fun k_ => P1_0_ k_) (.slice A1_0 l1_0.length c1_0) l1_0) (hs1_1 : Kd.V (Kd.int .u8) 5 w w.heap.size (fun k_ => P1_1_ k_) (.slice A1_1 l1_1.length c1_1) l1_1) (h : coppicelaw9_CutAlways.f k l0 l1_0 l1_1 a1_2 a1_3 = some r) :
    Calls Try.prog 8 #[.slice A0 l0.length c0, .agg #[.slice A1_0 l1_0.length c1_0, .slice A1_1 l1_1.length c1_1, .int .i64 a1_2, .int .i64 a1_3]] w fun e w' => e = .returned (.bool r) ∧ Below w.heap.size w w' := by
  have hu38 := Try.underlying38
  have HO0 := Aside0.mk (show Kd.V k38 38 w w.heap.size (fun k_ => ((P0_ k_ ∨ P1_0_ k_ ∨ P1_1_ k_) ∨ w.heap.size ≤ k_)) (.slice A0 l0.length c0) l0 from Kd.V_mono hs0 (fun k_ hk => .inl (.inl hk)))
  have HO1_0 := Aside0.mk (show Kd.V (Kd.int .u8) 5 w w.heap.size (fun k_ => ((P0_ k_ ∨ P1_0_ k_ ∨ P1_1_ k_) ∨ w.heap.size ≤ k_)) (.slice A1_0 l1_0.length c1_0) l1_0 from Kd.V_mono hs1_0 (fun k_ hk => .inl (.inr (.inl hk))))
  have HO1_1 := Aside0.mk (show Kd.V (Kd.int .u8) 5 w w.heap.size (fun k_ => ((P0_ k_ ∨ P1_0_ k_ ∨ P1_1_ k_) ∨ w.heap.size ≤ k_)) (.slice A1_1 l1_1.length c1_1) l1_1 from Kd.V_mono hs1_1 (fun k_ hk => .inl (.inr (.inr hk))))
  have HB := Aside0.mk (Below.refl w.heap.size w)
  have H : ((coppicelaw9_first.f).bind fun t333 => (if (l0.length : Int) > 400 then (coppicelaw9_CutAlways.j0 k l0 t333 true l1_0 l1_1 a1_2 a1_3) else ((coppicelaw9_rises.f k l0).bind fun t334 => (if t334 = true then ((coppicelaw9_rises.f k (([(⟨l1_0, l1_1, a1_2, a1_3⟩ : S38)] : List (S38)))).bind fun t338 => (coppicelaw9_CutAlways.j0 k l0 t333 (!t338) l1_0 l1_1 a1_2 a1_3)) else (coppicelaw9_CutAlways.j0 k l0 t333 true l1_0 l1_1 a1_2 a1_3))))) = some r := h
  clear h
  replace H := Option.bind_eq_some_iff.mp H
  obtain ⟨t333, A30, H⟩ := H
  replace H : (if (l0.length : Int) > 400 then (coppicelaw9_CutAlways.j0 k l0 t333 true l1_0 l1_1 a1_2 a1_3) else ((coppicelaw9_rises.f k l0).bind fun t334 => (if t334 = true then ((coppicelaw9_rises.f k (([(⟨l1_0, l1_1, a1_2, a1_3⟩ : S38)] : List (S38)))).bind fun t338 => (coppicelaw9_CutAlways.j0 k l0 t333 (!t338) l1_0 l1_1 a1_2 a1_3)) else (coppicelaw9_CutAlways.j0 k l0 t333 true l1_0 l1_1 a1_2 a1_3)))) = some r := H
  have A3 := Aside0.mk A30
  clear A30
  have HC4 := Aside0.mk H
  clear H
  go_enter Try.func8, Try.ntmps8
  go_upto_region 2 with (first | ((with_reducible refine gate_dst (N := 3) rfl ?_); (try (refine gate_guard (by rfl) ?_; dsimp only)); refine box_event ?hg (N := 3) ?hd (cs := #[.slice A1_0 l1_0.length c1_0, .slice A1_1 l1_1.length c1_1, .int .i64 a1_2, .int .i64 a1_3]) (t := 38) ?hr ?_; (case hd => rfl); (case hg => rfl); (case hr => first | (go_simp; done) | (go_simp; rfl)); intro gb332 hg w5 hbox hb; have n0_ := Aside0.mk (Kd.V_below (Kd.V_elderB (by (with_reducible repeat (first | apply Kd.V_alloc | apply Kd.V_drewN | apply Kd.V_drew)); exact HO0.out) gb332 (Nat.le_of_eq hg.symm)) hb); have n1_ := Aside0.mk (Kd.V_below (Kd.V_elderB (by (with_reducible repeat (first | apply Kd.V_alloc | apply Kd.V_drewN | apply Kd.V_drew)); exact HO1_0.out) gb332 (Nat.le_of_eq hg.symm)) hb); have n2_ := Aside0.mk (Kd.V_below (Kd.V_elderB (by (with_reducible repeat (first | apply Kd.V_alloc | apply Kd.V_drewN | apply Kd.V_drew)); exact HO1_1.out) gb332 (Nat.le_of_eq hg.symm)) hb); have n3_ := Aside0.mk (below_step (by repeat (first | (with_reducible first | exact HB.out | apply below_alloc | apply pw_below_drewN | apply below_drew1) | exact HB.out)) hb); have n4_ := Aside0.mk (hbox); have n5_ := Aside0.mk ((by rw [hg]; exact (below_size (by repeat (first | (with_reducible first | exact HB.out | apply below_alloc | apply pw_below_drewN | apply below_drew1) | exact HB.out))) : w.heap.size ≤ gb332)); have n6_ := Aside0.mk ((by rw [hg]; exact (below_size (by repeat (first | (with_reducible first | exact HB.out | apply below_alloc | apply pw_below_drewN | apply below_drew1) | exact HB.out))) : w.heap.size ≤ gb332)); clear HO0; clear HO1_0; clear HO1_1; clear HB; have HO0 := n0_; have HO1_0 := n1_; have HO1_1 := n2_; have HB := n3_; have BK332 := n4_; have GW332 := n5_; have GE332 := n6_; clear n0_ n1_ n2_ n3_ n4_ n5_ n6_; clear hb hbox hg) | ((with_reducible refine gate_callee (f := 11) rfl ?_); refine goesL_ (some 12) rfl rfl Try.func11 (by kernel_rfl) rfl #[] rfl (by (try simp only [List.map_toArray, List.map_cons, List.map_nil]); first | done | rfl | (simp only [List.length_drop, List.length_take]; rfl)) ?_; (with_reducible refine (coppicelaw9_first.calls  t333 _ A3.out).mono ?_); rintro e w6 ⟨rfl, hb⟩; refine ⟨_, rfl, ?_⟩; have n0_ := Aside0.mk (Kd.V_below (by (with_reducible repeat (first | apply Kd.V_alloc | apply Kd.V_drewN | apply Kd.V_drew)); exact HO0.out) hb); have n1_ := Aside0.mk (Kd.V_below (by (with_reducible repeat (first | apply Kd.V_alloc | apply Kd.V_drewN | apply Kd.V_drew)); exact HO1_0.out) hb); have n2_ := Aside0.mk (Kd.V_below (by (with_reducible repeat (first | apply Kd.V_alloc | apply Kd.V_drewN | apply Kd.V_drew)); exact HO1_1.out) hb); have n3_ := Aside0.mk (blk_below (g := gb332) (o := .cells #[.slice A1_0 l1_0.length c1_0, .slice A1_1 l1_1.length c1_1, .int .i64 a1_2, .int .i64 a1_3] 38 (0, 0)) (by (with_reducible repeat (first | refine blk_drewN ?_ _ | refine blk_drew ?_ | refine blk_alloc ?_ _)); exact BK332.out) hb); have n4_ := Aside0.mk (below_step (by repeat (first | (with_reducible first | exact HB.out | apply below_alloc | apply pw_below_drewN | apply below_drew1 | refine below_set ?_ GE332.out) | exact HB.out)) hb); clear HO0; clear HO1_0; clear HO1_1; clear BK332; clear HB; have HO0 := n0_; have HO1_0 := n1_; have HO1_1 := n2_; have BK332 := n3_; have HB := n4_; clear n0_ n1_ n2_ n3_ n4_; (try clear hb); (try clear hb2); (try clear hk); (try clear hi)))
  (try simp only [Act.put, List.setIfInBounds_toArray, List.set_cons_zero, List.set_cons_succ])
  go_cut [26] (fun v26 wc => ∃ (kq : Nat) (x26_3 : Bool), v26 = .bool x26_3 ∧ Aside0 (coppicelaw9_CutAlways.j0 kq l0 t333 x26_3 l1_0 l1_1 a1_2 a1_3 = some r) ∧ Aside0 (kq ≤ k) ∧ Aside0 (Kd.V k38 38 wc w.heap.size (fun k_ => ((P0_ k_ ∨ P1_0_ k_ ∨ P1_1_ k_) ∨ w.heap.size ≤ k_) ∧ k_ ≠ gb332) (.slice A0 l0.length c0) l0) ∧ Aside0 (Kd.V (Kd.int .u8) 5 wc w.heap.size (fun k_ => ((P0_ k_ ∨ P1_0_ k_ ∨ P1_1_ k_) ∨ w.heap.size ≤ k_) ∧ k_ ≠ gb332) (.slice A1_0 l1_0.length c1_0) l1_0) ∧ Aside0 (Kd.V (Kd.int .u8) 5 wc w.heap.size (fun k_ => ((P0_ k_ ∨ P1_0_ k_ ∨ P1_1_ k_) ∨ w.heap.size ≤ k_) ∧ k_ ≠ gb332) (.slice A1_1 l1_1.length c1_1) l1_1) ∧ Aside0 (wc.heap[gb332]? = some (.cells #[(.slice A1_0 l1_0.length c1_0), (.slice A1_1 l1_1.length c1_1), .int .i64 a1_2, .int .i64 a1_3] 38 (0, 0))) ∧ Aside0 (Below w.heap.size w wc))
  case first =>
    have H := HC4.out
    clear HC4
    by_cases c7 : (l0.length : Int) > 400
    · rw [if_pos c7] at H
      have c7b0 : decide (400 < (l0.length : Int)) = true := decide_eq_true c7
      have c7b1 : decide (400 < l0.length) = true := decide_eq_true (by omega)
      clear c7
      (first | rw [c7b0] | (simp only [i64_w, i32_w]; rw [c7b0]) | skip)
      have H' := Aside0.mk H
      clear H
      go_wp2
      go_meet
      case rel => exact ⟨_, (true), (by first | rfl | (simp; done) | (simp [*]; done)), H', ⟨by first | omega | exact Nat.le_refl _⟩, ⟨by (with_reducible repeat (first | apply Kd.V_alloc | apply Kd.V_drewN | apply Kd.V_drew)); exact HO0.out⟩, ⟨by (with_reducible repeat (first | apply Kd.V_alloc | apply Kd.V_drewN | apply Kd.V_drew)); exact HO1_0.out⟩, ⟨by (with_reducible repeat (first | apply Kd.V_alloc | apply Kd.V_drewN | apply Kd.V_drew)); exact HO1_1.out⟩, ⟨by (with_reducible repeat (first | refine blk_drewN ?_ _ | refine blk_drew ?_ | refine blk_alloc ?_ _)); exact BK332.out⟩, ⟨by repeat (first | (with_reducible first | exact HB.out | apply below_alloc | apply pw_below_drewN | apply below_drew1 | refine below_set ?_ GE332.out) | exact HB.out)⟩⟩
    · rw [if_neg c7] at H
      have c7b0 : decide (400 < (l0.length : Int)) = false := decide_eq_false c7
      have c7b1 : decide (400 < l0.length) = false := decide_eq_false (by omega)
      clear c7
      (first | rw [c7b0] | (simp only [i64_w, i32_w]; rw [c7b0]) | skip)
      replace H := Option.bind_eq_some_iff.mp H
      obtain ⟨t334, A80, H⟩ := H
      replace H : (if t334 = true then ((coppicelaw9_rises.f k (([(⟨l1_0, l1_1, a1_2, a1_3⟩ : S38)] : List (S38)))).bind fun t338 => (coppicelaw9_CutAlways.j0 k l0 t333 (!t338) l1_0 l1_1 a1_2 a1_3)) else (coppicelaw9_CutAlways.j0 k l0 t333 true l1_0 l1_1 a1_2 a1_3)) = some r := H
      have A8 := Aside0.mk A80
      clear A80
      by_cases c9 : t334 = true
      · subst c9
        have H1 : ((coppicelaw9_rises.f k (([(⟨l1_0, l1_1, a1_2, a1_3⟩ : S38)] : List (S38)))).bind fun t338 => (coppicelaw9_CutAlways.j0 k l0 t333 (!t338) l1_0 l1_1 a1_2 a1_3)) = some r := by rw [if_pos rfl] at H; exact H
        clear H
        have H := H1
        clear H1
        obtain ⟨y335, hy335⟩ : ∃ y_ : List (S38), y_ = (([(⟨l1_0, l1_1, a1_2, a1_3⟩ : S38)] : List (S38))) := ⟨_, rfl⟩
        replace H : ((coppicelaw9_rises.f k y335).bind fun t338 => (coppicelaw9_CutAlways.j0 k l0 t333 (!t338) l1_0 l1_1 a1_2 a1_3)) = some r := by first | (rw [hy335]; with_reducible exact H) | (have H2_ := (Option.bind_some _ _).symm.trans H; rw [hy335]; with_reducible exact H2_) | (have H2_ := (Option.bind_some _ _).symm.trans H; with_reducible exact H2_) | with_reducible exact H | (rw [hy335]; exact H) | exact H
        have Ny335 := Aside0.mk hy335
        clear hy335
        replace H := Option.bind_eq_some_iff.mp H
        obtain ⟨t338, A100, H⟩ := H
        replace H : (coppicelaw9_CutAlways.j0 k l0 t333 (!t338) l1_0 l1_1 a1_2 a1_3) = some r := H
        have A10 := Aside0.mk A100
        clear A100
        have H' := Aside0.mk H
        clear H
        go_wp2_with (first | (go_at_call 26; (with_reducible refine (coppicelaw9_rises.calls k _ _ l0 true _ ?side1 ?side2 A8.out).mono ?_); (case side1 => repeat (first | exact (Kd.V_reads' HO0.out).2.2 | (with_reducible refine Kd.C_alloc ?_ _) | (with_reducible refine Kd.C_drewN ?_ _) | (with_reducible refine Kd.C_drew ?_))); (case side2 => exact (Kd.V_reads' HO0.out).2.1); rintro e w' ⟨rfl, ⟨nd, rfl⟩⟩; have hcz11_0 : w6.cell? ⟨gb332, 0, none⟩ = some (.slice A1_0 l1_0.length c1_0) := (blk_cell BK332.out 0).trans rfl; have hcz11_1 : w6.cell? ⟨gb332, 1, none⟩ = some (.slice A1_1 l1_1.length c1_1) := (blk_cell BK332.out 1).trans rfl; have hcz11_2 : w6.cell? ⟨gb332, 2, none⟩ = some (.int .i64 a1_2) := (blk_cell BK332.out 2).trans rfl; have hcz11_3 : w6.cell? ⟨gb332, 3, none⟩ = some (.int .i64 a1_3) := (blk_cell BK332.out 3).trans rfl; have hfz11_0 := blk_frozen BK332.out 0; have hfz11_1 := blk_frozen BK332.out 1; have hfz11_2 := blk_frozen BK332.out 2; have hfz11_3 := blk_frozen BK332.out 3) | ((with_reducible refine gate_dst (N := 23) rfl ?_); (try (refine gate_guard (by rfl) ?_; dsimp only)); refine Kd.N_lit k38 _ 38 ?hg (N' := 23) ?hd (xs := ([(⟨l1_0, l1_1, a1_2, a1_3⟩ : S38)] : List (S38))) (inner := [.slice A1_0 l1_0.length c1_0, .slice A1_1 l1_1.length c1_1, .int .i64 a1_2, .int .i64 a1_3]) (ok := (fun k_ => ((P0_ k_ ∨ P1_0_ k_ ∨ P1_1_ k_) ∨ w.heap.size ≤ k_) ∧ k_ ≠ gb332)) (okp := (fun k_ => ((P0_ k_ ∨ P1_0_ k_ ∨ P1_1_ k_) ∨ w.heap.size ≤ k_) ∧ k_ ≠ gb332)) ?hr ?hp (fun _ hk => hk) ((show ∀ k_, w6.heap.size ≤ k_ → (fun k_ => ((P0_ k_ ∨ P1_0_ k_ ∨ P1_1_ k_) ∨ w.heap.size ≤ k_) ∧ k_ ≠ gb332) k_ from fun k_ hk => ⟨(.inr (Nat.le_trans (below_size (by repeat (first | (with_reducible first | exact HB.out | apply below_alloc | apply pw_below_drewN | apply below_drew1 | refine below_set ?_ GE332.out) | exact HB.out))) hk)), Kd.freshB (g := gb332) (o := .cells #[.slice A1_0 l1_0.length c1_0, .slice A1_1 l1_1.length c1_1, .int .i64 a1_2, .int .i64 a1_3] 38 (0, 0)) (by (with_reducible repeat (first | refine blk_drewN ?_ _ | refine blk_drew ?_ | refine blk_alloc ?_ _)); exact BK332.out) k_ hk⟩) _ (Nat.le_refl _)) (Below.refl _ _) (Nat.le_refl _) (by simp) ?_; (case hd => rfl); (case hg => rfl); (case hr => first | (go_simp; done) | (go_simp; rfl)); (case hp => exact (Reps.c4 (show Kd.FK k38 _ _ (⟨l1_0, l1_1, a1_2, a1_3⟩ : S38) [.slice A1_0 l1_0.length c1_0, .slice A1_1 l1_1.length c1_1, .int .i64 a1_2, .int .i64 a1_3] from (k38_mkF _ _ (⟨l1_0, l1_1, a1_2, a1_3⟩ : S38) (Kd.V_reads' (Kd.V_mono (ok' := (fun k_ => ((P0_ k_ ∨ P1_0_ k_ ∨ P1_1_ k_) ∨ w.heap.size ≤ k_) ∧ k_ ≠ gb332)) (HO1_0.out) (fun k_ hk => ⟨hk.1, hk.2⟩))).2.1 (Kd.V_F (Kd.V_mono (ok' := (fun k_ => ((P0_ k_ ∨ P1_0_ k_ ∨ P1_1_ k_) ∨ w.heap.size ≤ k_) ∧ k_ ≠ gb332)) (HO1_0.out) (fun k_ hk => ⟨hk.1, hk.2⟩))) (Kd.V_reads' (Kd.V_mono (ok' := (fun k_ => ((P0_ k_ ∨ P1_0_ k_ ∨ P1_1_ k_) ∨ w.heap.size ≤ k_) ∧ k_ ≠ gb332)) (HO1_1.out) (fun k_ hk => ⟨hk.1, hk.2⟩))).2.1 (Kd.V_F (Kd.V_mono (ok' := (fun k_ => ((P0_ k_ ∨ P1_0_ k_ ∨ P1_1_ k_) ∨ w.heap.size ≤ k_) ∧ k_ ≠ gb332)) (HO1_1.out) (fun k_ hk => ⟨hk.1, hk.2⟩))))) (Reps.none _ _))); intro v336 w12 ho13 hb hg_ hnew_; clear hg_ hnew_; (first | rw [← Ny335.out] at ho13 | (simp only [Int.reduceToNat] at ho13; rw [← Ny335.out] at ho13)); have n0_ := Aside0.mk (Kd.V_elder' (by (with_reducible repeat (first | apply Kd.V_alloc | apply Kd.V_drewN | apply Kd.V_drew)); exact HO0.out) (Kd.N_base ho13) hb); have n1_ := Aside0.mk (Kd.V_elder' (by (with_reducible repeat (first | apply Kd.V_alloc | apply Kd.V_drewN | apply Kd.V_drew)); exact HO1_0.out) (Kd.N_base ho13) hb); have n2_ := Aside0.mk (Kd.V_elder' (by (with_reducible repeat (first | apply Kd.V_alloc | apply Kd.V_drewN | apply Kd.V_drew)); exact HO1_1.out) (Kd.N_base ho13) hb); have n3_ := Aside0.mk (Kd.N_lower ho13 (below_size (by repeat (first | (with_reducible first | exact HB.out | apply below_alloc | apply pw_below_drewN | apply below_drew1 | refine below_set ?_ GE332.out) | exact HB.out)))); have n4_ := Aside0.mk (blk_below (g := gb332) (o := .cells #[.slice A1_0 l1_0.length c1_0, .slice A1_1 l1_1.length c1_1, .int .i64 a1_2, .int .i64 a1_3] 38 (0, 0)) (by (with_reducible repeat (first | refine blk_drewN ?_ _ | refine blk_drew ?_ | refine blk_alloc ?_ _)); exact BK332.out) hb); have n5_ := Aside0.mk (below_step (by repeat (first | (with_reducible first | exact HB.out | apply below_alloc | apply pw_below_drewN | apply below_drew1 | refine below_set ?_ GE332.out) | exact HB.out)) hb); clear HO0; clear HO1_0; clear HO1_1; clear BK332; clear HB; have HO0 := n0_; have HO1_0 := n1_; have HO1_1 := n2_; have HO337 := n3_; have BK332 := n4_; have HB := n5_; clear n0_ n1_ n2_ n3_ n4_ n5_; clear hb ho13; obtain ⟨Ao14, co14, eo14⟩ := Kd.N_slice HO337.out; subst eo14) | (go_at_call 26; (with_reducible refine (coppicelaw9_rises.calls k _ _ y335 t338 _ ?side1 ?side2 A10.out).mono ?_); (case side1 => repeat (first | exact (Kd.N_reads' HO337.out).2.2 | (with_reducible refine Kd.C_alloc ?_ _) | (with_reducible refine Kd.C_drewN ?_ _) | (with_reducible refine Kd.C_drew ?_))); (case side2 => exact (Kd.N_reads' HO337.out).2.1); rintro e w' ⟨rfl, ⟨nd, rfl⟩⟩))
        go_meet
        case rel => exact ⟨_, (!t338), (by first | rfl | (simp; done) | (simp [*]; done)), H', ⟨by first | omega | exact Nat.le_refl _⟩, ⟨by (with_reducible repeat (first | apply Kd.V_alloc | apply Kd.V_drewN | apply Kd.V_drew)); exact Kd.V_mono HO0.out (fun _ hk => ⟨hk.1.1, hk.1.2⟩)⟩, ⟨by (with_reducible repeat (first | apply Kd.V_alloc | apply Kd.V_drewN | apply Kd.V_drew)); exact Kd.V_mono HO1_0.out (fun _ hk => ⟨hk.1.1, hk.1.2⟩)⟩, ⟨by (with_reducible repeat (first | apply Kd.V_alloc | apply Kd.V_drewN | apply Kd.V_drew)); exact Kd.V_mono HO1_1.out (fun _ hk => ⟨hk.1.1, hk.1.2⟩)⟩, ⟨by (with_reducible repeat (first | refine blk_drewN ?_ _ | refine blk_drew ?_ | refine blk_alloc ?_ _)); exact BK332.out⟩, ⟨by repeat (first | (with_reducible first | exact HB.out | apply below_alloc | apply pw_below_drewN | apply below_drew1 | refine below_set ?_ GE332.out) | exact HB.out)⟩⟩
      · replace c9 := Bool.eq_false_iff.mpr c9
        subst c9
        have H1 : (coppicelaw9_CutAlways.j0 k l0 t333 true l1_0 l1_1 a1_2 a1_3) = some r := by rw [if_neg (show ¬ (false = true) by decide)] at H; exact H
        clear H
        have H := H1
        clear H1
        have H' := Aside0.mk H
        clear H
        go_wp2_with (first | (go_at_call 26; (with_reducible refine (coppicelaw9_rises.calls k _ _ l0 false _ ?side1 ?side2 A8.out).mono ?_); (case side1 => repeat (first | exact (Kd.V_reads' HO0.out).2.2 | (with_reducible refine Kd.C_alloc ?_ _) | (with_reducible refine Kd.C_drewN ?_ _) | (with_reducible refine Kd.C_drew ?_))); (case side2 => exact (Kd.V_reads' HO0.out).2.1); rintro e w' ⟨rfl, ⟨nd, rfl⟩⟩))
        go_meet
        case rel => exact ⟨_, (true), (by first | rfl | (simp; done) | (simp [*]; done)), H', ⟨by first | omega | exact Nat.le_refl _⟩, ⟨by (with_reducible repeat (first | apply Kd.V_alloc | apply Kd.V_drewN | apply Kd.V_drew)); exact HO0.out⟩, ⟨by (with_reducible repeat (first | apply Kd.V_alloc | apply Kd.V_drewN | apply Kd.V_drew)); exact HO1_0.out⟩, ⟨by (with_reducible repeat (first | apply Kd.V_alloc | apply Kd.V_drewN | apply Kd.V_drew)); exact HO1_1.out⟩, ⟨by (with_reducible repeat (first | refine blk_drewN ?_ _ | refine blk_drew ?_ | refine blk_alloc ?_ _)); exact BK332.out⟩, ⟨by repeat (first | (with_reducible first | exact HB.out | apply below_alloc | apply pw_below_drewN | apply below_drew1 | refine below_set ?_ GE332.out) | exact HB.out)⟩⟩
  case rest =>
    clear HC4
    try clear c1
    try clear p2
    try clear c4
    try clear c7
    try clear c7b0
    try clear c7b1
    try clear c8
    try clear c9
    try clear c11
    try clear hcz11_0
    try clear hcz11_1
    try clear hcz11_2
    try clear hcz11_3
    try clear hfz11_0
    try clear hfz11_1
    try clear hfz11_2
    try clear hfz11_3
    obtain ⟨kq, x26_3, rfl, HA, HJ3, HO_0, HO_333000, HO_333001, BK332, HB⟩ := hcut
    cases kq with
    | zero => exact absurd HA.out (by simp [coppicelaw9_CutAlways.j0])
    | succ kj3 =>
      have H := HA.out
      clear HA
      simp only [coppicelaw9_CutAlways.j0] at H
      by_cases c15 : x26_3 = true
      · subst c15
        have H1 : (some t333) = some r := by rw [if_pos rfl] at H; exact H
        clear H
        have H := H1
        clear H1
        obtain rfl := Option.some.inj H
        go_wp2
        go_ret
        exact ⟨by first | rfl | (simp [errW_none, errW_some] <;> rfl) | (simp [*, errW_none, errW_some] <;> rfl), by repeat (first | (with_reducible first | exact HB.out | apply below_alloc | apply pw_below_drewN | apply below_drew1 | refine below_set ?_ GE332.out) | exact HB.out)⟩
      · replace c15 := Bool.eq_false_iff.mpr c15
        subst c15
        have H1 : ((coppicelaw9_laid.f kj3 l0 l1_0 l1_1 a1_2 a1_3).bind fun t339 => ((leaf_Size.f kj3 t339).bind fun t342 => ((cut_Leaf.f kj3 t339).bind fun t343 => (if t333 = true then ((coppiceref4_Size.f kj3 t339).bind fun t344 => (coppicelaw9_CutAlways.j1 kj3 t339 t342 t343 (t342 != t344))) else (coppicelaw9_CutAlways.j1 kj3 t339 t342 t343 true))))) = some r := by rw [if_neg (show ¬ (false = true) by decide)] at H; exact H
        clear H
        have H := H1
        clear H1
        replace H := Option.bind_eq_some_iff.mp H
        obtain ⟨t339, A160, H⟩ := H
        replace H : ((leaf_Size.f kj3 t339).bind fun t342 => ((cut_Leaf.f kj3 t339).bind fun t343 => (if t333 = true then ((coppiceref4_Size.f kj3 t339).bind fun t344 => (coppicelaw9_CutAlways.j1 kj3 t339 t342 t343 (t342 != t344))) else (coppicelaw9_CutAlways.j1 kj3 t339 t342 t343 true)))) = some r := H
        have A16 := Aside0.mk A160
        clear A160
        replace H := Option.bind_eq_some_iff.mp H
        obtain ⟨t342, A170, H⟩ := H
        replace H : ((cut_Leaf.f kj3 t339).bind fun t343 => (if t333 = true then ((coppiceref4_Size.f kj3 t339).bind fun t344 => (coppicelaw9_CutAlways.j1 kj3 t339 t342 t343 (t342 != t344))) else (coppicelaw9_CutAlways.j1 kj3 t339 t342 t343 true))) = some r := H
        have A17 := Aside0.mk A170
        clear A170
        replace H := Option.bind_eq_some_iff.mp H
        obtain ⟨t343, A180, H⟩ := H
        replace H : (if t333 = true then ((coppiceref4_Size.f kj3 t339).bind fun t344 => (coppicelaw9_CutAlways.j1 kj3 t339 t342 t343 (t342 != t344))) else (coppicelaw9_CutAlways.j1 kj3 t339 t342 t343 true)) = some r := H
        have A18 := Aside0.mk A180
        clear A180
        have HC19 := Aside0.mk H
        clear H
        have hcz20_0 : wc.cell? ⟨gb332, 0, none⟩ = some (.slice A1_0 l1_0.length c1_0) := (blk_cell BK332.out 0).trans rfl
        have hcz20_1 : wc.cell? ⟨gb332, 1, none⟩ = some (.slice A1_1 l1_1.length c1_1) := (blk_cell BK332.out 1).trans rfl
        have hcz20_2 : wc.cell? ⟨gb332, 2, none⟩ = some (.int .i64 a1_2) := (blk_cell BK332.out 2).trans rfl
        have hcz20_3 : wc.cell? ⟨gb332, 3, none⟩ = some (.int .i64 a1_3) := (blk_cell BK332.out 3).trans rfl
        have hfz20_0 := blk_frozen BK332.out 0
        have hfz20_1 := blk_frozen BK332.out 1
        have hfz20_2 := blk_frozen BK332.out 2
        have hfz20_3 := blk_frozen BK332.out 3
        go_upto_region 7 with (first | ((with_reducible refine gate_callee (f := 27) rfl ?_); refine goesL_ (some 30) rfl rfl Try.func27 (by kernel_rfl) rfl #[.slice A0 l0.length c0, .agg #[.slice A1_0 l1_0.length c1_0, .slice A1_1 l1_1.length c1_1, .int .i64 a1_2, .int .i64 a1_3]] rfl (by (try simp only [List.map_toArray, List.map_cons, List.map_nil]); first | done | rfl | (simp only [List.length_drop, List.length_take]; rfl)) ?_; (with_reducible refine (coppicelaw9_laid.calls kj3 (fun k_ => (((P0_ k_ ∨ P1_0_ k_ ∨ P1_1_ k_) ∨ w.heap.size ≤ k_) ∧ k_ ≠ gb332)) _ _ l0 (fun k_ => (((P0_ k_ ∨ P1_0_ k_ ∨ P1_1_ k_) ∨ w.heap.size ≤ k_) ∧ k_ ≠ gb332)) _ _ l1_0 (fun k_ => (((P0_ k_ ∨ P1_0_ k_ ∨ P1_1_ k_) ∨ w.heap.size ≤ k_) ∧ k_ ≠ gb332)) _ _ l1_1 a1_2 a1_3 t339 _ ?side1 ?side2 ?side3 A16.out).mono ?_); (case side1 => exact HO_0.out); (case side2 => exact HO_333000.out); (case side3 => exact HO_333001.out); rintro e w21 ⟨v340, rfl, ho0, hb⟩; refine ⟨_, rfl, ?_⟩; have n0_ := Aside0.mk (Kd.V_elder' (by (with_reducible repeat (first | apply Kd.V_alloc | apply Kd.V_drewN | apply Kd.V_drew)); exact HO_0.out) (Kd.N_base ho0) hb); have n1_ := Aside0.mk (Kd.V_elder' (by (with_reducible repeat (first | apply Kd.V_alloc | apply Kd.V_drewN | apply Kd.V_drew)); exact HO_333000.out) (Kd.N_base ho0) hb); have n2_ := Aside0.mk (Kd.V_elder' (by (with_reducible repeat (first | apply Kd.V_alloc | apply Kd.V_drewN | apply Kd.V_drew)); exact HO_333001.out) (Kd.N_base ho0) hb); have n3_ := Aside0.mk (Kd.N_lower (Kd.N_mono (ok' := fun k_ => ((P0_ k_ ∨ P1_0_ k_ ∨ P1_1_ k_) ∨ w.heap.size ≤ k_) ∧ k_ ≠ gb332) ho0 (fun k_ hk_ => ⟨Or.elim hk_ (fun hs_ => Or.elim hs_ (fun hs_ => hs_.1) (fun hs_ => Or.elim hs_ (fun hs_ => hs_.1) (fun hs_ => hs_.1))) (fun hn_ => (.inr (Nat.le_trans (below_size (by repeat (first | (with_reducible first | exact HB.out | apply below_alloc | apply pw_below_drewN | apply below_drew1 | refine below_set ?_ GE332.out) | exact HB.out))) hn_))), Or.elim hk_ (fun hs_ => Or.elim hs_ (fun hs_ => hs_.2) (fun hs_ => Or.elim hs_ (fun hs_ => hs_.2) (fun hs_ => hs_.2))) (fun hn_ => (Kd.freshB (g := gb332) (o := .cells #[.slice A1_0 l1_0.length c1_0, .slice A1_1 l1_1.length c1_1, .int .i64 a1_2, .int .i64 a1_3] 38 (0, 0)) (by (with_reducible repeat (first | refine blk_drewN ?_ _ | refine blk_drew ?_ | refine blk_alloc ?_ _)); exact BK332.out) k_ hn_))⟩)) (below_size (by repeat (first | (with_reducible first | exact HB.out | apply below_alloc | apply pw_below_drewN | apply below_drew1 | refine below_set ?_ GE332.out) | exact HB.out)))); have n4_ := Aside0.mk (blk_below (g := gb332) (o := .cells #[.slice A1_0 l1_0.length c1_0, .slice A1_1 l1_1.length c1_1, .int .i64 a1_2, .int .i64 a1_3] 38 (0, 0)) (by (with_reducible repeat (first | refine blk_drewN ?_ _ | refine blk_drew ?_ | refine blk_alloc ?_ _)); exact BK332.out) hb); have n5_ := Aside0.mk (below_step (by repeat (first | (with_reducible first | exact HB.out | apply below_alloc | apply pw_below_drewN | apply below_drew1 | refine below_set ?_ GE332.out) | exact HB.out)) hb); clear HO_0; clear HO_333000; clear HO_333001; clear BK332; clear HB; have HO_0 := n0_; have HO_333000 := n1_; have HO_333001 := n2_; have HO341 := n3_; have BK332 := n4_; have HB := n5_; clear n0_ n1_ n2_ n3_ n4_ n5_; (try clear hb); (try clear hb2); (try clear hk); (try clear hi); (try clear ho0); obtain ⟨Ao22, co22, eo22⟩ := Kd.N_slice HO341.out; subst eo22) | ((with_reducible refine gate_callee (f := 24) rfl ?_); refine goesL_ (some 32) rfl rfl Try.func24 (by kernel_rfl) rfl #[.slice Ao22 t339.length co22] rfl (by (try simp only [List.map_toArray, List.map_cons, List.map_nil]); first | done | rfl | (simp only [List.length_drop, List.length_take]; rfl)) ?_; (with_reducible refine (leaf_Size.calls kj3 _ _ t339 t342 _ ?side1 ?side2 A17.out).mono ?_); (case side1 => repeat (first | exact (Kd.N_reads' HO341.out).2.2 | (with_reducible refine Kd.C_alloc ?_ _) | (with_reducible refine Kd.C_drewN ?_ _) | (with_reducible refine Kd.C_drew ?_))); (case side2 => exact (Kd.N_reads' HO341.out).2.1); rintro e w23 ⟨rfl, hb⟩; refine ⟨_, rfl, ?_⟩; have n0_ := Aside0.mk (Kd.V_below (by (with_reducible repeat (first | apply Kd.V_alloc | apply Kd.V_drewN | apply Kd.V_drew)); exact HO_0.out) hb); have n1_ := Aside0.mk (Kd.V_below (by (with_reducible repeat (first | apply Kd.V_alloc | apply Kd.V_drewN | apply Kd.V_drew)); exact HO_333000.out) hb); have n2_ := Aside0.mk (Kd.V_below (by (with_reducible repeat (first | apply Kd.V_alloc | apply Kd.V_drewN | apply Kd.V_drew)); exact HO_333001.out) hb); have n3_ := Aside0.mk (Kd.N_below (by (with_reducible repeat (first | apply Kd.N_alloc | apply Kd.N_drewN | apply Kd.N_drew)); exact HO341.out) hb); have n4_ := Aside0.mk (blk_below (g := gb332) (o := .cells #[.slice A1_0 l1_0.length c1_0, .slice A1_1 l1_1.length c1_1, .int .i64 a1_2, .int .i64 a1_3] 38 (0, 0)) (by (with_reducible repeat (first | refine blk_drewN ?_ _ | refine blk_drew ?_ | refine blk_alloc ?_ _)); exact BK332.out) hb); have n5_ := Aside0.mk (below_step (by repeat (first | (with_reducible first | exact HB.out | apply below_alloc | apply pw_below_drewN | apply below_drew1 | refine below_set ?_ GE332.out) | exact HB.out)) hb); clear HO_0; clear HO_333000; clear HO_333001; clear HO341; clear BK332; clear HB; have HO_0 := n0_; have HO_333000 := n1_; have HO_333001 := n2_; have HO341 := n3_; have BK332 := n4_; have HB := n5_; clear n0_ n1_ n2_ n3_ n4_ n5_; (try clear hb); (try clear hb2); (try clear hk); (try clear hi)) | ((with_reducible refine gate_callee (f := 14) rfl ?_); refine goesL_ (some 34) rfl rfl Try.func14 (by kernel_rfl) rfl #[.slice Ao22 t339.length co22] rfl (by (try simp only [List.map_toArray, List.map_cons, List.map_nil]); first | done | rfl | (simp only [List.length_drop, List.length_take]; rfl)) ?_; (with_reducible refine (cut_Leaf.calls kj3 _ _ t339 t343 _ ?side1 ?side2 A18.out).mono ?_); (case side1 => repeat (first | exact (Kd.N_reads' HO341.out).2.2 | (with_reducible refine Kd.C_alloc ?_ _) | (with_reducible refine Kd.C_drewN ?_ _) | (with_reducible refine Kd.C_drew ?_))); (case side2 => exact (Kd.N_reads' HO341.out).2.1); rintro e w24 ⟨rfl, hb⟩; refine ⟨_, rfl, ?_⟩; have n0_ := Aside0.mk (Kd.V_below (by (with_reducible repeat (first | apply Kd.V_alloc | apply Kd.V_drewN | apply Kd.V_drew)); exact HO_0.out) hb); have n1_ := Aside0.mk (Kd.V_below (by (with_reducible repeat (first | apply Kd.V_alloc | apply Kd.V_drewN | apply Kd.V_drew)); exact HO_333000.out) hb); have n2_ := Aside0.mk (Kd.V_below (by (with_reducible repeat (first | apply Kd.V_alloc | apply Kd.V_drewN | apply Kd.V_drew)); exact HO_333001.out) hb); have n3_ := Aside0.mk (Kd.N_below (by (with_reducible repeat (first | apply Kd.N_alloc | apply Kd.N_drewN | apply Kd.N_drew)); exact HO341.out) hb); have n4_ := Aside0.mk (blk_below (g := gb332) (o := .cells #[.slice A1_0 l1_0.length c1_0, .slice A1_1 l1_1.length c1_1, .int .i64 a1_2, .int .i64 a1_3] 38 (0, 0)) (by (with_reducible repeat (first | refine blk_drewN ?_ _ | refine blk_drew ?_ | refine blk_alloc ?_ _)); exact BK332.out) hb); have n5_ := Aside0.mk (below_step (by repeat (first | (with_reducible first | exact HB.out | apply below_alloc | apply pw_below_drewN | apply below_drew1 | refine below_set ?_ GE332.out) | exact HB.out)) hb); clear HO_0; clear HO_333000; clear HO_333001; clear HO341; clear BK332; clear HB; have HO_0 := n0_; have HO_333000 := n1_; have HO_333001 := n2_; have HO341 := n3_; have BK332 := n4_; have HB := n5_; clear n0_ n1_ n2_ n3_ n4_ n5_; (try clear hb); (try clear hb2); (try clear hk); (try clear hi)))
        (try simp only [Act.put, List.setIfInBounds_toArray, List.set_cons_zero, List.set_cons_succ])
        go_cut [42] (fun v42 wc => ∃ (kq : Nat) (x42_18 : Bool), v42 = .bool x42_18 ∧ Aside0 (coppicelaw9_CutAlways.j1 kq t339 t342 t343 x42_18 = some r) ∧ Aside0 (kq ≤ kj3) ∧ Aside0 (Kd.N k38 38 wc w.heap.size (fun k_ => ((P0_ k_ ∨ P1_0_ k_ ∨ P1_1_ k_) ∨ w.heap.size ≤ k_) ∧ k_ ≠ gb332) (.slice Ao22 t339.length co22) t339) ∧ Aside0 (Kd.V (Kd.int .u8) 5 wc w.heap.size (fun k_ => ((P0_ k_ ∨ P1_0_ k_ ∨ P1_1_ k_) ∨ w.heap.size ≤ k_) ∧ some k_ ≠ ((.slice Ao22 t339.length co22) : Value).ownBlock ∧ k_ ≠ gb332) (.slice A1_0 l1_0.length c1_0) l1_0) ∧ Aside0 (Kd.V (Kd.int .u8) 5 wc w.heap.size (fun k_ => ((P0_ k_ ∨ P1_0_ k_ ∨ P1_1_ k_) ∨ w.heap.size ≤ k_) ∧ some k_ ≠ ((.slice Ao22 t339.length co22) : Value).ownBlock ∧ k_ ≠ gb332) (.slice A1_1 l1_1.length c1_1) l1_1) ∧ Aside0 (wc.heap[gb332]? = some (.cells #[(.slice A1_0 l1_0.length c1_0), (.slice A1_1 l1_1.length c1_1), .int .i64 a1_2, .int .i64 a1_3] 38 (0, 0))) ∧ Aside0 (Below w.heap.size w wc))
        case first =>
          have H := HC19.out
          clear HC19
          by_cases c25 : t333 = true
          · subst c25
            have H1 : ((coppiceref4_Size.f kj3 t339).bind fun t344 => (coppicelaw9_CutAlways.j1 kj3 t339 t342 t343 (t342 != t344))) = some r := by rw [if_pos rfl] at H; exact H
            clear H
            have H := H1
            clear H1
            replace H := Option.bind_eq_some_iff.mp H
            obtain ⟨t344, A260, H⟩ := H
            replace H : (coppicelaw9_CutAlways.j1 kj3 t339 t342 t343 (t342 != t344)) = some r := H
            have A26 := Aside0.mk A260
            clear A260
            have H' := Aside0.mk H
            clear H
            go_wp2_with (first | (go_at_call 28; (with_reducible refine (coppiceref4_Size.calls kj3 _ _ t339 t344 _ ?side1 ?side2 A26.out).mono ?_); (case side1 => repeat (first | exact (Kd.N_reads' HO341.out).2.2 | (with_reducible refine Kd.C_alloc ?_ _) | (with_reducible refine Kd.C_drewN ?_ _) | (with_reducible refine Kd.C_drew ?_))); (case side2 => exact (Kd.N_reads' HO341.out).2.1); rintro e w' ⟨rfl, ⟨nd, rfl⟩⟩))
            go_meet
            case rel => exact ⟨_, ((t342 != t344)), (by first | rfl | (simp; done) | (simp [*]; done)), H', ⟨by have := HJ3.out; first | omega | exact Nat.le_refl _⟩, ⟨by (with_reducible repeat (first | apply Kd.N_alloc | apply Kd.N_drewN | apply Kd.N_drew)); exact HO341.out⟩, ⟨by (with_reducible repeat (first | apply Kd.V_alloc | apply Kd.V_drewN | apply Kd.V_drew)); exact Kd.V_mono HO_333000.out (fun _ hk => ⟨hk.1.1, ⟨hk.2, hk.1.2⟩⟩)⟩, ⟨by (with_reducible repeat (first | apply Kd.V_alloc | apply Kd.V_drewN | apply Kd.V_drew)); exact Kd.V_mono HO_333001.out (fun _ hk => ⟨hk.1.1, ⟨hk.2, hk.1.2⟩⟩)⟩, ⟨by (with_reducible repeat (first | refine blk_drewN ?_ _ | refine blk_drew ?_ | refine blk_alloc ?_ _)); exact BK332.out⟩, ⟨by repeat (first | (with_reducible first | exact HB.out | apply below_alloc | apply pw_below_drewN | apply below_drew1 | refine below_set ?_ GE332.out) | exact HB.out)⟩⟩
          · replace c25 := Bool.eq_false_iff.mpr c25
            subst c25
            have H1 : (coppicelaw9_CutAlways.j1 kj3 t339 t342 t343 true) = some r := by rw [if_neg (show ¬ (false = true) by decide)] at H; exact H
            clear H
            have H := H1
            clear H1
            have H' := Aside0.mk H
            clear H
            go_wp2
            go_meet
            case rel => exact ⟨_, (true), (by first | rfl | (simp; done) | (simp [*]; done)), H', ⟨by have := HJ3.out; first | omega | exact Nat.le_refl _⟩, ⟨by (with_reducible repeat (first | apply Kd.N_alloc | apply Kd.N_drewN | apply Kd.N_drew)); exact HO341.out⟩, ⟨by (with_reducible repeat (first | apply Kd.V_alloc | apply Kd.V_drewN | apply Kd.V_drew)); exact Kd.V_mono HO_333000.out (fun _ hk => ⟨hk.1.1, ⟨hk.2, hk.1.2⟩⟩)⟩, ⟨by (with_reducible repeat (first | apply Kd.V_alloc | apply Kd.V_drewN | apply Kd.V_drew)); exact Kd.V_mono HO_333001.out (fun _ hk => ⟨hk.1.1, ⟨hk.2, hk.1.2⟩⟩)⟩, ⟨by (with_reducible repeat (first | refine blk_drewN ?_ _ | refine blk_drew ?_ | refine blk_alloc ?_ _)); exact BK332.out⟩, ⟨by repeat (first | (with_reducible first | exact HB.out | apply below_alloc | apply pw_below_drewN | apply below_drew1 | refine below_set ?_ GE332.out) | exact HB.out)⟩⟩
        case rest =>
          clear HC19
          try clear c1
          try clear c2
          try clear p2
          try clear c4
          try clear c7
          try clear c7b0
          try clear c7b1
          try clear c8
          try clear c9
          try clear c11
          try clear c14
          try clear c15
          try clear c24
          try clear c25
          try clear hcz11_0
          try clear hcz11_1
          try clear hcz11_2
          try clear hcz11_3
          try clear hcz20_0
          try clear hcz20_1
          try clear hcz20_2
          try clear hcz20_3
          try clear hfz11_0
          try clear hfz11_1
          try clear hfz11_2
          try clear hfz11_3
          try clear hfz20_0
          try clear hfz20_1
          try clear hfz20_2
          try clear hfz20_3
          try clear p2
          obtain ⟨kq, x42_18, rfl, HA, HJ18, HO_6, HO_333000, HO_333001, BK332, HB⟩ := hcut
          cases kq with
          | zero => exact absurd HA.out (by simp [coppicelaw9_CutAlways.j1])
          | succ kj18 =>
            have H := HA.out
            clear HA
            simp only [coppicelaw9_CutAlways.j1] at H
            by_cases c27 : x42_18 = true
            · subst c27
              have H1 : (some false) = some r := by rw [if_pos rfl] at H; exact H
              clear H
              have H := H1
              clear H1
              obtain rfl := Option.some.inj H
              go_wp2
              go_ret
              exact ⟨by first | rfl | (simp [errW_none, errW_some] <;> rfl) | (simp [*, errW_none, errW_some] <;> rfl), by repeat (first | (with_reducible first | exact HB.out | apply below_alloc | apply pw_below_drewN | apply below_drew1 | refine below_set ?_ GE332.out) | exact HB.out)⟩
            · replace c27 := Bool.eq_false_iff.mpr c27
              subst c27
              have H1 : (if t342 ≤ 4092 then (some true) else (if t343 < 1 then (coppicelaw9_CutAlways.j2 kj18 t339 t343 true) else (coppicelaw9_CutAlways.j2 kj18 t339 t343 (decide (t343 ≥ (t339.length : Int)))))) = some r := by rw [if_neg (show ¬ (false = true) by decide)] at H; exact H
              clear H
              have H := H1
              clear H1
              by_cases c28 : t342 ≤ 4092
              · rw [if_pos c28] at H
                have c28b0 : decide (t342 ≤ 4092) = true := decide_eq_true c28
                clear c28
                obtain rfl := Option.some.inj H
                go_wp2
                go_ret
                exact ⟨by first | rfl | (simp [errW_none, errW_some] <;> rfl) | (simp [*, errW_none, errW_some] <;> rfl), by repeat (first | (with_reducible first | exact HB.out | apply below_alloc | apply pw_below_drewN | apply below_drew1 | refine below_set ?_ GE332.out) | exact HB.out)⟩
              · rw [if_neg c28] at H
                have c28b0 : decide (t342 ≤ 4092) = false := decide_eq_false c28
                clear c28
                have HC29 := Aside0.mk H
                clear H
                go_upto_region 11 with (fail)
                go_cut [52] (fun v52 wc => ∃ (kq : Nat) (x52_28 : Bool), v52 = .bool x52_28 ∧ Aside0 (coppicelaw9_CutAlways.j2 kq t339 t343 x52_28 = some r) ∧ Aside0 (kq ≤ kj18) ∧ Aside0 (Kd.N k38 38 wc w.heap.size (fun k_ => ((P0_ k_ ∨ P1_0_ k_ ∨ P1_1_ k_) ∨ w.heap.size ≤ k_) ∧ k_ ≠ gb332) (.slice Ao22 t339.length co22) t339) ∧ Aside0 (Kd.V (Kd.int .u8) 5 wc w.heap.size (fun k_ => ((P0_ k_ ∨ P1_0_ k_ ∨ P1_1_ k_) ∨ w.heap.size ≤ k_) ∧ some k_ ≠ ((.slice Ao22 t339.length co22) : Value).ownBlock ∧ k_ ≠ gb332) (.slice A1_0 l1_0.length c1_0) l1_0) ∧ Aside0 (Kd.V (Kd.int .u8) 5 wc w.heap.size (fun k_ => ((P0_ k_ ∨ P1_0_ k_ ∨ P1_1_ k_) ∨ w.heap.size ≤ k_) ∧ some k_ ≠ ((.slice Ao22 t339.length co22) : Value).ownBlock ∧ k_ ≠ gb332) (.slice A1_1 l1_1.length c1_1) l1_1) ∧ Aside0 (wc.heap[gb332]? = some (.cells #[(.slice A1_0 l1_0.length c1_0), (.slice A1_1 l1_1.length c1_1), .int .i64 a1_2, .int .i64 a1_3] 38 (0, 0))) ∧ Aside0 (Below w.heap.size w wc))
                case first =>
                  have H := HC29.out
                  clear HC29
                  by_cases c30 : t343 < 1
                  · rw [if_pos c30] at H
                    have c30b0 : decide (t343 < 1) = true := decide_eq_true c30
                    clear c30
                    (first | rw [c30b0] | (simp only [i64_w, i32_w]; rw [c30b0]) | skip)
                    have H' := Aside0.mk H
                    clear H
                    go_wp2
                    go_meet
                    case rel => exact ⟨_, (true), (by first | rfl | (simp; done) | (simp [*]; done)), H', ⟨by have := HJ3.out; have := HJ18.out; first | omega | exact Nat.le_refl _⟩, ⟨by (with_reducible repeat (first | apply Kd.N_alloc | apply Kd.N_drewN | apply Kd.N_drew)); exact HO_6.out⟩, ⟨by (with_reducible repeat (first | apply Kd.V_alloc | apply Kd.V_drewN | apply Kd.V_drew)); exact HO_333000.out⟩, ⟨by (with_reducible repeat (first | apply Kd.V_alloc | apply Kd.V_drewN | apply Kd.V_drew)); exact HO_333001.out⟩, ⟨by (with_reducible repeat (first | refine blk_drewN ?_ _ | refine blk_drew ?_ | refine blk_alloc ?_ _)); exact BK332.out⟩, ⟨by repeat (first | (with_reducible first | exact HB.out | apply below_alloc | apply pw_below_drewN | apply below_drew1 | refine below_set ?_ GE332.out) | exact HB.out)⟩⟩
                  · rw [if_neg c30] at H
                    have c30b0 : decide (t343 < 1) = false := decide_eq_false c30
                    clear c30
                    (first | rw [c30b0] | (simp only [i64_w, i32_w]; rw [c30b0]) | skip)
                    have H' := Aside0.mk H
                    clear H
                    go_wp2
                    go_meet
                    case rel => exact ⟨_, (decide (t343 ≥ (t339.length : Int))), (by first | rfl | (simp; done) | (simp [*]; done)), H', ⟨by have := HJ3.out; have := HJ18.out; first | omega | exact Nat.le_refl _⟩, ⟨by (with_reducible repeat (first | apply Kd.N_alloc | apply Kd.N_drewN | apply Kd.N_drew)); exact HO_6.out⟩, ⟨by (with_reducible repeat (first | apply Kd.V_alloc | apply Kd.V_drewN | apply Kd.V_drew)); exact HO_333000.out⟩, ⟨by (with_reducible repeat (first | apply Kd.V_alloc | apply Kd.V_drewN | apply Kd.V_drew)); exact HO_333001.out⟩, ⟨by (with_reducible repeat (first | refine blk_drewN ?_ _ | refine blk_drew ?_ | refine blk_alloc ?_ _)); exact BK332.out⟩, ⟨by repeat (first | (with_reducible first | exact HB.out | apply below_alloc | apply pw_below_drewN | apply below_drew1 | refine below_set ?_ GE332.out) | exact HB.out)⟩⟩
                case rest =>
                  clear HC29
                  try clear c1
                  try clear c2
                  try clear p2
                  try clear c3
                  try clear c4
                  try clear c7
                  try clear c7b0
                  try clear c7b1
                  try clear c8
                  try clear c9
                  try clear c11
                  try clear c14
                  try clear c15
                  try clear c24
                  try clear c25
                  try clear c27
                  try clear c28
                  try clear c28b0
                  try clear c30
                  try clear c30b0
                  try clear hcz11_0
                  try clear hcz11_1
                  try clear hcz11_2
                  try clear hcz11_3
                  try clear hcz20_0
                  try clear hcz20_1
                  try clear hcz20_2
                  try clear hcz20_3
                  try clear hfz11_0
                  try clear hfz11_1
                  try clear hfz11_2
                  try clear hfz11_3
                  try clear hfz20_0
                  try clear hfz20_1
                  try clear hfz20_2
                  try clear hfz20_3
                  try clear p2
                  obtain ⟨kq, x52_28, rfl, HA, HJ28, HO_6, HO_333000, HO_333001, BK332, HB⟩ := hcut
                  cases kq with
                  | zero => exact absurd HA.out (by simp [coppicelaw9_CutAlways.j2])
                  | succ kj28 =>
                    have H := HA.out
                    clear HA
                    simp only [coppicelaw9_CutAlways.j2] at H
                    by_cases c31 : x52_28 = true
                    · subst c31
                      have H1 : (some false) = some r := by rw [if_pos rfl] at H; exact H
                      clear H
                      have H := H1
                      clear H1
                      obtain rfl := Option.some.inj H
                      go_wp2
                      go_ret
                      exact ⟨by first | rfl | (simp [errW_none, errW_some] <;> rfl) | (simp [*, errW_none, errW_some] <;> rfl), by repeat (first | (with_reducible first | exact HB.out | apply below_alloc | apply pw_below_drewN | apply below_drew1 | refine below_set ?_ GE332.out) | exact HB.out)⟩
                    · replace c31 := Bool.eq_false_iff.mpr c31
                      subst c31
                      have H1 : (if 0 ≤ t343 then (if t343 ≤ (t339.length : Int) then ((leaf_Size.f kj28 (t339.take (t343 : Int).toNat)).bind fun t350 => ((leaf_Size.f kj28 (t339.drop (t343 : Int).toNat)).bind fun t356 => ((cut_JoinLeaves.f kj28 (t339.take (t343 : Int).toNat) (t339.drop (t343 : Int).toNat)).bind fun t367 => (if t350 ≤ 4092 then (if t356 ≤ 4092 then (some (!t367)) else (some false)) else (some false))))) else (none)) else (none)) = some r := by rw [if_neg (show ¬ (false = true) by decide)] at H; exact H
                      clear H
                      have H := H1
                      clear H1
                      by_cases c32 : 0 ≤ t343
                      · rw [if_pos c32] at H
                        have c32b0 := eq_true c32
                        have c32b1 : decide (0 ≤ t343) = true := decide_eq_true c32
                        clear c32
                        by_cases c33 : t343 ≤ (t339.length : Int)
                        · rw [if_pos c33] at H
                          have c33b0 := eq_true c33
                          have c33b1 : decide (t343 ≤ (t339.length : Int)) = true := decide_eq_true c33
                          clear c33
                          obtain ⟨y345, hy345⟩ : ∃ y_ : List (S38), y_ = (t339.take (t343 : Int).toNat) := ⟨_, rfl⟩
                          replace H : ((leaf_Size.f kj28 y345).bind fun t350 => ((leaf_Size.f kj28 (t339.drop (t343 : Int).toNat)).bind fun t356 => ((cut_JoinLeaves.f kj28 (t339.take (t343 : Int).toNat) (t339.drop (t343 : Int).toNat)).bind fun t367 => (if t350 ≤ 4092 then (if t356 ≤ 4092 then (some (!t367)) else (some false)) else (some false))))) = some r := by first | (rw [hy345]; with_reducible exact H) | (have H2_ := (Option.bind_some _ _).symm.trans H; rw [hy345]; with_reducible exact H2_) | (have H2_ := (Option.bind_some _ _).symm.trans H; with_reducible exact H2_) | with_reducible exact H | (rw [hy345]; exact H) | exact H
                          have Ny345 := Aside0.mk hy345
                          clear hy345
                          replace H := Option.bind_eq_some_iff.mp H
                          obtain ⟨t350, A340, H⟩ := H
                          replace H : ((leaf_Size.f kj28 (t339.drop (t343 : Int).toNat)).bind fun t356 => ((cut_JoinLeaves.f kj28 (t339.take (t343 : Int).toNat) (t339.drop (t343 : Int).toNat)).bind fun t367 => (if t350 ≤ 4092 then (if t356 ≤ 4092 then (some (!t367)) else (some false)) else (some false)))) = some r := H
                          have A34 := Aside0.mk A340
                          clear A340
                          have c35b0 := eq_true (of_decide_eq_true (by first | (with_reducible assumption) | assumption) : 0 ≤ t343)
                          have c36b0 := eq_true (of_decide_eq_true (by first | (with_reducible assumption) | assumption) : t343 ≤ (t339.length : Int))
                          obtain ⟨y351, hy351⟩ : ∃ y_ : List (S38), y_ = (t339.drop (t343 : Int).toNat) := ⟨_, rfl⟩
                          replace H : ((leaf_Size.f kj28 y351).bind fun t356 => ((cut_JoinLeaves.f kj28 (t339.take (t343 : Int).toNat) (t339.drop (t343 : Int).toNat)).bind fun t367 => (if t350 ≤ 4092 then (if t356 ≤ 4092 then (some (!t367)) else (some false)) else (some false)))) = some r := by first | (rw [hy351]; with_reducible exact H) | (have H2_ := (Option.bind_some _ _).symm.trans H; rw [hy351]; with_reducible exact H2_) | (have H2_ := (Option.bind_some _ _).symm.trans H; with_reducible exact H2_) | with_reducible exact H | (rw [hy351]; exact H) | exact H
                          have Ny351 := Aside0.mk hy351
                          clear hy351
                          replace H := Option.bind_eq_some_iff.mp H
                          obtain ⟨t356, A370, H⟩ := H
                          replace H : ((cut_JoinLeaves.f kj28 (t339.take (t343 : Int).toNat) (t339.drop (t343 : Int).toNat)).bind fun t367 => (if t350 ≤ 4092 then (if t356 ≤ 4092 then (some (!t367)) else (some false)) else (some false))) = some r := H
                          have A37 := Aside0.mk A370
                          clear A370
                          have c38b0 := eq_true (of_decide_eq_true (by first | (with_reducible assumption) | assumption) : 0 ≤ t343)
                          have c39b0 := eq_true (of_decide_eq_true (by first | (with_reducible assumption) | assumption) : t343 ≤ (t339.length : Int))
                          obtain ⟨y357, hy357⟩ : ∃ y_ : List (S38), y_ = (t339.take (t343 : Int).toNat) := ⟨_, rfl⟩
                          replace H : ((cut_JoinLeaves.f kj28 y357 (t339.drop (t343 : Int).toNat)).bind fun t367 => (if t350 ≤ 4092 then (if t356 ≤ 4092 then (some (!t367)) else (some false)) else (some false))) = some r := by first | (rw [hy357]; with_reducible exact H) | (have H2_ := (Option.bind_some _ _).symm.trans H; rw [hy357]; with_reducible exact H2_) | (have H2_ := (Option.bind_some _ _).symm.trans H; with_reducible exact H2_) | with_reducible exact H | (rw [hy357]; exact H) | exact H
                          have Ny357 := Aside0.mk hy357
                          clear hy357
                          have c40b0 := eq_true (of_decide_eq_true (by first | (with_reducible assumption) | assumption) : 0 ≤ t343)
                          have c41b0 := eq_true (of_decide_eq_true (by first | (with_reducible assumption) | assumption) : t343 ≤ (t339.length : Int))
                          obtain ⟨y362, hy362⟩ : ∃ y_ : List (S38), y_ = (t339.drop (t343 : Int).toNat) := ⟨_, rfl⟩
                          replace H : ((cut_JoinLeaves.f kj28 y357 y362).bind fun t367 => (if t350 ≤ 4092 then (if t356 ≤ 4092 then (some (!t367)) else (some false)) else (some false))) = some r := by first | (rw [hy362]; with_reducible exact H) | (have H2_ := (Option.bind_some _ _).symm.trans H; rw [hy362]; with_reducible exact H2_) | (have H2_ := (Option.bind_some _ _).symm.trans H; with_reducible exact H2_) | with_reducible exact H | (rw [hy362]; exact H) | exact H
                          have Ny362 := Aside0.mk hy362
                          clear hy362
                          replace H := Option.bind_eq_some_iff.mp H
                          obtain ⟨t367, A420, H⟩ := H
                          replace H : (if t350 ≤ 4092 then (if t356 ≤ 4092 then (some (!t367)) else (some false)) else (some false)) = some r := H
                          have A42 := Aside0.mk A420
                          clear A420
                          by_cases c43 : t350 ≤ 4092
                          · rw [if_pos c43] at H
                            have c43b0 : decide (t350 ≤ 4092) = true := decide_eq_true c43
                            clear c43
                            by_cases c44 : t356 ≤ 4092
                            · rw [if_pos c44] at H
                              have c44b0 : decide (t356 ≤ 4092) = true := decide_eq_true c44
                              clear c44
                              obtain rfl := Option.some.inj H
                              have q45 : (t343 : Int) ≤ ((t339.length : Int) : Int) := of_decide_eq_true (by first | (with_reducible assumption) | assumption)
                              obtain ⟨i045, hi045, _, hsz45, _⟩ := info_parts info38
                              have hroom45 : t339.length ≤ co22 := (Kd.N_reads' HO_6.out).2.1
                              have hC45 : Kd.F k38 _ _ Ao22 t339.length t339 := (Kd.V_at (base := w.heap.size) (Kd.N_V HO_6.out)).2.2
                              have hcut45 := cut_to (P := Try.prog) 24 38 .i64 Try.underlying24 hi045 Ao22 t339.length co22 t343 (of_decide_eq_true (by first | (with_reducible assumption) | assumption)) q45 hroom45
                              have hr45 := Kd.F_take (m := (t343 : Int).toNat) hC45 (by omega)
                              have hy45 : y345.length = (t343 : Int).toNat := (by rw [Ny345.out, List.length_take]; omega)
                              rw [← Ny345.out] at hr45
                              rw [← hy45] at hcut45
                              have HO349 := Aside0.mk (show Kd.V k38 38 _ w.heap.size _ (.slice Ao22 y345.length co22) y345 from Kd.V_mk (by omega) hr45)
                              have HC349 := Aside0.mk (show y345.length ≤ co22 from by omega)
                              clear hr45 hC45 hroom45 hi045 hsz45
                              have KY45 := Aside0.mk hy45
                              clear hy45
                              replace q45 := eq_true q45
                              try go_wp2_with (first | ((with_reducible refine gate_callee (f := 24) rfl ?_); refine goesL_ (some 56) rfl rfl Try.func24 (by kernel_rfl) rfl #[.slice Ao22 y345.length co22] rfl (by (try simp only [List.map_toArray, List.map_cons, List.map_nil]); first | done | rfl | (simp only [List.length_drop, List.length_take]; rfl)) ?_; (with_reducible refine (leaf_Size.calls kj28 _ _ y345 t350 _ ?side1 ?side2 A34.out).mono ?_); (case side1 => repeat (first | exact (Kd.V_reads' HO349.out).2.2 | (with_reducible refine Kd.C_alloc ?_ _) | (with_reducible refine Kd.C_drewN ?_ _) | (with_reducible refine Kd.C_drew ?_))); (case side2 => exact (Kd.V_reads' HO349.out).2.1); rintro e w46 ⟨rfl, hb⟩; refine ⟨_, rfl, ?_⟩; have n0_ := Aside0.mk (Kd.N_below (by (with_reducible repeat (first | apply Kd.N_alloc | apply Kd.N_drewN | apply Kd.N_drew)); exact HO_6.out) hb); have n1_ := Aside0.mk (Kd.V_below (by (with_reducible repeat (first | apply Kd.V_alloc | apply Kd.V_drewN | apply Kd.V_drew)); exact HO_333000.out) hb); have n2_ := Aside0.mk (Kd.V_below (by (with_reducible repeat (first | apply Kd.V_alloc | apply Kd.V_drewN | apply Kd.V_drew)); exact HO_333001.out) hb); have n3_ := Aside0.mk (Kd.V_below (by (with_reducible repeat (first | apply Kd.V_alloc | apply Kd.V_drewN | apply Kd.V_drew)); exact HO349.out) hb); have n4_ := Aside0.mk (blk_below (g := gb332) (o := .cells #[.slice A1_0 l1_0.length c1_0, .slice A1_1 l1_1.length c1_1, .int .i64 a1_2, .int .i64 a1_3] 38 (0, 0)) (by (with_reducible repeat (first | refine blk_drewN ?_ _ | refine blk_drew ?_ | refine blk_alloc ?_ _)); exact BK332.out) hb); have n5_ := Aside0.mk (below_step (by repeat (first | (with_reducible first | exact HB.out | apply below_alloc | apply pw_below_drewN | apply below_drew1 | refine below_set ?_ GE332.out) | exact HB.out)) hb); clear HO_6; clear HO_333000; clear HO_333001; clear HO349; clear BK332; clear HB; have HO_6 := n0_; have HO_333000 := n1_; have HO_333001 := n2_; have HO349 := n3_; have BK332 := n4_; have HB := n5_; clear n0_ n1_ n2_ n3_ n4_ n5_; (try clear hb); (try clear hb2); (try clear hk); (try clear hi); have q47 : (t343 : Int) ≤ ((t339.length : Int) : Int) := of_decide_eq_true (by first | (with_reducible assumption) | assumption); obtain ⟨i047, hi047, _, hsz47, _⟩ := info_parts info38; have hroom47 : t339.length ≤ co22 := (Kd.N_reads' HO_6.out).2.1; have hC47 : Kd.F k38 _ _ Ao22 t339.length t339 := (Kd.V_at (base := w.heap.size) (Kd.N_V HO_6.out)).2.2; have q047 : (0 : Int) ≤ (t343 : Int) := of_decide_eq_true (by first | (with_reducible assumption) | assumption); have hcut47 := cut_from (P := Try.prog) 24 38 .i64 Try.underlying24 hi047 4 hsz47 Ao22 t339.length co22 t343 q047 q47; have hr47 := Kd.F_cut (m := (t343 : Int).toNat) (c := co22) hC47 (by omega) hroom47; obtain ⟨A47, hA47⟩ : ∃ A1, A1 = (if co22 = (t343 : Int).toNat then Ao22 else (Ao22 : Option Addr).map (·.add ((t343 : Int).toNat * 4))) := ⟨_, rfl⟩; obtain ⟨c47, hc47⟩ : ∃ c1, c1 = co22 - (t343 : Int).toNat := ⟨_, rfl⟩; have hy47 : y351.length = t339.length - (t343 : Int).toNat := (by rw [Ny351.out, List.length_drop] <;> omega); rw [show (t339).drop (t343 : Int).toNat = y351 from Ny351.out.symm] at hr47; replace hr47 : Kd.F k38 _ _ A47 y351.length y351 := (by rw [hA47]; exact hr47); rw [← hy47, ← hA47, ← hc47] at hcut47; have HO355 := Aside0.mk (show Kd.V k38 38 _ w.heap.size _ (.slice A47 y351.length c47) y351 from Kd.V_mk (by rw [hy47, hc47]; exact Nat.sub_le_sub_right hroom47 _) hr47); have HC355 := Aside0.mk (show y351.length ≤ c47 from by rw [hy47, hc47]; exact Nat.sub_le_sub_right hroom47 _); clear hr47 hC47 hroom47 hi047 hsz47 hc47; have KY47 := Aside0.mk hy47; have KA47 := Aside0.mk hA47; clear hy47 hA47; replace q47 := eq_true q47) | ((with_reducible refine gate_callee (f := 24) rfl ?_); refine goesL_ (some 60) rfl rfl Try.func24 (by kernel_rfl) rfl #[.slice A47 y351.length c47] rfl (by (try simp only [List.map_toArray, List.map_cons, List.map_nil]); first | done | rfl | (simp only [List.length_drop, List.length_take]; rfl)) ?_; (with_reducible refine (leaf_Size.calls kj28 _ _ y351 t356 _ ?side1 ?side2 A37.out).mono ?_); (case side1 => repeat (first | exact (Kd.V_reads' HO355.out).2.2 | (with_reducible refine Kd.C_alloc ?_ _) | (with_reducible refine Kd.C_drewN ?_ _) | (with_reducible refine Kd.C_drew ?_))); (case side2 => exact (Kd.V_reads' HO355.out).2.1); rintro e w48 ⟨rfl, hb⟩; refine ⟨_, rfl, ?_⟩; have n0_ := Aside0.mk (Kd.N_below (by (with_reducible repeat (first | apply Kd.N_alloc | apply Kd.N_drewN | apply Kd.N_drew)); exact HO_6.out) hb); have n1_ := Aside0.mk (Kd.V_below (by (with_reducible repeat (first | apply Kd.V_alloc | apply Kd.V_drewN | apply Kd.V_drew)); exact HO_333000.out) hb); have n2_ := Aside0.mk (Kd.V_below (by (with_reducible repeat (first | apply Kd.V_alloc | apply Kd.V_drewN | apply Kd.V_drew)); exact HO_333001.out) hb); have n3_ := Aside0.mk (Kd.V_below (by (with_reducible repeat (first | apply Kd.V_alloc | apply Kd.V_drewN | apply Kd.V_drew)); exact HO349.out) hb); have n4_ := Aside0.mk (Kd.V_below (by (with_reducible repeat (first | apply Kd.V_alloc | apply Kd.V_drewN | apply Kd.V_drew)); exact HO355.out) hb); have n5_ := Aside0.mk (blk_below (g := gb332) (o := .cells #[.slice A1_0 l1_0.length c1_0, .slice A1_1 l1_1.length c1_1, .int .i64 a1_2, .int .i64 a1_3] 38 (0, 0)) (by (with_reducible repeat (first | refine blk_drewN ?_ _ | refine blk_drew ?_ | refine blk_alloc ?_ _)); exact BK332.out) hb); have n6_ := Aside0.mk (below_step (by repeat (first | (with_reducible first | exact HB.out | apply below_alloc | apply pw_below_drewN | apply below_drew1 | refine below_set ?_ GE332.out) | exact HB.out)) hb); clear HO_6; clear HO_333000; clear HO_333001; clear HO349; clear HO355; clear BK332; clear HB; have HO_6 := n0_; have HO_333000 := n1_; have HO_333001 := n2_; have HO349 := n3_; have HO355 := n4_; have BK332 := n5_; have HB := n6_; clear n0_ n1_ n2_ n3_ n4_ n5_ n6_; (try clear hb); (try clear hb2); (try clear hk); (try clear hi)))
                              have n0_ := Aside0.mk (Kd.N_drew HO_6.out)
                              have n1_ := Aside0.mk (Kd.V_drew HO_333000.out)
                              have n2_ := Aside0.mk (Kd.V_drew HO_333001.out)
                              have n3_ := Aside0.mk (Kd.V_drew HO349.out)
                              have n4_ := Aside0.mk (Kd.V_drew HO355.out)
                              have n5_ := Aside0.mk (blk_drew BK332.out)
                              have n6_ := Aside0.mk (below_drew1 HB.out)
                              clear HO_6
                              clear HO_333000
                              clear HO_333001
                              clear HO349
                              clear HO355
                              clear BK332
                              clear HB
                              have HO_6 := n0_
                              have HO_333000 := n1_
                              have HO_333001 := n2_
                              have HO349 := n3_
                              have HO355 := n4_
                              have BK332 := n5_
                              have HB := n6_
                              clear n0_ n1_ n2_ n3_ n4_ n5_ n6_
                              have q50 : (t343 : Int) ≤ ((t339.length : Int) : Int) := of_decide_eq_true (by first | (with_reducible assumption) | assumption)
                              obtain ⟨i050, hi050, _, hsz50, _⟩ := info_parts info38
                              have hroom50 : t339.length ≤ co22 := (Kd.N_reads' HO_6.out).2.1
                              have hC50 : Kd.F k38 _ _ Ao22 t339.length t339 := (Kd.V_at (base := w.heap.size) (Kd.N_V HO_6.out)).2.2
                              have hcut50 := cut_to (P := Try.prog) 24 38 .i64 Try.underlying24 hi050 Ao22 t339.length co22 t343 (of_decide_eq_true (by first | (with_reducible assumption) | assumption)) q50 hroom50
                              have hr50 := Kd.F_take (m := (t343 : Int).toNat) hC50 (by omega)
                              have hy50 : y357.length = (t343 : Int).toNat := (by rw [Ny357.out, List.length_take]; omega)
                              rw [← Ny357.out] at hr50
                              rw [← hy50] at hcut50
                              have HO361 := Aside0.mk (show Kd.V k38 38 _ w.heap.size _ (.slice Ao22 y357.length co22) y357 from Kd.V_mk (by omega) hr50)
                              have HC361 := Aside0.mk (show y357.length ≤ co22 from by omega)
                              clear hr50 hC50 hroom50 hi050 hsz50
                              have KY50 := Aside0.mk hy50
                              clear hy50
                              replace q50 := eq_true q50
                              have q51 : (t343 : Int) ≤ ((t339.length : Int) : Int) := of_decide_eq_true (by first | (with_reducible assumption) | assumption)
                              obtain ⟨i051, hi051, _, hsz51, _⟩ := info_parts info38
                              have hroom51 : t339.length ≤ co22 := (Kd.N_reads' HO_6.out).2.1
                              have hC51 : Kd.F k38 _ _ Ao22 t339.length t339 := (Kd.V_at (base := w.heap.size) (Kd.N_V HO_6.out)).2.2
                              have q051 : (0 : Int) ≤ (t343 : Int) := of_decide_eq_true (by first | (with_reducible assumption) | assumption)
                              have hcut51 := cut_from (P := Try.prog) 24 38 .i64 Try.underlying24 hi051 4 hsz51 Ao22 t339.length co22 t343 q051 q51
                              have hr51 := Kd.F_cut (m := (t343 : Int).toNat) (c := co22) hC51 (by omega) hroom51
                              obtain ⟨A51, hA51⟩ : ∃ A1, A1 = (if co22 = (t343 : Int).toNat then Ao22 else (Ao22 : Option Addr).map (·.add ((t343 : Int).toNat * 4))) := ⟨_, rfl⟩
                              obtain ⟨c51, hc51⟩ : ∃ c1, c1 = co22 - (t343 : Int).toNat := ⟨_, rfl⟩
                              have hy51 : y362.length = t339.length - (t343 : Int).toNat := (by rw [Ny362.out, List.length_drop] <;> omega)
                              rw [show (t339).drop (t343 : Int).toNat = y362 from Ny362.out.symm] at hr51
                              replace hr51 : Kd.F k38 _ _ A51 y362.length y362 := (by rw [hA51]; exact hr51)
                              rw [← hy51, ← hA51, ← hc51] at hcut51
                              have HO366 := Aside0.mk (show Kd.V k38 38 _ w.heap.size _ (.slice A51 y362.length c51) y362 from Kd.V_mk (by rw [hy51, hc51]; exact Nat.sub_le_sub_right hroom51 _) hr51)
                              have HC366 := Aside0.mk (show y362.length ≤ c51 from by rw [hy51, hc51]; exact Nat.sub_le_sub_right hroom51 _)
                              clear hr51 hC51 hroom51 hi051 hsz51 hc51
                              have KY51 := Aside0.mk hy51
                              have KA51 := Aside0.mk hA51
                              clear hy51 hA51
                              replace q51 := eq_true q51
                              refine start_ (n := 8) (S := fun w' => True) (ds := []) #[false, false, false, false, false, false, false, false] (by kernel_rfl) rfl rfl trivial (fun hHeld => ?_); refine with_tabW coppicelaw9_CutAlways.tab15 coppicelaw9_CutAlways.bits15 (fun HT_ HW_ => ?_)
                              generalize w48.drew = w49 at HO_6 HO_333000 HO_333001 HO349 HO355 BK332 HB HO361 HO366 hHeld ⊢
                              refine pure_ (i := 0) (N := some 61) (v := ?_) (a' := ?_) #[true, false, false, false, false, false, false, false] rfl rfl (any_of HT_.out (by kernel_rfl)) (fun _ _ _ h => h) (Or.inl ⟨by rfl, ?_⟩) ?_ ?_
                              rotate_left
                              · intro w'
                                go_simp
                                with_reducible rfl
                              rotate_left
                              · simp only [Act.put, List.setIfInBounds_toArray, List.set_cons_zero, List.set_cons_succ, i64_w, i32_w]
                                rfl
                              refine pure_ (i := 1) (N := some 62) (v := ?_) (a' := ?_) #[true, true, false, false, false, false, false, false] rfl rfl (any_of HT_.out (by kernel_rfl)) (fun _ _ _ h => h) (Or.inl ⟨by rfl, ?_⟩) ?_ ?_
                              rotate_left
                              · intro w'
                                go_simp
                                with_reducible rfl
                              rotate_left
                              · simp only [Act.put, List.setIfInBounds_toArray, List.set_cons_zero, List.set_cons_succ, i64_w, i32_w]
                                rfl
                              refine pure_ (i := 2) (N := some 63) (v := ?_) (a' := ?_) #[true, true, true, false, false, false, false, false] rfl rfl (any_of HT_.out (by kernel_rfl)) (fun _ _ _ h => h) (Or.inl ⟨by rfl, ?_⟩) ?_ ?_
                              rotate_left
                              · intro w'
                                go_simp
                                with_reducible rfl
                              rotate_left
                              · simp only [Act.put, List.setIfInBounds_toArray, List.set_cons_zero, List.set_cons_succ, i64_w, i32_w]
                                rfl
                              refine pure_ (i := 3) (N := some 64) (v := ?_) (a' := ?_) #[true, true, true, true, false, false, false, false] rfl rfl (any_of HT_.out (by kernel_rfl)) (fun _ _ _ h => h) (Or.inl ⟨by rfl, ?_⟩) ?_ ?_
                              rotate_left
                              · intro w'
                                go_simp
                                with_reducible rfl
                              rotate_left
                              · simp only [Act.put, List.setIfInBounds_toArray, List.set_cons_zero, List.set_cons_succ, i64_w, i32_w]
                                rfl
                              refine pure_ (i := 4) (N := some 65) (v := ?_) (a' := ?_) #[true, true, true, true, true, false, false, false] rfl rfl (any_of HT_.out (by kernel_rfl)) (fun _ _ _ h => h) (Or.inl ⟨by rfl, ?_⟩) ?_ ?_
                              rotate_left
                              · intro w'
                                go_simp
                                with_reducible rfl
                              rotate_left
                              · simp only [Act.put, List.setIfInBounds_toArray, List.set_cons_zero, List.set_cons_succ, i64_w, i32_w]
                                rfl
                              refine pure_ (i := 5) (N := some 66) (v := ?_) (a' := ?_) #[true, true, true, true, true, true, false, false] rfl rfl (any_of HT_.out (by kernel_rfl)) (fun _ _ _ h => h) (Or.inl ⟨by rfl, ?_⟩) ?_ ?_
                              rotate_left
                              · intro w'
                                go_simp
                                with_reducible rfl
                              rotate_left
                              · simp only [Act.put, List.setIfInBounds_toArray, List.set_cons_zero, List.set_cons_succ, i64_w, i32_w]
                                rfl
                              refine one_ (i := 6) (N := some 67) #[true, true, true, true, true, true, true, false] rfl rfl (one_of HT_.out (by kernel_rfl)) (by decide) (fun K hK => ?_)
                              refine goes_ Try.func20 (by kernel_rfl) rfl #[.slice Ao22 y357.length co22, .slice A51 y362.length c51] (by rfl) rfl rfl (by (try simp only [List.map_toArray, List.map_cons, List.map_nil]); first | done | rfl | (simp only [List.length_drop, List.length_take]; rfl) | (have he_ := (hcut47 w).symm.trans (hcut51 w); simp only [Result.ok.injEq, Value.slice.injEq, and_true] at he_; go_simp; (first | exact ⟨by rw [Ny345.out, Ny357.out], he_.1, he_.2.1, he_.2.2⟩ | rw [Ny345.out, Ny357.out]))) ?_
                              with_reducible refine (cut_JoinLeaves.calls kj28 _ _ y357 _ _ y362 t367 _ ?side1 ?side2 ?side3 ?side4 A42.out).mono ?_
                              (case side1 => repeat (first | exact (Kd.V_reads' HO361.out).2.2 | (with_reducible refine Kd.C_alloc ?_ _) | (with_reducible refine Kd.C_drewN ?_ _) | (with_reducible refine Kd.C_drew ?_)))
                              (case side2 => exact (Kd.V_reads' HO361.out).2.1)
                              (case side3 => repeat (first | exact (Kd.V_reads' HO366.out).2.2 | (with_reducible refine Kd.C_alloc ?_ _) | (with_reducible refine Kd.C_drewN ?_ _) | (with_reducible refine Kd.C_drew ?_)))
                              (case side4 => exact (Kd.V_reads' HO366.out).2.1)
                              rintro e w52 ⟨rfl, hb⟩
                              refine ⟨_, rfl, ?_⟩
                              have n0_ := Aside0.mk (Kd.N_below (by (with_reducible repeat (first | apply Kd.N_alloc | apply Kd.N_drewN | apply Kd.N_drew)); exact HO_6.out) hb)
                              have n1_ := Aside0.mk (Kd.V_below (by (with_reducible repeat (first | apply Kd.V_alloc | apply Kd.V_drewN | apply Kd.V_drew)); exact HO_333000.out) hb)
                              have n2_ := Aside0.mk (Kd.V_below (by (with_reducible repeat (first | apply Kd.V_alloc | apply Kd.V_drewN | apply Kd.V_drew)); exact HO_333001.out) hb)
                              have n3_ := Aside0.mk (Kd.V_below (by (with_reducible repeat (first | apply Kd.V_alloc | apply Kd.V_drewN | apply Kd.V_drew)); exact HO349.out) hb)
                              have n4_ := Aside0.mk (Kd.V_below (by (with_reducible repeat (first | apply Kd.V_alloc | apply Kd.V_drewN | apply Kd.V_drew)); exact HO355.out) hb)
                              have n5_ := Aside0.mk (Kd.V_below (by (with_reducible repeat (first | apply Kd.V_alloc | apply Kd.V_drewN | apply Kd.V_drew)); exact HO361.out) hb)
                              have n6_ := Aside0.mk (Kd.V_below (by (with_reducible repeat (first | apply Kd.V_alloc | apply Kd.V_drewN | apply Kd.V_drew)); exact HO366.out) hb)
                              have n7_ := Aside0.mk (blk_below (g := gb332) (o := .cells #[.slice A1_0 l1_0.length c1_0, .slice A1_1 l1_1.length c1_1, .int .i64 a1_2, .int .i64 a1_3] 38 (0, 0)) (by (with_reducible repeat (first | refine blk_drewN ?_ _ | refine blk_drew ?_ | refine blk_alloc ?_ _)); exact BK332.out) hb)
                              have n8_ := Aside0.mk (below_step (by repeat (first | (with_reducible first | exact HB.out | apply below_alloc | apply pw_below_drewN | apply below_drew1 | refine below_set ?_ GE332.out) | exact HB.out)) hb)
                              clear HO_6
                              clear HO_333000
                              clear HO_333001
                              clear HO349
                              clear HO355
                              clear HO361
                              clear HO366
                              clear BK332
                              clear HB
                              have HO_6 := n0_
                              have HO_333000 := n1_
                              have HO_333001 := n2_
                              have HO349 := n3_
                              have HO355 := n4_
                              have HO361 := n5_
                              have HO366 := n6_
                              have BK332 := n7_
                              have HB := n8_
                              clear n0_ n1_ n2_ n3_ n4_ n5_ n6_ n7_ n8_
                              (try clear hb)
                              (try clear hb2)
                              (try clear hk)
                              (try clear hi)
                              refine hK.out _ _ trivial (fun hHeld => ?_)
                              clear hK K
                              refine norm_ (a' := ?_) ?_ ?_
                              rotate_left
                              · show Act.put _ (some 67) _ = _
                                simp only [Act.put, List.setIfInBounds_toArray, List.set_cons_zero, List.set_cons_succ, i64_w, i32_w]
                                rfl
                              refine pure_ (i := 7) (N := some 11) (v := ?_) (a' := ?_) #[true, true, true, true, true, true, true, true] rfl rfl (any_of HT_.out (by kernel_rfl)) (fun _ _ _ h => h) (Or.inl ⟨by rfl, ?_⟩) ?_ ?_
                              rotate_left
                              · intro w'
                                go_simp
                                with_reducible rfl
                              rotate_left
                              · simp only [Act.put, List.setIfInBounds_toArray, List.set_cons_zero, List.set_cons_succ, i64_w, i32_w]
                                rfl
                              refine done_ (done_of HT_.out (by kernel_rfl)) ?_
                              try go_wp2
                              go_ret
                              exact ⟨by first | rfl | (simp [errW_none, errW_some] <;> rfl) | (simp [*, errW_none, errW_some] <;> rfl), by repeat (first | (with_reducible first | exact HB.out | apply below_alloc | apply pw_below_drewN | apply below_drew1 | refine below_set ?_ GE332.out) | exact HB.out)⟩
                            · rw [if_neg c44] at H
                              have c44b0 : decide (t356 ≤ 4092) = false := decide_eq_false c44
                              clear c44
                              obtain rfl := Option.some.inj H
                              have q53 : (t343 : Int) ≤ ((t339.length : Int) : Int) := of_decide_eq_true (by first | (with_reducible assumption) | assumption)
                              obtain ⟨i053, hi053, _, hsz53, _⟩ := info_parts info38
                              have hroom53 : t339.length ≤ co22 := (Kd.N_reads' HO_6.out).2.1
                              have hC53 : Kd.F k38 _ _ Ao22 t339.length t339 := (Kd.V_at (base := w.heap.size) (Kd.N_V HO_6.out)).2.2
                              have hcut53 := cut_to (P := Try.prog) 24 38 .i64 Try.underlying24 hi053 Ao22 t339.length co22 t343 (of_decide_eq_true (by first | (with_reducible assumption) | assumption)) q53 hroom53
                              have hr53 := Kd.F_take (m := (t343 : Int).toNat) hC53 (by omega)
                              have hy53 : y345.length = (t343 : Int).toNat := (by rw [Ny345.out, List.length_take]; omega)
                              rw [← Ny345.out] at hr53
                              rw [← hy53] at hcut53
                              have HO349 := Aside0.mk (show Kd.V k38 38 _ w.heap.size _ (.slice Ao22 y345.length co22) y345 from Kd.V_mk (by omega) hr53)
                              have HC349 := Aside0.mk (show y345.length ≤ co22 from by omega)
                              clear hr53 hC53 hroom53 hi053 hsz53
                              have KY53 := Aside0.mk hy53
                              clear hy53
                              replace q53 := eq_true q53
                              try go_wp2_with (first | ((with_reducible refine gate_callee (f := 24) rfl ?_); refine goesL_ (some 56) rfl rfl Try.func24 (by kernel_rfl) rfl #[.slice Ao22 y345.length co22] rfl (by (try simp only [List.map_toArray, List.map_cons, List.map_nil]); first | done | rfl | (simp only [List.length_drop, List.length_take]; rfl)) ?_; (with_reducible refine (leaf_Size.calls kj28 _ _ y345 t350 _ ?side1 ?side2 A34.out).mono ?_); (case side1 => repeat (first | exact (Kd.V_reads' HO349.out).2.2 | (with_reducible refine Kd.C_alloc ?_ _) | (with_reducible refine Kd.C_drewN ?_ _) | (with_reducible refine Kd.C_drew ?_))); (case side2 => exact (Kd.V_reads' HO349.out).2.1); rintro e w54 ⟨rfl, hb⟩; refine ⟨_, rfl, ?_⟩; have n0_ := Aside0.mk (Kd.N_below (by (with_reducible repeat (first | apply Kd.N_alloc | apply Kd.N_drewN | apply Kd.N_drew)); exact HO_6.out) hb); have n1_ := Aside0.mk (Kd.V_below (by (with_reducible repeat (first | apply Kd.V_alloc | apply Kd.V_drewN | apply Kd.V_drew)); exact HO_333000.out) hb); have n2_ := Aside0.mk (Kd.V_below (by (with_reducible repeat (first | apply Kd.V_alloc | apply Kd.V_drewN | apply Kd.V_drew)); exact HO_333001.out) hb); have n3_ := Aside0.mk (Kd.V_below (by (with_reducible repeat (first | apply Kd.V_alloc | apply Kd.V_drewN | apply Kd.V_drew)); exact HO349.out) hb); have n4_ := Aside0.mk (blk_below (g := gb332) (o := .cells #[.slice A1_0 l1_0.length c1_0, .slice A1_1 l1_1.length c1_1, .int .i64 a1_2, .int .i64 a1_3] 38 (0, 0)) (by (with_reducible repeat (first | refine blk_drewN ?_ _ | refine blk_drew ?_ | refine blk_alloc ?_ _)); exact BK332.out) hb); have n5_ := Aside0.mk (below_step (by repeat (first | (with_reducible first | exact HB.out | apply below_alloc | apply pw_below_drewN | apply below_drew1 | refine below_set ?_ GE332.out) | exact HB.out)) hb); clear HO_6; clear HO_333000; clear HO_333001; clear HO349; clear BK332; clear HB; have HO_6 := n0_; have HO_333000 := n1_; have HO_333001 := n2_; have HO349 := n3_; have BK332 := n4_; have HB := n5_; clear n0_ n1_ n2_ n3_ n4_ n5_; (try clear hb); (try clear hb2); (try clear hk); (try clear hi); have q55 : (t343 : Int) ≤ ((t339.length : Int) : Int) := of_decide_eq_true (by first | (with_reducible assumption) | assumption); obtain ⟨i055, hi055, _, hsz55, _⟩ := info_parts info38; have hroom55 : t339.length ≤ co22 := (Kd.N_reads' HO_6.out).2.1; have hC55 : Kd.F k38 _ _ Ao22 t339.length t339 := (Kd.V_at (base := w.heap.size) (Kd.N_V HO_6.out)).2.2; have q055 : (0 : Int) ≤ (t343 : Int) := of_decide_eq_true (by first | (with_reducible assumption) | assumption); have hcut55 := cut_from (P := Try.prog) 24 38 .i64 Try.underlying24 hi055 4 hsz55 Ao22 t339.length co22 t343 q055 q55; have hr55 := Kd.F_cut (m := (t343 : Int).toNat) (c := co22) hC55 (by omega) hroom55; obtain ⟨A55, hA55⟩ : ∃ A1, A1 = (if co22 = (t343 : Int).toNat then Ao22 else (Ao22 : Option Addr).map (·.add ((t343 : Int).toNat * 4))) := ⟨_, rfl⟩; obtain ⟨c55, hc55⟩ : ∃ c1, c1 = co22 - (t343 : Int).toNat := ⟨_, rfl⟩; have hy55 : y351.length = t339.length - (t343 : Int).toNat := (by rw [Ny351.out, List.length_drop] <;> omega); rw [show (t339).drop (t343 : Int).toNat = y351 from Ny351.out.symm] at hr55; replace hr55 : Kd.F k38 _ _ A55 y351.length y351 := (by rw [hA55]; exact hr55); rw [← hy55, ← hA55, ← hc55] at hcut55; have HO355 := Aside0.mk (show Kd.V k38 38 _ w.heap.size _ (.slice A55 y351.length c55) y351 from Kd.V_mk (by rw [hy55, hc55]; exact Nat.sub_le_sub_right hroom55 _) hr55); have HC355 := Aside0.mk (show y351.length ≤ c55 from by rw [hy55, hc55]; exact Nat.sub_le_sub_right hroom55 _); clear hr55 hC55 hroom55 hi055 hsz55 hc55; have KY55 := Aside0.mk hy55; have KA55 := Aside0.mk hA55; clear hy55 hA55; replace q55 := eq_true q55) | ((with_reducible refine gate_callee (f := 24) rfl ?_); refine goesL_ (some 60) rfl rfl Try.func24 (by kernel_rfl) rfl #[.slice A55 y351.length c55] rfl (by (try simp only [List.map_toArray, List.map_cons, List.map_nil]); first | done | rfl | (simp only [List.length_drop, List.length_take]; rfl)) ?_; (with_reducible refine (leaf_Size.calls kj28 _ _ y351 t356 _ ?side1 ?side2 A37.out).mono ?_); (case side1 => repeat (first | exact (Kd.V_reads' HO355.out).2.2 | (with_reducible refine Kd.C_alloc ?_ _) | (with_reducible refine Kd.C_drewN ?_ _) | (with_reducible refine Kd.C_drew ?_))); (case side2 => exact (Kd.V_reads' HO355.out).2.1); rintro e w56 ⟨rfl, hb⟩; refine ⟨_, rfl, ?_⟩; have n0_ := Aside0.mk (Kd.N_below (by (with_reducible repeat (first | apply Kd.N_alloc | apply Kd.N_drewN | apply Kd.N_drew)); exact HO_6.out) hb); have n1_ := Aside0.mk (Kd.V_below (by (with_reducible repeat (first | apply Kd.V_alloc | apply Kd.V_drewN | apply Kd.V_drew)); exact HO_333000.out) hb); have n2_ := Aside0.mk (Kd.V_below (by (with_reducible repeat (first | apply Kd.V_alloc | apply Kd.V_drewN | apply Kd.V_drew)); exact HO_333001.out) hb); have n3_ := Aside0.mk (Kd.V_below (by (with_reducible repeat (first | apply Kd.V_alloc | apply Kd.V_drewN | apply Kd.V_drew)); exact HO349.out) hb); have n4_ := Aside0.mk (Kd.V_below (by (with_reducible repeat (first | apply Kd.V_alloc | apply Kd.V_drewN | apply Kd.V_drew)); exact HO355.out) hb); have n5_ := Aside0.mk (blk_below (g := gb332) (o := .cells #[.slice A1_0 l1_0.length c1_0, .slice A1_1 l1_1.length c1_1, .int .i64 a1_2, .int .i64 a1_3] 38 (0, 0)) (by (with_reducible repeat (first | refine blk_drewN ?_ _ | refine blk_drew ?_ | refine blk_alloc ?_ _)); exact BK332.out) hb); have n6_ := Aside0.mk (below_step (by repeat (first | (with_reducible first | exact HB.out | apply below_alloc | apply pw_below_drewN | apply below_drew1 | refine below_set ?_ GE332.out) | exact HB.out)) hb); clear HO_6; clear HO_333000; clear HO_333001; clear HO349; clear HO355; clear BK332; clear HB; have HO_6 := n0_; have HO_333000 := n1_; have HO_333001 := n2_; have HO349 := n3_; have HO355 := n4_; have BK332 := n5_; have HB := n6_; clear n0_ n1_ n2_ n3_ n4_ n5_ n6_; (try clear hb); (try clear hb2); (try clear hk); (try clear hi)))
                              have n0_ := Aside0.mk (Kd.N_drew HO_6.out)
                              have n1_ := Aside0.mk (Kd.V_drew HO_333000.out)
                              have n2_ := Aside0.mk (Kd.V_drew HO_333001.out)
                              have n3_ := Aside0.mk (Kd.V_drew HO349.out)
                              have n4_ := Aside0.mk (Kd.V_drew HO355.out)
                              have n5_ := Aside0.mk (blk_drew BK332.out)
                              have n6_ := Aside0.mk (below_drew1 HB.out)
                              clear HO_6
                              clear HO_333000
                              clear HO_333001
                              clear HO349
                              clear HO355
                              clear BK332
                              clear HB
                              have HO_6 := n0_
                              have HO_333000 := n1_
                              have HO_333001 := n2_
                              have HO349 := n3_
                              have HO355 := n4_
                              have BK332 := n5_
                              have HB := n6_
                              clear n0_ n1_ n2_ n3_ n4_ n5_ n6_
                              have q58 : (t343 : Int) ≤ ((t339.length : Int) : Int) := of_decide_eq_true (by first | (with_reducible assumption) | assumption)
                              obtain ⟨i058, hi058, _, hsz58, _⟩ := info_parts info38
                              have hroom58 : t339.length ≤ co22 := (Kd.N_reads' HO_6.out).2.1
                              have hC58 : Kd.F k38 _ _ Ao22 t339.length t339 := (Kd.V_at (base := w.heap.size) (Kd.N_V HO_6.out)).2.2
                              have hcut58 := cut_to (P := Try.prog) 24 38 .i64 Try.underlying24 hi058 Ao22 t339.length co22 t343 (of_decide_eq_true (by first | (with_reducible assumption) | assumption)) q58 hroom58
                              have hr58 := Kd.F_take (m := (t343 : Int).toNat) hC58 (by omega)
                              have hy58 : y357.length = (t343 : Int).toNat := (by rw [Ny357.out, List.length_take]; omega)
                              rw [← Ny357.out] at hr58
                              rw [← hy58] at hcut58
                              have HO361 := Aside0.mk (show Kd.V k38 38 _ w.heap.size _ (.slice Ao22 y357.length co22) y357 from Kd.V_mk (by omega) hr58)
                              have HC361 := Aside0.mk (show y357.length ≤ co22 from by omega)
                              clear hr58 hC58 hroom58 hi058 hsz58
                              have KY58 := Aside0.mk hy58
                              clear hy58
                              replace q58 := eq_true q58
                              have q59 : (t343 : Int) ≤ ((t339.length : Int) : Int) := of_decide_eq_true (by first | (with_reducible assumption) | assumption)
                              obtain ⟨i059, hi059, _, hsz59, _⟩ := info_parts info38
                              have hroom59 : t339.length ≤ co22 := (Kd.N_reads' HO_6.out).2.1
                              have hC59 : Kd.F k38 _ _ Ao22 t339.length t339 := (Kd.V_at (base := w.heap.size) (Kd.N_V HO_6.out)).2.2
                              have q059 : (0 : Int) ≤ (t343 : Int) := of_decide_eq_true (by first | (with_reducible assumption) | assumption)
                              have hcut59 := cut_from (P := Try.prog) 24 38 .i64 Try.underlying24 hi059 4 hsz59 Ao22 t339.length co22 t343 q059 q59
                              have hr59 := Kd.F_cut (m := (t343 : Int).toNat) (c := co22) hC59 (by omega) hroom59
                              obtain ⟨A59, hA59⟩ : ∃ A1, A1 = (if co22 = (t343 : Int).toNat then Ao22 else (Ao22 : Option Addr).map (·.add ((t343 : Int).toNat * 4))) := ⟨_, rfl⟩
                              obtain ⟨c59, hc59⟩ : ∃ c1, c1 = co22 - (t343 : Int).toNat := ⟨_, rfl⟩
                              have hy59 : y362.length = t339.length - (t343 : Int).toNat := (by rw [Ny362.out, List.length_drop] <;> omega)
                              rw [show (t339).drop (t343 : Int).toNat = y362 from Ny362.out.symm] at hr59
                              replace hr59 : Kd.F k38 _ _ A59 y362.length y362 := (by rw [hA59]; exact hr59)
                              rw [← hy59, ← hA59, ← hc59] at hcut59
                              have HO366 := Aside0.mk (show Kd.V k38 38 _ w.heap.size _ (.slice A59 y362.length c59) y362 from Kd.V_mk (by rw [hy59, hc59]; exact Nat.sub_le_sub_right hroom59 _) hr59)
                              have HC366 := Aside0.mk (show y362.length ≤ c59 from by rw [hy59, hc59]; exact Nat.sub_le_sub_right hroom59 _)
                              clear hr59 hC59 hroom59 hi059 hsz59 hc59
                              have KY59 := Aside0.mk hy59
                              have KA59 := Aside0.mk hA59
                              clear hy59 hA59
                              replace q59 := eq_true q59
                              refine start_ (n := 8) (S := fun w' => True) (ds := []) #[false, false, false, false, false, false, false, false] (by kernel_rfl) rfl rfl trivial (fun hHeld => ?_); refine with_tabW coppicelaw9_CutAlways.tab15 coppicelaw9_CutAlways.bits15 (fun HT_ HW_ => ?_)
                              generalize w56.drew = w57 at HO_6 HO_333000 HO_333001 HO349 HO355 BK332 HB HO361 HO366 hHeld ⊢
                              refine pure_ (i := 0) (N := some 61) (v := ?_) (a' := ?_) #[true, false, false, false, false, false, false, false] rfl rfl (any_of HT_.out (by kernel_rfl)) (fun _ _ _ h => h) (Or.inl ⟨by rfl, ?_⟩) ?_ ?_
                              rotate_left
                              · intro w'
                                go_simp
                                with_reducible rfl
                              rotate_left
                              · simp only [Act.put, List.setIfInBounds_toArray, List.set_cons_zero, List.set_cons_succ, i64_w, i32_w]
                                rfl
                              refine pure_ (i := 1) (N := some 62) (v := ?_) (a' := ?_) #[true, true, false, false, false, false, false, false] rfl rfl (any_of HT_.out (by kernel_rfl)) (fun _ _ _ h => h) (Or.inl ⟨by rfl, ?_⟩) ?_ ?_
                              rotate_left
                              · intro w'
                                go_simp
                                with_reducible rfl
                              rotate_left
                              · simp only [Act.put, List.setIfInBounds_toArray, List.set_cons_zero, List.set_cons_succ, i64_w, i32_w]
                                rfl
                              refine pure_ (i := 2) (N := some 63) (v := ?_) (a' := ?_) #[true, true, true, false, false, false, false, false] rfl rfl (any_of HT_.out (by kernel_rfl)) (fun _ _ _ h => h) (Or.inl ⟨by rfl, ?_⟩) ?_ ?_
                              rotate_left
                              · intro w'
                                go_simp
                                with_reducible rfl
                              rotate_left
                              · simp only [Act.put, List.setIfInBounds_toArray, List.set_cons_zero, List.set_cons_succ, i64_w, i32_w]
                                rfl
                              refine pure_ (i := 3) (N := some 64) (v := ?_) (a' := ?_) #[true, true, true, true, false, false, false, false] rfl rfl (any_of HT_.out (by kernel_rfl)) (fun _ _ _ h => h) (Or.inl ⟨by rfl, ?_⟩) ?_ ?_
                              rotate_left
                              · intro w'
                                go_simp
                                with_reducible rfl
                              rotate_left
                              · simp only [Act.put, List.setIfInBounds_toArray, List.set_cons_zero, List.set_cons_succ, i64_w, i32_w]
                                rfl
                              refine pure_ (i := 4) (N := some 65) (v := ?_) (a' := ?_) #[true, true, true, true, true, false, false, false] rfl rfl (any_of HT_.out (by kernel_rfl)) (fun _ _ _ h => h) (Or.inl ⟨by rfl, ?_⟩) ?_ ?_
                              rotate_left
                              · intro w'
                                go_simp
                                with_reducible rfl
                              rotate_left
                              · simp only [Act.put, List.setIfInBounds_toArray, List.set_cons_zero, List.set_cons_succ, i64_w, i32_w]
                                rfl
                              refine pure_ (i := 5) (N := some 66) (v := ?_) (a' := ?_) #[true, true, true, true, true, true, false, false] rfl rfl (any_of HT_.out (by kernel_rfl)) (fun _ _ _ h => h) (Or.inl ⟨by rfl, ?_⟩) ?_ ?_
                              rotate_left
                              · intro w'
                                go_simp
                                with_reducible rfl
                              rotate_left
                              · simp only [Act.put, List.setIfInBounds_toArray, List.set_cons_zero, List.set_cons_succ, i64_w, i32_w]
                                rfl
                              refine one_ (i := 6) (N := some 67) #[true, true, true, true, true, true, true, false] rfl rfl (one_of HT_.out (by kernel_rfl)) (by decide) (fun K hK => ?_)
                              refine goes_ Try.func20 (by kernel_rfl) rfl #[.slice Ao22 y357.length co22, .slice A59 y362.length c59] (by rfl) rfl rfl (by (try simp only [List.map_toArray, List.map_cons, List.map_nil]); first | done | rfl | (simp only [List.length_drop, List.length_take]; rfl) | (have he_ := (hcut55 w).symm.trans (hcut59 w); simp only [Result.ok.injEq, Value.slice.injEq, and_true] at he_; go_simp; (first | exact ⟨by rw [Ny345.out, Ny357.out], he_.1, he_.2.1, he_.2.2⟩ | rw [Ny345.out, Ny357.out]))) ?_
                              with_reducible refine (cut_JoinLeaves.calls kj28 _ _ y357 _ _ y362 t367 _ ?side1 ?side2 ?side3 ?side4 A42.out).mono ?_
                              (case side1 => repeat (first | exact (Kd.V_reads' HO361.out).2.2 | (with_reducible refine Kd.C_alloc ?_ _) | (with_reducible refine Kd.C_drewN ?_ _) | (with_reducible refine Kd.C_drew ?_)))
                              (case side2 => exact (Kd.V_reads' HO361.out).2.1)
                              (case side3 => repeat (first | exact (Kd.V_reads' HO366.out).2.2 | (with_reducible refine Kd.C_alloc ?_ _) | (with_reducible refine Kd.C_drewN ?_ _) | (with_reducible refine Kd.C_drew ?_)))
                              (case side4 => exact (Kd.V_reads' HO366.out).2.1)
                              rintro e w60 ⟨rfl, hb⟩
                              refine ⟨_, rfl, ?_⟩
                              have n0_ := Aside0.mk (Kd.N_below (by (with_reducible repeat (first | apply Kd.N_alloc | apply Kd.N_drewN | apply Kd.N_drew)); exact HO_6.out) hb)
                              have n1_ := Aside0.mk (Kd.V_below (by (with_reducible repeat (first | apply Kd.V_alloc | apply Kd.V_drewN | apply Kd.V_drew)); exact HO_333000.out) hb)
                              have n2_ := Aside0.mk (Kd.V_below (by (with_reducible repeat (first | apply Kd.V_alloc | apply Kd.V_drewN | apply Kd.V_drew)); exact HO_333001.out) hb)
                              have n3_ := Aside0.mk (Kd.V_below (by (with_reducible repeat (first | apply Kd.V_alloc | apply Kd.V_drewN | apply Kd.V_drew)); exact HO349.out) hb)
                              have n4_ := Aside0.mk (Kd.V_below (by (with_reducible repeat (first | apply Kd.V_alloc | apply Kd.V_drewN | apply Kd.V_drew)); exact HO355.out) hb)
                              have n5_ := Aside0.mk (Kd.V_below (by (with_reducible repeat (first | apply Kd.V_alloc | apply Kd.V_drewN | apply Kd.V_drew)); exact HO361.out) hb)
                              have n6_ := Aside0.mk (Kd.V_below (by (with_reducible repeat (first | apply Kd.V_alloc | apply Kd.V_drewN | apply Kd.V_drew)); exact HO366.out) hb)
                              have n7_ := Aside0.mk (blk_below (g := gb332) (o := .cells #[.slice A1_0 l1_0.length c1_0, .slice A1_1 l1_1.length c1_1, .int .i64 a1_2, .int .i64 a1_3] 38 (0, 0)) (by (with_reducible repeat (first | refine blk_drewN ?_ _ | refine blk_drew ?_ | refine blk_alloc ?_ _)); exact BK332.out) hb)
                              have n8_ := Aside0.mk (below_step (by repeat (first | (with_reducible first | exact HB.out | apply below_alloc | apply pw_below_drewN | apply below_drew1 | refine below_set ?_ GE332.out) | exact HB.out)) hb)
                              clear HO_6
                              clear HO_333000
                              clear HO_333001
                              clear HO349
                              clear HO355
                              clear HO361
                              clear HO366
                              clear BK332
                              clear HB
                              have HO_6 := n0_
                              have HO_333000 := n1_
                              have HO_333001 := n2_
                              have HO349 := n3_
                              have HO355 := n4_
                              have HO361 := n5_
                              have HO366 := n6_
                              have BK332 := n7_
                              have HB := n8_
                              clear n0_ n1_ n2_ n3_ n4_ n5_ n6_ n7_ n8_
                              (try clear hb)
                              (try clear hb2)
                              (try clear hk)
                              (try clear hi)
                              refine hK.out _ _ trivial (fun hHeld => ?_)
                              clear hK K
                              refine norm_ (a' := ?_) ?_ ?_
                              rotate_left
                              · show Act.put _ (some 67) _ = _
                                simp only [Act.put, List.setIfInBounds_toArray, List.set_cons_zero, List.set_cons_succ, i64_w, i32_w]
                                rfl
                              refine pure_ (i := 7) (N := some 11) (v := ?_) (a' := ?_) #[true, true, true, true, true, true, true, true] rfl rfl (any_of HT_.out (by kernel_rfl)) (fun _ _ _ h => h) (Or.inl ⟨by rfl, ?_⟩) ?_ ?_
                              rotate_left
                              · intro w'
                                go_simp
                                with_reducible rfl
                              rotate_left
                              · simp only [Act.put, List.setIfInBounds_toArray, List.set_cons_zero, List.set_cons_succ, i64_w, i32_w]
                                rfl
                              refine done_ (done_of HT_.out (by kernel_rfl)) ?_
                              try go_wp2
                              go_ret
                              exact ⟨by first | rfl | (simp [errW_none, errW_some] <;> rfl) | (simp [*, errW_none, errW_some] <;> rfl), by repeat (first | (with_reducible first | exact HB.out | apply below_alloc | apply pw_below_drewN | apply below_drew1 | refine below_set ?_ GE332.out) | exact HB.out)⟩
                          · rw [if_neg c43] at H
                            have c43b0 : decide (t350 ≤ 4092) = false := decide_eq_false c43
                            clear c43
                            obtain rfl := Option.some.inj H
                            have q61 : (t343 : Int) ≤ ((t339.length : Int) : Int) := of_decide_eq_true (by first | (with_reducible assumption) | assumption)
                            obtain ⟨i061, hi061, _, hsz61, _⟩ := info_parts info38
                            have hroom61 : t339.length ≤ co22 := (Kd.N_reads' HO_6.out).2.1
                            have hC61 : Kd.F k38 _ _ Ao22 t339.length t339 := (Kd.V_at (base := w.heap.size) (Kd.N_V HO_6.out)).2.2
                            have hcut61 := cut_to (P := Try.prog) 24 38 .i64 Try.underlying24 hi061 Ao22 t339.length co22 t343 (of_decide_eq_true (by first | (with_reducible assumption) | assumption)) q61 hroom61
                            have hr61 := Kd.F_take (m := (t343 : Int).toNat) hC61 (by omega)
                            have hy61 : y345.length = (t343 : Int).toNat := (by rw [Ny345.out, List.length_take]; omega)
                            rw [← Ny345.out] at hr61
                            rw [← hy61] at hcut61
                            have HO349 := Aside0.mk (show Kd.V k38 38 _ w.heap.size _ (.slice Ao22 y345.length co22) y345 from Kd.V_mk (by omega) hr61)
                            have HC349 := Aside0.mk (show y345.length ≤ co22 from by omega)
                            clear hr61 hC61 hroom61 hi061 hsz61
                            have KY61 := Aside0.mk hy61
                            clear hy61
                            replace q61 := eq_true q61
                            try go_wp2_with (first | ((with_reducible refine gate_callee (f := 24) rfl ?_); refine goesL_ (some 56) rfl rfl Try.func24 (by kernel_rfl) rfl #[.slice Ao22 y345.length co22] rfl (by (try simp only [List.map_toArray, List.map_cons, List.map_nil]); first | done | rfl | (simp only [List.length_drop, List.length_take]; rfl)) ?_; (with_reducible refine (leaf_Size.calls kj28 _ _ y345 t350 _ ?side1 ?side2 A34.out).mono ?_); (case side1 => repeat (first | exact (Kd.V_reads' HO349.out).2.2 | (with_reducible refine Kd.C_alloc ?_ _) | (with_reducible refine Kd.C_drewN ?_ _) | (with_reducible refine Kd.C_drew ?_))); (case side2 => exact (Kd.V_reads' HO349.out).2.1); rintro e w62 ⟨rfl, hb⟩; refine ⟨_, rfl, ?_⟩; have n0_ := Aside0.mk (Kd.N_below (by (with_reducible repeat (first | apply Kd.N_alloc | apply Kd.N_drewN | apply Kd.N_drew)); exact HO_6.out) hb); have n1_ := Aside0.mk (Kd.V_below (by (with_reducible repeat (first | apply Kd.V_alloc | apply Kd.V_drewN | apply Kd.V_drew)); exact HO_333000.out) hb); have n2_ := Aside0.mk (Kd.V_below (by (with_reducible repeat (first | apply Kd.V_alloc | apply Kd.V_drewN | apply Kd.V_drew)); exact HO_333001.out) hb); have n3_ := Aside0.mk (Kd.V_below (by (with_reducible repeat (first | apply Kd.V_alloc | apply Kd.V_drewN | apply Kd.V_drew)); exact HO349.out) hb); have n4_ := Aside0.mk (blk_below (g := gb332) (o := .cells #[.slice A1_0 l1_0.length c1_0, .slice A1_1 l1_1.length c1_1, .int .i64 a1_2, .int .i64 a1_3] 38 (0, 0)) (by (with_reducible repeat (first | refine blk_drewN ?_ _ | refine blk_drew ?_ | refine blk_alloc ?_ _)); exact BK332.out) hb); have n5_ := Aside0.mk (below_step (by repeat (first | (with_reducible first | exact HB.out | apply below_alloc | apply pw_below_drewN | apply below_drew1 | refine below_set ?_ GE332.out) | exact HB.out)) hb); clear HO_6; clear HO_333000; clear HO_333001; clear HO349; clear BK332; clear HB; have HO_6 := n0_; have HO_333000 := n1_; have HO_333001 := n2_; have HO349 := n3_; have BK332 := n4_; have HB := n5_; clear n0_ n1_ n2_ n3_ n4_ n5_; (try clear hb); (try clear hb2); (try clear hk); (try clear hi); have q63 : (t343 : Int) ≤ ((t339.length : Int) : Int) := of_decide_eq_true (by first | (with_reducible assumption) | assumption); obtain ⟨i063, hi063, _, hsz63, _⟩ := info_parts info38; have hroom63 : t339.length ≤ co22 := (Kd.N_reads' HO_6.out).2.1; have hC63 : Kd.F k38 _ _ Ao22 t339.length t339 := (Kd.V_at (base := w.heap.size) (Kd.N_V HO_6.out)).2.2; have q063 : (0 : Int) ≤ (t343 : Int) := of_decide_eq_true (by first | (with_reducible assumption) | assumption); have hcut63 := cut_from (P := Try.prog) 24 38 .i64 Try.underlying24 hi063 4 hsz63 Ao22 t339.length co22 t343 q063 q63; have hr63 := Kd.F_cut (m := (t343 : Int).toNat) (c := co22) hC63 (by omega) hroom63; obtain ⟨A63, hA63⟩ : ∃ A1, A1 = (if co22 = (t343 : Int).toNat then Ao22 else (Ao22 : Option Addr).map (·.add ((t343 : Int).toNat * 4))) := ⟨_, rfl⟩; obtain ⟨c63, hc63⟩ : ∃ c1, c1 = co22 - (t343 : Int).toNat := ⟨_, rfl⟩; have hy63 : y351.length = t339.length - (t343 : Int).toNat := (by rw [Ny351.out, List.length_drop] <;> omega); rw [show (t339).drop (t343 : Int).toNat = y351 from Ny351.out.symm] at hr63; replace hr63 : Kd.F k38 _ _ A63 y351.length y351 := (by rw [hA63]; exact hr63); rw [← hy63, ← hA63, ← hc63] at hcut63; have HO355 := Aside0.mk (show Kd.V k38 38 _ w.heap.size _ (.slice A63 y351.length c63) y351 from Kd.V_mk (by rw [hy63, hc63]; exact Nat.sub_le_sub_right hroom63 _) hr63); have HC355 := Aside0.mk (show y351.length ≤ c63 from by rw [hy63, hc63]; exact Nat.sub_le_sub_right hroom63 _); clear hr63 hC63 hroom63 hi063 hsz63 hc63; have KY63 := Aside0.mk hy63; have KA63 := Aside0.mk hA63; clear hy63 hA63; replace q63 := eq_true q63) | ((with_reducible refine gate_callee (f := 24) rfl ?_); refine goesL_ (some 60) rfl rfl Try.func24 (by kernel_rfl) rfl #[.slice A63 y351.length c63] rfl (by (try simp only [List.map_toArray, List.map_cons, List.map_nil]); first | done | rfl | (simp only [List.length_drop, List.length_take]; rfl)) ?_; (with_reducible refine (leaf_Size.calls kj28 _ _ y351 t356 _ ?side1 ?side2 A37.out).mono ?_); (case side1 => repeat (first | exact (Kd.V_reads' HO355.out).2.2 | (with_reducible refine Kd.C_alloc ?_ _) | (with_reducible refine Kd.C_drewN ?_ _) | (with_reducible refine Kd.C_drew ?_))); (case side2 => exact (Kd.V_reads' HO355.out).2.1); rintro e w64 ⟨rfl, hb⟩; refine ⟨_, rfl, ?_⟩; have n0_ := Aside0.mk (Kd.N_below (by (with_reducible repeat (first | apply Kd.N_alloc | apply Kd.N_drewN | apply Kd.N_drew)); exact HO_6.out) hb); have n1_ := Aside0.mk (Kd.V_below (by (with_reducible repeat (first | apply Kd.V_alloc | apply Kd.V_drewN | apply Kd.V_drew)); exact HO_333000.out) hb); have n2_ := Aside0.mk (Kd.V_below (by (with_reducible repeat (first | apply Kd.V_alloc | apply Kd.V_drewN | apply Kd.V_drew)); exact HO_333001.out) hb); have n3_ := Aside0.mk (Kd.V_below (by (with_reducible repeat (first | apply Kd.V_alloc | apply Kd.V_drewN | apply Kd.V_drew)); exact HO349.out) hb); have n4_ := Aside0.mk (Kd.V_below (by (with_reducible repeat (first | apply Kd.V_alloc | apply Kd.V_drewN | apply Kd.V_drew)); exact HO355.out) hb); have n5_ := Aside0.mk (blk_below (g := gb332) (o := .cells #[.slice A1_0 l1_0.length c1_0, .slice A1_1 l1_1.length c1_1, .int .i64 a1_2, .int .i64 a1_3] 38 (0, 0)) (by (with_reducible repeat (first | refine blk_drewN ?_ _ | refine blk_drew ?_ | refine blk_alloc ?_ _)); exact BK332.out) hb); have n6_ := Aside0.mk (below_step (by repeat (first | (with_reducible first | exact HB.out | apply below_alloc | apply pw_below_drewN | apply below_drew1 | refine below_set ?_ GE332.out) | exact HB.out)) hb); clear HO_6; clear HO_333000; clear HO_333001; clear HO349; clear HO355; clear BK332; clear HB; have HO_6 := n0_; have HO_333000 := n1_; have HO_333001 := n2_; have HO349 := n3_; have HO355 := n4_; have BK332 := n5_; have HB := n6_; clear n0_ n1_ n2_ n3_ n4_ n5_ n6_; (try clear hb); (try clear hb2); (try clear hk); (try clear hi)))
                            have n0_ := Aside0.mk (Kd.N_drew HO_6.out)
                            have n1_ := Aside0.mk (Kd.V_drew HO_333000.out)
                            have n2_ := Aside0.mk (Kd.V_drew HO_333001.out)
                            have n3_ := Aside0.mk (Kd.V_drew HO349.out)
                            have n4_ := Aside0.mk (Kd.V_drew HO355.out)
                            have n5_ := Aside0.mk (blk_drew BK332.out)
                            have n6_ := Aside0.mk (below_drew1 HB.out)
                            clear HO_6
                            clear HO_333000
                            clear HO_333001
                            clear HO349
                            clear HO355
                            clear BK332
                            clear HB
                            have HO_6 := n0_
                            have HO_333000 := n1_
                            have HO_333001 := n2_
                            have HO349 := n3_
                            have HO355 := n4_
                            have BK332 := n5_
                            have HB := n6_
                            clear n0_ n1_ n2_ n3_ n4_ n5_ n6_
                            have q66 : (t343 : Int) ≤ ((t339.length : Int) : Int) := of_decide_eq_true (by first | (with_reducible assumption) | assumption)
                            obtain ⟨i066, hi066, _, hsz66, _⟩ := info_parts info38
                            have hroom66 : t339.length ≤ co22 := (Kd.N_reads' HO_6.out).2.1
                            have hC66 : Kd.F k38 _ _ Ao22 t339.length t339 := (Kd.V_at (base := w.heap.size) (Kd.N_V HO_6.out)).2.2
                            have hcut66 := cut_to (P := Try.prog) 24 38 .i64 Try.underlying24 hi066 Ao22 t339.length co22 t343 (of_decide_eq_true (by first | (with_reducible assumption) | assumption)) q66 hroom66
                            have hr66 := Kd.F_take (m := (t343 : Int).toNat) hC66 (by omega)
                            have hy66 : y357.length = (t343 : Int).toNat := (by rw [Ny357.out, List.length_take]; omega)
                            rw [← Ny357.out] at hr66
                            rw [← hy66] at hcut66
                            have HO361 := Aside0.mk (show Kd.V k38 38 _ w.heap.size _ (.slice Ao22 y357.length co22) y357 from Kd.V_mk (by omega) hr66)
                            have HC361 := Aside0.mk (show y357.length ≤ co22 from by omega)
                            clear hr66 hC66 hroom66 hi066 hsz66
                            have KY66 := Aside0.mk hy66
                            clear hy66
                            replace q66 := eq_true q66
                            have q67 : (t343 : Int) ≤ ((t339.length : Int) : Int) := of_decide_eq_true (by first | (with_reducible assumption) | assumption)
                            obtain ⟨i067, hi067, _, hsz67, _⟩ := info_parts info38
                            have hroom67 : t339.length ≤ co22 := (Kd.N_reads' HO_6.out).2.1
                            have hC67 : Kd.F k38 _ _ Ao22 t339.length t339 := (Kd.V_at (base := w.heap.size) (Kd.N_V HO_6.out)).2.2
                            have q067 : (0 : Int) ≤ (t343 : Int) := of_decide_eq_true (by first | (with_reducible assumption) | assumption)
                            have hcut67 := cut_from (P := Try.prog) 24 38 .i64 Try.underlying24 hi067 4 hsz67 Ao22 t339.length co22 t343 q067 q67
                            have hr67 := Kd.F_cut (m := (t343 : Int).toNat) (c := co22) hC67 (by omega) hroom67
                            obtain ⟨A67, hA67⟩ : ∃ A1, A1 = (if co22 = (t343 : Int).toNat then Ao22 else (Ao22 : Option Addr).map (·.add ((t343 : Int).toNat * 4))) := ⟨_, rfl⟩
                            obtain ⟨c67, hc67⟩ : ∃ c1, c1 = co22 - (t343 : Int).toNat := ⟨_, rfl⟩
                            have hy67 : y362.length = t339.length - (t343 : Int).toNat := (by rw [Ny362.out, List.length_drop] <;> omega)
                            rw [show (t339).drop (t343 : Int).toNat = y362 from Ny362.out.symm] at hr67
                            replace hr67 : Kd.F k38 _ _ A67 y362.length y362 := (by rw [hA67]; exact hr67)
                            rw [← hy67, ← hA67, ← hc67] at hcut67
                            have HO366 := Aside0.mk (show Kd.V k38 38 _ w.heap.size _ (.slice A67 y362.length c67) y362 from Kd.V_mk (by rw [hy67, hc67]; exact Nat.sub_le_sub_right hroom67 _) hr67)
                            have HC366 := Aside0.mk (show y362.length ≤ c67 from by rw [hy67, hc67]; exact Nat.sub_le_sub_right hroom67 _)
                            clear hr67 hC67 hroom67 hi067 hsz67 hc67
                            have KY67 := Aside0.mk hy67
                            have KA67 := Aside0.mk hA67
                            clear hy67 hA67
                            replace q67 := eq_true q67
                            refine start_ (n := 8) (S := fun w' => True) (ds := []) #[false, false, false, false, false, false, false, false] (by kernel_rfl) rfl rfl trivial (fun hHeld => ?_); refine with_tabW coppicelaw9_CutAlways.tab15 coppicelaw9_CutAlways.bits15 (fun HT_ HW_ => ?_)
                            generalize w64.drew = w65 at HO_6 HO_333000 HO_333001 HO349 HO355 BK332 HB HO361 HO366 hHeld ⊢
                            refine pure_ (i := 0) (N := some 61) (v := ?_) (a' := ?_) #[true, false, false, false, false, false, false, false] rfl rfl (any_of HT_.out (by kernel_rfl)) (fun _ _ _ h => h) (Or.inl ⟨by rfl, ?_⟩) ?_ ?_
                            rotate_left
                            · intro w'
                              go_simp
                              with_reducible rfl
                            rotate_left
                            · simp only [Act.put, List.setIfInBounds_toArray, List.set_cons_zero, List.set_cons_succ, i64_w, i32_w]
                              rfl
                            refine pure_ (i := 1) (N := some 62) (v := ?_) (a' := ?_) #[true, true, false, false, false, false, false, false] rfl rfl (any_of HT_.out (by kernel_rfl)) (fun _ _ _ h => h) (Or.inl ⟨by rfl, ?_⟩) ?_ ?_
                            rotate_left
                            · intro w'
                              go_simp
                              with_reducible rfl
                            rotate_left
                            · simp only [Act.put, List.setIfInBounds_toArray, List.set_cons_zero, List.set_cons_succ, i64_w, i32_w]
                              rfl
                            refine pure_ (i := 2) (N := some 63) (v := ?_) (a' := ?_) #[true, true, true, false, false, false, false, false] rfl rfl (any_of HT_.out (by kernel_rfl)) (fun _ _ _ h => h) (Or.inl ⟨by rfl, ?_⟩) ?_ ?_
                            rotate_left
                            · intro w'
                              go_simp
                              with_reducible rfl
                            rotate_left
                            · simp only [Act.put, List.setIfInBounds_toArray, List.set_cons_zero, List.set_cons_succ, i64_w, i32_w]
                              rfl
                            refine pure_ (i := 3) (N := some 64) (v := ?_) (a' := ?_) #[true, true, true, true, false, false, false, false] rfl rfl (any_of HT_.out (by kernel_rfl)) (fun _ _ _ h => h) (Or.inl ⟨by rfl, ?_⟩) ?_ ?_
                            rotate_left
                            · intro w'
                              go_simp
                              with_reducible rfl
                            rotate_left
                            · simp only [Act.put, List.setIfInBounds_toArray, List.set_cons_zero, List.set_cons_succ, i64_w, i32_w]
                              rfl
                            refine pure_ (i := 4) (N := some 65) (v := ?_) (a' := ?_) #[true, true, true, true, true, false, false, false] rfl rfl (any_of HT_.out (by kernel_rfl)) (fun _ _ _ h => h) (Or.inl ⟨by rfl, ?_⟩) ?_ ?_
                            rotate_left
                            · intro w'
                              go_simp
                              with_reducible rfl
                            rotate_left
                            · simp only [Act.put, List.setIfInBounds_toArray, List.set_cons_zero, List.set_cons_succ, i64_w, i32_w]
                              rfl
                            refine pure_ (i := 5) (N := some 66) (v := ?_) (a' := ?_) #[true, true, true, true, true, true, false, false] rfl rfl (any_of HT_.out (by kernel_rfl)) (fun _ _ _ h => h) (Or.inl ⟨by rfl, ?_⟩) ?_ ?_
                            rotate_left
                            · intro w'
                              go_simp
                              with_reducible rfl
                            rotate_left
                            · simp only [Act.put, List.setIfInBounds_toArray, List.set_cons_zero, List.set_cons_succ, i64_w, i32_w]
                              rfl
                            refine one_ (i := 6) (N := some 67) #[true, true, true, true, true, true, true, false] rfl rfl (one_of HT_.out (by kernel_rfl)) (by decide) (fun K hK => ?_)
                            refine goes_ Try.func20 (by kernel_rfl) rfl #[.slice Ao22 y357.length co22, .slice A67 y362.length c67] (by rfl) rfl rfl (by (try simp only [List.map_toArray, List.map_cons, List.map_nil]); first | done | rfl | (simp only [List.length_drop, List.length_take]; rfl) | (have he_ := (hcut63 w).symm.trans (hcut67 w); simp only [Result.ok.injEq, Value.slice.injEq, and_true] at he_; go_simp; (first | exact ⟨by rw [Ny345.out, Ny357.out], he_.1, he_.2.1, he_.2.2⟩ | rw [Ny345.out, Ny357.out]))) ?_
                            with_reducible refine (cut_JoinLeaves.calls kj28 _ _ y357 _ _ y362 t367 _ ?side1 ?side2 ?side3 ?side4 A42.out).mono ?_
                            (case side1 => repeat (first | exact (Kd.V_reads' HO361.out).2.2 | (with_reducible refine Kd.C_alloc ?_ _) | (with_reducible refine Kd.C_drewN ?_ _) | (with_reducible refine Kd.C_drew ?_)))
                            (case side2 => exact (Kd.V_reads' HO361.out).2.1)
                            (case side3 => repeat (first | exact (Kd.V_reads' HO366.out).2.2 | (with_reducible refine Kd.C_alloc ?_ _) | (with_reducible refine Kd.C_drewN ?_ _) | (with_reducible refine Kd.C_drew ?_)))
                            (case side4 => exact (Kd.V_reads' HO366.out).2.1)
                            rintro e w68 ⟨rfl, hb⟩
                            refine ⟨_, rfl, ?_⟩
                            have n0_ := Aside0.mk (Kd.N_below (by (with_reducible repeat (first | apply Kd.N_alloc | apply Kd.N_drewN | apply Kd.N_drew)); exact HO_6.out) hb)
                            have n1_ := Aside0.mk (Kd.V_below (by (with_reducible repeat (first | apply Kd.V_alloc | apply Kd.V_drewN | apply Kd.V_drew)); exact HO_333000.out) hb)
                            have n2_ := Aside0.mk (Kd.V_below (by (with_reducible repeat (first | apply Kd.V_alloc | apply Kd.V_drewN | apply Kd.V_drew)); exact HO_333001.out) hb)
                            have n3_ := Aside0.mk (Kd.V_below (by (with_reducible repeat (first | apply Kd.V_alloc | apply Kd.V_drewN | apply Kd.V_drew)); exact HO349.out) hb)
                            have n4_ := Aside0.mk (Kd.V_below (by (with_reducible repeat (first | apply Kd.V_alloc | apply Kd.V_drewN | apply Kd.V_drew)); exact HO355.out) hb)
                            have n5_ := Aside0.mk (Kd.V_below (by (with_reducible repeat (first | apply Kd.V_alloc | apply Kd.V_drewN | apply Kd.V_drew)); exact HO361.out) hb)
                            have n6_ := Aside0.mk (Kd.V_below (by (with_reducible repeat (first | apply Kd.V_alloc | apply Kd.V_drewN | apply Kd.V_drew)); exact HO366.out) hb)
                            have n7_ := Aside0.mk (blk_below (g := gb332) (o := .cells #[.slice A1_0 l1_0.length c1_0, .slice A1_1 l1_1.length c1_1, .int .i64 a1_2, .int .i64 a1_3] 38 (0, 0)) (by (with_reducible repeat (first | refine blk_drewN ?_ _ | refine blk_drew ?_ | refine blk_alloc ?_ _)); exact BK332.out) hb)
                            have n8_ := Aside0.mk (below_step (by repeat (first | (with_reducible first | exact HB.out | apply below_alloc | apply pw_below_drewN | apply below_drew1 | refine below_set ?_ GE332.out) | exact HB.out)) hb)
                            clear HO_6
                            clear HO_333000
                            clear HO_333001
                            clear HO349
                            clear HO355
                            clear HO361
                            clear HO366
                            clear BK332
                            clear HB
                            have HO_6 := n0_
                            have HO_333000 := n1_
                            have HO_333001 := n2_
                            have HO349 := n3_
                            have HO355 := n4_
                            have HO361 := n5_
                            have HO366 := n6_
                            have BK332 := n7_
                            have HB := n8_
                            clear n0_ n1_ n2_ n3_ n4_ n5_ n6_ n7_ n8_
                            (try clear hb)
                            (try clear hb2)
                            (try clear hk)
                            (try clear hi)
                            refine hK.out _ _ trivial (fun hHeld => ?_)
                            clear hK K
                            refine norm_ (a' := ?_) ?_ ?_
                            rotate_left
                            · show Act.put _ (some 67) _ = _
                              simp only [Act.put, List.setIfInBounds_toArray, List.set_cons_zero, List.set_cons_succ, i64_w, i32_w]
                              rfl
                            refine pure_ (i := 7) (N := some 11) (v := ?_) (a' := ?_) #[true, true, true, true, true, true, true, true] rfl rfl (any_of HT_.out (by kernel_rfl)) (fun _ _ _ h => h) (Or.inl ⟨by rfl, ?_⟩) ?_ ?_
                            rotate_left
                            · intro w'
                              go_simp
                              with_reducible rfl
                            rotate_left
                            · simp only [Act.put, List.setIfInBounds_toArray, List.set_cons_zero, List.set_cons_succ, i64_w, i32_w]
                              rfl
                            refine done_ (done_of HT_.out (by kernel_rfl)) ?_
                            try go_wp2
                            go_ret
                            exact ⟨by first | rfl | (simp [errW_none, errW_some] <;> rfl) | (simp [*, errW_none, errW_some] <;> rfl), by repeat (first | (with_reducible first | exact HB.out | apply below_alloc | apply pw_below_drewN | apply below_drew1 | refine below_set ?_ GE332.out) | exact HB.out)⟩
                        · rw [if_neg c33] at H
                          exact absurd H (by simp)
                      · rw [if_neg c32] at H
                        exact absurd H (by simp)

end Go.Proofs.Yteaiefkadmlabaa.P
