/- Machine steps of the program, written by a program of this session out of the translation. -/
import Derived.Test.YteaiefkadmlabaaP0
import Derived.Test.YteaiefkadmlabaaP7
import Derived.Test.YteaiefkadmlabaaHFirst
namespace Go.Proofs.Yteaiefkadmlabaa.P
open Go.RowKit Go.Proofs.YteaiefkadmlabaaW.PrintWords Go.Proofs.YteaiefkadmlabaaW.PrintLast Go.Proofs.YteaiefkadmlabaaW.PrintMore
attribute [local go_sem] max2_int min2_int max_two min_two max_three min_three max_four min_four   -- for this text's walks alone
set_option linter.unusedVariables false
set_option linter.unusedSimpArgs false

/-! ### coppicelaw9_CutSmaller: function 7 -/
mutual
def coppicelaw9_CutSmaller.j0 : Nat → List (S38) → List (List Int) → List Bool → Bool → Bool → Option (Bool)
  | 0, _, _, _, _, _ => none
  | k + 1, x0, x1, x2, x7, x30 => if x30 = true then (some x7) else (coppicelaw9_CutSmaller.l0 k x0 x1 x2 ([] : List (S38)) 0)
def coppicelaw9_CutSmaller.l0 : Nat → List (S38) → List (List Int) → List Bool → List (S38) → Int → Option (Bool)
  | 0, _, _, _, _, _ => none
  | k + 1, x0, x1, x2, x8, x9 => if x9 < (x0.length : Int) then (if x9 ≥ (x2.length : Int) then (if 0 ≤ x9 then (if x8.length < 2199023255552 then (coppicelaw9_CutSmaller.l0 k x0 x1 x2 (x8 ++ [(⟨(rd_T38 x0 x9).f0, (rd_T38 x0 x9).f1, (rd_T38 x0 x9).f2, (rd_T38 x0 x9).f3⟩ : S38)]) (wrap64 (x9 + 1))) else (none)) else (none)) else (if 0 ≤ x9 then (if x9 < (x2.length : Int) then (if rdOf false x2 x9 = true then (coppicelaw9_CutSmaller.l0 k x0 x1 x2 x8 (wrap64 (x9 + 1))) else (if x8.length < 2199023255552 then (coppicelaw9_CutSmaller.l0 k x0 x1 x2 (x8 ++ [(⟨(rd_T38 x0 x9).f0, (rd_T38 x0 x9).f1, (rd_T38 x0 x9).f2, (rd_T38 x0 x9).f3⟩ : S38)]) (wrap64 (x9 + 1))) else (none))) else (none)) else (none))) else (coppicelaw9_CutSmaller.l1 k x0 x1 x2 x8 ([] : List (List Int)) 0)
def coppicelaw9_CutSmaller.l1 : Nat → List (S38) → List (List Int) → List Bool → List (S38) → List (List Int) → Int → Option (Bool)
  | 0, _, _, _, _, _, _ => none
  | k + 1, x0, x1, x2, x8, x10, x11 => if x11 < (x1.length : Int) then (if x11 ≥ (x2.length : Int) then (if 0 ≤ x11 then (if x10.length < 5864062014805 then (coppicelaw9_CutSmaller.l1 k x0 x1 x2 x8 (x10 ++ [rd_L1 x1 x11]) (wrap64 (x11 + 1))) else (none)) else (none)) else (if 0 ≤ x11 then (if x11 < (x2.length : Int) then (if rdOf false x2 x11 = true then (coppicelaw9_CutSmaller.l1 k x0 x1 x2 x8 x10 (wrap64 (x11 + 1))) else (if x10.length < 5864062014805 then (coppicelaw9_CutSmaller.l1 k x0 x1 x2 x8 (x10 ++ [rd_L1 x1 x11]) (wrap64 (x11 + 1))) else (none))) else (none)) else (none))) else ((leaf_Size.f k x0).bind fun t297 => ((leaf_Size.f k x8).bind fun t298 => ((branch_Size.f k x1).bind fun t299 => ((branch_Size.f k x10).bind fun t300 => (if (x8.length : Int) < (x0.length : Int) then (if t298 ≥ t297 then (coppicelaw9_CutSmaller.j3 k x0 x8 true) else (if (x10.length : Int) < (x1.length : Int) then (coppicelaw9_CutSmaller.j3 k x0 x8 (decide (t300 ≥ t299))) else (coppicelaw9_CutSmaller.j3 k x0 x8 false))) else (if (x10.length : Int) < (x1.length : Int) then (coppicelaw9_CutSmaller.j3 k x0 x8 (decide (t300 ≥ t299))) else (coppicelaw9_CutSmaller.j3 k x0 x8 false)))))))
def coppicelaw9_CutSmaller.j3 : Nat → List (S38) → List (S38) → Bool → Option (Bool)
  | 0, _, _, _ => none
  | k + 1, x0, x8, x109 => if x109 = true then (some false) else ((cut_JoinLeaves.f k x0 ([] : List (S38))).bind fun t301 => ((cut_JoinLeaves.f k x8 ([] : List (S38))).bind fun t302 => (if t301 = true then (some t302) else (some true))))
end
def coppicelaw9_CutSmaller.f (k : Nat) (l0 : List (S38)) (l1 : List (List Int)) (l2 : List Bool) : Option (Bool) := (coppicelaw9_first.f).bind fun t278 => (if t278 = true then (if (l0.length : Int) > 400 then (coppicelaw9_CutSmaller.j0 k l0 l1 l2 t278 true) else (coppicelaw9_CutSmaller.j0 k l0 l1 l2 t278 (decide ((l1.length : Int) > 400)))) else (coppicelaw9_CutSmaller.j0 k l0 l1 l2 t278 true))
theorem coppicelaw9_CutSmaller.mono_l : ∀ k, (∀ y0 y1 y2 y3 y4, LeO (coppicelaw9_CutSmaller.j0 k y0 y1 y2 y3 y4) (coppicelaw9_CutSmaller.j0 (k + 1) y0 y1 y2 y3 y4)) ∧ (∀ y0 y1 y2 y3 y4, LeO (coppicelaw9_CutSmaller.l0 k y0 y1 y2 y3 y4) (coppicelaw9_CutSmaller.l0 (k + 1) y0 y1 y2 y3 y4)) ∧ (∀ y0 y1 y2 y3 y4 y5, LeO (coppicelaw9_CutSmaller.l1 k y0 y1 y2 y3 y4 y5) (coppicelaw9_CutSmaller.l1 (k + 1) y0 y1 y2 y3 y4 y5)) ∧ (∀ y0 y1 y2, LeO (coppicelaw9_CutSmaller.j3 k y0 y1 y2) (coppicelaw9_CutSmaller.j3 (k + 1) y0 y1 y2))
  | 0 => ⟨fun _ _ _ _ _ r h => by simp [coppicelaw9_CutSmaller.j0] at h, fun _ _ _ _ _ r h => by simp [coppicelaw9_CutSmaller.l0] at h, fun _ _ _ _ _ _ r h => by simp [coppicelaw9_CutSmaller.l1] at h, fun _ _ _ r h => by simp [coppicelaw9_CutSmaller.j3] at h⟩
  | k + 1 => by
    obtain ⟨ih0, ih1, ih2, ih3⟩ := coppicelaw9_CutSmaller.mono_l k
    refine ⟨?_, ?_, ?_, ?_⟩
    · intro y0 y1 y2 y3 y4
      unfold coppicelaw9_CutSmaller.j0
      repeat' first
      | (with_reducible exact ih0 _ _ _ _ _)
      | (with_reducible exact ih1 _ _ _ _ _)
      | (with_reducible exact ih2 _ _ _ _ _ _)
      | (with_reducible exact ih3 _ _ _)
      | (with_reducible exact branch_Size.mono _ _)
      | (with_reducible exact cut_JoinLeaves.mono _ _ _)
      | (with_reducible exact leaf_Size.mono _ _)
      | (with_reducible exact LeO.refl _)
      | (with_reducible exact LeO.none _)
      | (with_reducible refine LeO.ite ?_ ?_)
      | (with_reducible refine LeO.bind ?_ (fun _ => ?_))
      | exact ih0 _ _ _ _ _
      | exact ih1 _ _ _ _ _
      | exact ih2 _ _ _ _ _ _
      | exact ih3 _ _ _
      | exact branch_Size.mono _ _
      | exact cut_JoinLeaves.mono _ _ _
      | exact leaf_Size.mono _ _
      | exact LeO.none _
      | refine LeO.ite ?_ ?_
      | refine LeO.bind ?_ (fun _ => ?_)
    · intro y0 y1 y2 y3 y4
      unfold coppicelaw9_CutSmaller.l0
      repeat' first
      | (with_reducible exact ih0 _ _ _ _ _)
      | (with_reducible exact ih1 _ _ _ _ _)
      | (with_reducible exact ih2 _ _ _ _ _ _)
      | (with_reducible exact ih3 _ _ _)
      | (with_reducible exact branch_Size.mono _ _)
      | (with_reducible exact cut_JoinLeaves.mono _ _ _)
      | (with_reducible exact leaf_Size.mono _ _)
      | (with_reducible exact LeO.refl _)
      | (with_reducible exact LeO.none _)
      | (with_reducible refine LeO.ite ?_ ?_)
      | (with_reducible refine LeO.bind ?_ (fun _ => ?_))
      | exact ih0 _ _ _ _ _
      | exact ih1 _ _ _ _ _
      | exact ih2 _ _ _ _ _ _
      | exact ih3 _ _ _
      | exact branch_Size.mono _ _
      | exact cut_JoinLeaves.mono _ _ _
      | exact leaf_Size.mono _ _
      | exact LeO.none _
      | refine LeO.ite ?_ ?_
      | refine LeO.bind ?_ (fun _ => ?_)
    · intro y0 y1 y2 y3 y4 y5
      unfold coppicelaw9_CutSmaller.l1
      repeat' first
      | (with_reducible exact ih0 _ _ _ _ _)
      | (with_reducible exact ih1 _ _ _ _ _)
      | (with_reducible exact ih2 _ _ _ _ _ _)
      | (with_reducible exact ih3 _ _ _)
      | (with_reducible exact branch_Size.mono _ _)
      | (with_reducible exact cut_JoinLeaves.mono _ _ _)
      | (with_reducible exact leaf_Size.mono _ _)
      | (with_reducible exact LeO.refl _)
      | (with_reducible exact LeO.none _)
      | (with_reducible refine LeO.ite ?_ ?_)
      | (with_reducible refine LeO.bind ?_ (fun _ => ?_))
      | exact ih0 _ _ _ _ _
      | exact ih1 _ _ _ _ _
      | exact ih2 _ _ _ _ _ _
      | exact ih3 _ _ _
      | exact branch_Size.mono _ _
      | exact cut_JoinLeaves.mono _ _ _
      | exact leaf_Size.mono _ _
      | exact LeO.none _
      | refine LeO.ite ?_ ?_
      | refine LeO.bind ?_ (fun _ => ?_)
    · intro y0 y1 y2
      unfold coppicelaw9_CutSmaller.j3
      repeat' first
      | (with_reducible exact ih0 _ _ _ _ _)
      | (with_reducible exact ih1 _ _ _ _ _)
      | (with_reducible exact ih2 _ _ _ _ _ _)
      | (with_reducible exact ih3 _ _ _)
      | (with_reducible exact branch_Size.mono _ _)
      | (with_reducible exact cut_JoinLeaves.mono _ _ _)
      | (with_reducible exact leaf_Size.mono _ _)
      | (with_reducible exact LeO.refl _)
      | (with_reducible exact LeO.none _)
      | (with_reducible refine LeO.ite ?_ ?_)
      | (with_reducible refine LeO.bind ?_ (fun _ => ?_))
      | exact ih0 _ _ _ _ _
      | exact ih1 _ _ _ _ _
      | exact ih2 _ _ _ _ _ _
      | exact ih3 _ _ _
      | exact branch_Size.mono _ _
      | exact cut_JoinLeaves.mono _ _ _
      | exact leaf_Size.mono _ _
      | exact LeO.none _
      | refine LeO.ite ?_ ?_
      | refine LeO.bind ?_ (fun _ => ?_)
theorem coppicelaw9_CutSmaller.mono : ∀ a0 a1 a2 k, LeO (coppicelaw9_CutSmaller.f k a0 a1 a2) (coppicelaw9_CutSmaller.f (k + 1) a0 a1 a2) := by
  intro a0 a1 a2 k
  obtain ⟨ih0, ih1, ih2, ih3⟩ := coppicelaw9_CutSmaller.mono_l k
  unfold coppicelaw9_CutSmaller.f
  repeat' first
      | (with_reducible exact ih0 _ _ _ _ _)
      | (with_reducible exact ih1 _ _ _ _ _)
      | (with_reducible exact ih2 _ _ _ _ _ _)
      | (with_reducible exact ih3 _ _ _)
      | (with_reducible exact branch_Size.mono _ _)
      | (with_reducible exact cut_JoinLeaves.mono _ _ _)
      | (with_reducible exact leaf_Size.mono _ _)
      | (with_reducible exact LeO.refl _)
      | (with_reducible exact LeO.none _)
      | (with_reducible refine LeO.ite ?_ ?_)
      | (with_reducible refine LeO.bind ?_ (fun _ => ?_))
      | exact ih0 _ _ _ _ _
      | exact ih1 _ _ _ _ _
      | exact ih2 _ _ _ _ _ _
      | exact ih3 _ _ _
      | exact branch_Size.mono _ _
      | exact cut_JoinLeaves.mono _ _ _
      | exact leaf_Size.mono _ _
      | exact LeO.none _
      | refine LeO.ite ?_ ?_
      | refine LeO.bind ?_ (fun _ => ?_)
set_option maxHeartbeats 8000000 in
set_option maxRecDepth 100000 in
theorem coppicelaw9_CutSmaller.calls (k : Nat) (P0_ : Nat → Prop) (A0 : Option Addr) (c0 : Nat) (l0 : List (S38)) (P1_ : Nat → Prop) (A1 : Option Addr) (c1 : Nat) (l1 : List (List Int)) (A2 : Option Addr) (c2 : Nat) (l2 : List Bool) (r : Bool) (w : World) (hs0 : Kd.V k38 38 w w.heap.size (fun k_ => P0_ k_) (.slice A0 l0.length c0) l0) (hs1 : Kd.V (Kd.slice 5 (Kd.int .u8)) 32 w w.heap.size (fun k_ => P1_ k_) (.slice A1 l1.length c1) l1) (hr2 : Kd.C Kd.bool w A2 l2.length l2) (hc2 : l2.length ≤ c2) (h : coppicelaw9_CutSmaller.f k l0 l1 l2 = some r) :
    Calls Try.prog 7 #[.slice A0 l0.length c0, .slice A1 l1.length c1, .slice A2 l2.length c2] w fun e w' => e = .returned (.bool r) ∧ Below w.heap.size w w' := by
  have hu38 := Try.underlying38
  have HO0 := Aside0.mk (show Kd.V k38 38 w w.heap.size (fun k_ => ((P0_ k_ ∨ P1_ k_) ∨ w.heap.size ≤ k_)) (.slice A0 l0.length c0) l0 from Kd.V_mono hs0 (fun k_ hk => .inl (.inl hk)))
  have HO1 := Aside0.mk (show Kd.V (Kd.slice 5 (Kd.int .u8)) 32 w w.heap.size (fun k_ => ((P0_ k_ ∨ P1_ k_) ∨ w.heap.size ≤ k_)) (.slice A1 l1.length c1) l1 from Kd.V_mono hs1 (fun k_ hk => .inl (.inr hk)))
  have HR2 := Aside0.mk hr2
  have HC2 := Aside0.mk hc2
  clear hr2 hc2
  have HB := Aside0.mk (Below.refl w.heap.size w)
  have H : ((coppicelaw9_first.f).bind fun t278 => (if t278 = true then (if (l0.length : Int) > 400 then (coppicelaw9_CutSmaller.j0 k l0 l1 l2 t278 true) else (coppicelaw9_CutSmaller.j0 k l0 l1 l2 t278 (decide ((l1.length : Int) > 400)))) else (coppicelaw9_CutSmaller.j0 k l0 l1 l2 t278 true))) = some r := h
  clear h
  replace H := Option.bind_eq_some_iff.mp H
  obtain ⟨t278, A40, H⟩ := H
  replace H : (if t278 = true then (if (l0.length : Int) > 400 then (coppicelaw9_CutSmaller.j0 k l0 l1 l2 t278 true) else (coppicelaw9_CutSmaller.j0 k l0 l1 l2 t278 (decide ((l1.length : Int) > 400)))) else (coppicelaw9_CutSmaller.j0 k l0 l1 l2 t278 true)) = some r := H
  have A4 := Aside0.mk A40
  clear A40
  have HC5 := Aside0.mk H
  clear H
  go_enter Try.func7, Try.ntmps7
  go_upto_region 2 with (first | ((with_reducible refine gate_callee (f := 11) rfl ?_); refine goesL_ (some 18) rfl rfl Try.func11 (by kernel_rfl) rfl #[] rfl (by (try simp only [List.map_toArray, List.map_cons, List.map_nil]); first | done | rfl | (simp only [List.length_drop, List.length_take]; rfl)) ?_; (with_reducible refine (coppicelaw9_first.calls  t278 _ A4.out).mono ?_); rintro e w6 ⟨rfl, hb⟩; refine ⟨_, rfl, ?_⟩; have n0_ := Aside0.mk (Kd.V_below (by (with_reducible repeat (first | apply Kd.V_alloc | apply Kd.V_drewN | apply Kd.V_drew)); exact HO0.out) hb); have n1_ := Aside0.mk (Kd.V_below (by (with_reducible repeat (first | apply Kd.V_alloc | apply Kd.V_drewN | apply Kd.V_drew)); exact HO1.out) hb); have n2_ := Aside0.mk (below_step (by repeat (first | (with_reducible first | exact HB.out | apply below_alloc | apply pw_below_drewN | apply below_drew1) | exact HB.out)) hb); clear HO0; clear HO1; clear HB; have HO0 := n0_; have HO1 := n1_; have HB := n2_; clear n0_ n1_ n2_; (try clear hb); (try clear hb2); (try clear hk); (try clear hi)))
  (try simp only [Act.put, List.setIfInBounds_toArray, List.set_cons_zero, List.set_cons_succ])
  go_cut [30] (fun v30 wc => ∃ (kq : Nat) (x30_4 : Bool), v30 = .bool x30_4 ∧ Aside0 (coppicelaw9_CutSmaller.j0 kq l0 l1 l2 t278 x30_4 = some r) ∧ Aside0 (kq ≤ k) ∧ Aside0 (Kd.V k38 38 wc w.heap.size (fun k_ => ((P0_ k_ ∨ P1_ k_) ∨ w.heap.size ≤ k_)) (.slice A0 l0.length c0) l0) ∧ Aside0 (Kd.V (Kd.slice 5 (Kd.int .u8)) 32 wc w.heap.size (fun k_ => ((P0_ k_ ∨ P1_ k_) ∨ w.heap.size ≤ k_)) (.slice A1 l1.length c1) l1) ∧ Aside0 (Below w.heap.size w wc))
  case first =>
    have H := HC5.out
    clear HC5
    by_cases c7 : t278 = true
    · subst c7
      have H1 : (if (l0.length : Int) > 400 then (coppicelaw9_CutSmaller.j0 k l0 l1 l2 true true) else (coppicelaw9_CutSmaller.j0 k l0 l1 l2 true (decide ((l1.length : Int) > 400)))) = some r := by rw [if_pos rfl] at H; exact H
      clear H
      have H := H1
      clear H1
      by_cases c8 : (l0.length : Int) > 400
      · rw [if_pos c8] at H
        have c8b0 : decide (400 < (l0.length : Int)) = true := decide_eq_true c8
        have c8b1 : decide (400 < l0.length) = true := decide_eq_true (by omega)
        clear c8
        (first | rw [c8b0] | (simp only [i64_w, i32_w]; rw [c8b0]) | skip)
        have H' := Aside0.mk H
        clear H
        go_wp2
        go_meet
        case rel => exact ⟨_, (true), (by first | rfl | (simp; done) | (simp [*]; done)), H', ⟨by first | omega | exact Nat.le_refl _⟩, ⟨by (with_reducible repeat (first | apply Kd.V_alloc | apply Kd.V_drewN | apply Kd.V_drew)); exact HO0.out⟩, ⟨by (with_reducible repeat (first | apply Kd.V_alloc | apply Kd.V_drewN | apply Kd.V_drew)); exact HO1.out⟩, ⟨by repeat (first | (with_reducible first | exact HB.out | apply below_alloc | apply pw_below_drewN | apply below_drew1) | exact HB.out)⟩⟩
      · rw [if_neg c8] at H
        have c8b0 : decide (400 < (l0.length : Int)) = false := decide_eq_false c8
        have c8b1 : decide (400 < l0.length) = false := decide_eq_false (by omega)
        clear c8
        (first | rw [c8b0] | (simp only [i64_w, i32_w]; rw [c8b0]) | skip)
        have H' := Aside0.mk H
        clear H
        go_wp2
        go_meet
        case rel => exact ⟨_, (decide ((l1.length : Int) > 400)), (by first | rfl | (simp; done) | (simp [*]; done)), H', ⟨by first | omega | exact Nat.le_refl _⟩, ⟨by (with_reducible repeat (first | apply Kd.V_alloc | apply Kd.V_drewN | apply Kd.V_drew)); exact HO0.out⟩, ⟨by (with_reducible repeat (first | apply Kd.V_alloc | apply Kd.V_drewN | apply Kd.V_drew)); exact HO1.out⟩, ⟨by repeat (first | (with_reducible first | exact HB.out | apply below_alloc | apply pw_below_drewN | apply below_drew1) | exact HB.out)⟩⟩
    · replace c7 := Bool.eq_false_iff.mpr c7
      subst c7
      have H1 : (coppicelaw9_CutSmaller.j0 k l0 l1 l2 false true) = some r := by rw [if_neg (show ¬ (false = true) by decide)] at H; exact H
      clear H
      have H := H1
      clear H1
      have H' := Aside0.mk H
      clear H
      go_wp2
      go_meet
      case rel => exact ⟨_, (true), (by first | rfl | (simp; done) | (simp [*]; done)), H', ⟨by first | omega | exact Nat.le_refl _⟩, ⟨by (with_reducible repeat (first | apply Kd.V_alloc | apply Kd.V_drewN | apply Kd.V_drew)); exact HO0.out⟩, ⟨by (with_reducible repeat (first | apply Kd.V_alloc | apply Kd.V_drewN | apply Kd.V_drew)); exact HO1.out⟩, ⟨by repeat (first | (with_reducible first | exact HB.out | apply below_alloc | apply pw_below_drewN | apply below_drew1) | exact HB.out)⟩⟩
  case rest =>
    clear HC5
    try clear c1
    try clear c2
    try clear p2
    try clear c7
    try clear c8
    try clear c8b0
    try clear c8b1
    obtain ⟨kq, x30_4, rfl, HA, HJ4, HO_0, HO_1, HB⟩ := hcut
    cases kq with
    | zero => exact absurd HA.out (by simp [coppicelaw9_CutSmaller.j0])
    | succ kj4 =>
      have H := HA.out
      clear HA
      simp only [coppicelaw9_CutSmaller.j0] at H
      by_cases c9 : x30_4 = true
      · subst c9
        have H1 : (some t278) = some r := by rw [if_pos rfl] at H; exact H
        clear H
        have H := H1
        clear H1
        obtain rfl := Option.some.inj H
        go_wp2
        go_ret
        exact ⟨by first | rfl | (simp [errW_none, errW_some] <;> rfl) | (simp [*, errW_none, errW_some] <;> rfl), by repeat (first | (with_reducible first | exact HB.out | apply below_alloc | apply pw_below_drewN | apply below_drew1) | exact HB.out)⟩
      · replace c9 := Bool.eq_false_iff.mpr c9
        subst c9
        have H1 : (coppicelaw9_CutSmaller.l0 kj4 l0 l1 l2 ([] : List (S38)) 0) = some r := by rw [if_neg (show ¬ (false = true) by decide)] at H; exact H
        clear H
        have H := H1
        clear H1
        have H' := Aside0.mk H
        clear H
        go_wp2
        go_loopg [8, 9] kj4 (fun kq v8 v9 w' => ∃ (x8_2 : List (S38)) (x9_2 : Int), v9 = .int .i64 x9_2 ∧ Aside0 (coppicelaw9_CutSmaller.l0 kq l0 l1 l2 x8_2 x9_2 = some r) ∧ Aside0 (kq ≤ kj4) ∧ Aside0 (Kd.V k38 38 w' w.heap.size (fun k_ => ((P0_ k_ ∨ P1_ k_) ∨ w.heap.size ≤ k_) ∧ some k_ ≠ (v8 : Value).ownBlock) (.slice A0 l0.length c0) l0) ∧ Aside0 (Kd.V (Kd.slice 5 (Kd.int .u8)) 32 w' w.heap.size (fun k_ => ((P0_ k_ ∨ P1_ k_) ∨ w.heap.size ≤ k_) ∧ some k_ ≠ (v8 : Value).ownBlock) (.slice A1 l1.length c1) l1) ∧ Aside0 (Kd.N k38 38 w' w.heap.size (fun k_ => ((P0_ k_ ∨ P1_ k_) ∨ w.heap.size ≤ k_)) v8 x8_2) ∧ Aside0 (Below w.heap.size w w'))
        case atStart => exact ⟨(([] : List (S38))), (0), (by first | rfl | (simp; done) | (simp [*]; done)), H', ⟨Nat.le_refl _⟩, ⟨by (with_reducible repeat (first | apply Kd.V_alloc | apply Kd.V_drewN | apply Kd.V_drew)); exact Kd.V_mono HO_0.out (fun _ hk => ⟨hk, (by simp [Value.ownBlock])⟩)⟩, ⟨by (with_reducible repeat (first | apply Kd.V_alloc | apply Kd.V_drewN | apply Kd.V_drew)); exact Kd.V_mono HO_1.out (fun _ hk => ⟨hk, (by simp [Value.ownBlock])⟩)⟩, ⟨by first | exact Kd.S_nil _ _ _ _ _ | exact Kd.N_nil _ _ _ _ _ | exact Kd.V_nil _ _ _ _ _ | exact Kd.Q_nil _ _ _ _ _ | exact Kd.R_nil _ _ _ _ _⟩, ⟨by repeat (first | (with_reducible first | exact HB.out | apply below_alloc | apply pw_below_drewN | apply below_drew1) | exact HB.out)⟩⟩
        case round =>
          clear H'
          try clear c1
          try clear c2
          try clear p2
          try clear c7
          try clear c8
          try clear c8b0
          try clear c8b1
          try clear c9
          try clear p2
          obtain ⟨x8_2, x9_2, rfl, HA, HK2, HO_0, HO_1, HO_8, HB⟩ := hrel
          cases gk with
          | zero => exact absurd HA.out (by simp [coppicelaw9_CutSmaller.l0])
          | succ k2 =>
            have H := HA.out
            clear HA
            simp only [coppicelaw9_CutSmaller.l0] at H
            by_cases c10 : x9_2 < (l0.length : Int)
            · rw [if_pos c10] at H
              have c10b0 : decide (x9_2 < (l0.length : Int)) = true := decide_eq_true c10
              clear c10
              by_cases c11 : x9_2 ≥ (l2.length : Int)
              · rw [if_pos c11] at H
                have c11b0 : decide ((l2.length : Int) ≤ x9_2) = true := decide_eq_true c11
                clear c11
                by_cases c12 : 0 ≤ x9_2
                · rw [if_pos c12] at H
                  have c12b0 : decide (0 ≤ x9_2) = true := decide_eq_true c12
                  clear c12
                  by_cases c13 : x8_2.length < 2199023255552
                  · rw [if_pos c13] at H
                    have LMc13 := Aside0.mk c13
                    clear c13
                    obtain ⟨y280, hy280⟩ : ∃ y_ : List (S38), y_ = (x8_2 ++ [(⟨(rd_T38 l0 x9_2).f0, (rd_T38 l0 x9_2).f1, (rd_T38 l0 x9_2).f2, (rd_T38 l0 x9_2).f3⟩ : S38)]) := ⟨_, rfl⟩
                    replace H : (coppicelaw9_CutSmaller.l0 k2 l0 l1 l2 y280 (wrap64 (x9_2 + 1))) = some r := by first | (rw [hy280]; with_reducible exact H) | (have H2_ := (Option.bind_some _ _).symm.trans H; rw [hy280]; with_reducible exact H2_) | (have H2_ := (Option.bind_some _ _).symm.trans H; with_reducible exact H2_) | with_reducible exact H | (rw [hy280]; exact H) | exact H
                    have Ny280 := Aside0.mk hy280
                    clear hy280
                    have H' := Aside0.mk H
                    clear H
                    have p279 : 0 ≤ (x9_2 : Int) := of_decide_eq_true (by first | (with_reducible assumption) | assumption)
                    have q279 : x9_2 < (l0.length : Int) := of_decide_eq_true (by first | (with_reducible assumption) | assumption)
                    obtain ⟨ad279, A279_0, c279_0, A279_1, c279_1, e279, hx279_0, hx279_1, hx279_2, hx279_3, hl279_0, hi279_0, hl279_1, hi279_1⟩ := at_T38 (Kd.V_reads' HO_0.out).2.2 x9_2 p279 q279
                    cases e279
                    obtain ⟨ce279, hce279, hMe279, hcc279⟩ := Kd.V_get HO_0.out z38 x9_2 p279 (by first | exact q279 | exact of_decide_eq_true (by first | (with_reducible assumption) | assumption) | (have e_ := (Kd.V_reads' HO_0.out).1; omega))
                    obtain ⟨ua279_0, uc279_0, ua279_1, uc279_1, rfl, ul279_0, ge279_0, ul279_1, ge279_1⟩ := k38_openF hMe279
                    have hv279_0 := hcc279 0 _ rfl
                    rw [Nat.add_zero] at hv279_0
                    replace hv279_0 := Option.some.inj (hv279_0.symm.trans hx279_0)
                    injection hv279_0 with hva_ hvn_ hvc_
                    rw [hva_] at ge279_0
                    rw [hvc_] at ul279_0
                    have HL279_0 := Aside0.mk (show Kd.V (Kd.int .u8) 5 _ w.heap.size _ _ ((rd_T38 l0 x9_2).f0) from Kd.V_mk ul279_0 ge279_0)
                    clear hva_ hvn_ hvc_ ge279_0 ul279_0
                    have hv279_1 := hcc279 1 _ rfl
                    rw [add_field _ _ 1 (by omega)] at hv279_1
                    replace hv279_1 := Option.some.inj (hv279_1.symm.trans hx279_1)
                    injection hv279_1 with hva_ hvn_ hvc_
                    rw [hva_] at ge279_1
                    rw [hvc_] at ul279_1
                    have HL279_1 := Aside0.mk (show Kd.V (Kd.int .u8) 5 _ w.heap.size _ _ ((rd_T38 l0 x9_2).f1) from Kd.V_mk ul279_1 ge279_1)
                    clear hva_ hvn_ hvc_ ge279_1 ul279_1
                    clear hcc279 hce279
                    have HR279_0 := Aside0.mk hi279_0
                    have HC279_0 := Aside0.mk hl279_0
                    clear hi279_0 hl279_0
                    have HR279_1 := Aside0.mk hi279_1
                    have HC279_1 := Aside0.mk hl279_1
                    clear hi279_1 hl279_1
                    replace p279 := eq_true p279
                    replace q279 := eq_true q279
                    go_wp2_with (first | ((with_reducible refine gate_builtin (b := .append) (xs := #[.tmp 49, .tmp 54]) rfl ?_); (try (refine gate_guard (by rfl) ?_; dsimp only)); at_builtin; refine Kd.N_append k38 (w0 := w) w.heap.size rfl (.tmp 49) (.tmp 54) 24 38 (.agg #[(.slice none 0 0), (.slice none 0 0), (.int .i64 0), (.int .i64 0)]) 64 rfl Try.underlying24 info38 rfl (by decide) (by omega) u8 x8_2 (⟨(rd_T38 l0 x9_2).f0, (rd_T38 l0 x9_2).f1, (rd_T38 l0 x9_2).f2, (rd_T38 l0 x9_2).f3⟩ : S38) [.slice A279_0 ((rd_T38 l0 x9_2).f0).length c279_0, .slice A279_1 ((rd_T38 l0 x9_2).f1).length c279_1, .int .i64 ((rd_T38 l0 x9_2).f2), .int .i64 ((rd_T38 l0 x9_2).f3)] (fun k_ => ((P0_ k_ ∨ P1_ k_) ∨ w.heap.size ≤ k_)) (fun k_ => ((fun k_ => ((P0_ k_ ∨ P1_ k_) ∨ w.heap.size ≤ k_))) k_ ∧ some k_ ≠ (u8 : Value).ownBlock) rfl rfl ?aP (fun _ hk => hk) ?aF ?aO ?aB ?aS ?aL ?_; (case aP => exact (k38_mkF _ _ (⟨(rd_T38 l0 x9_2).f0, (rd_T38 l0 x9_2).f1, (rd_T38 l0 x9_2).f2, (rd_T38 l0 x9_2).f3⟩ : S38) (Kd.V_reads' (Kd.V_mono (ok' := (fun k_ => ((fun k_ => ((P0_ k_ ∨ P1_ k_) ∨ w.heap.size ≤ k_))) k_ ∧ some k_ ≠ (u8 : Value).ownBlock)) (HL279_0.out) (fun k_ hk => ⟨hk.1, hk.2⟩))).2.1 (Kd.V_F (Kd.V_mono (ok' := (fun k_ => ((fun k_ => ((P0_ k_ ∨ P1_ k_) ∨ w.heap.size ≤ k_))) k_ ∧ some k_ ≠ (u8 : Value).ownBlock)) (HL279_0.out) (fun k_ hk => ⟨hk.1, hk.2⟩))) (Kd.V_reads' (Kd.V_mono (ok' := (fun k_ => ((fun k_ => ((P0_ k_ ∨ P1_ k_) ∨ w.heap.size ≤ k_))) k_ ∧ some k_ ≠ (u8 : Value).ownBlock)) (HL279_1.out) (fun k_ hk => ⟨hk.1, hk.2⟩))).2.1 (Kd.V_F (Kd.V_mono (ok' := (fun k_ => ((fun k_ => ((P0_ k_ ∨ P1_ k_) ∨ w.heap.size ≤ k_))) k_ ∧ some k_ ≠ (u8 : Value).ownBlock)) (HL279_1.out) (fun k_ hk => ⟨hk.1, hk.2⟩))))); (case aB => exact (by repeat (first | (with_reducible first | exact HB.out | apply below_alloc | apply pw_below_drewN | apply below_drew1) | exact HB.out))); (case aF => exact (fun k_ hk => (.inr (Nat.le_trans (below_size (by repeat (first | (with_reducible first | exact HB.out | apply below_alloc | apply pw_below_drewN | apply below_drew1) | exact HB.out))) hk)))); (case aO => exact (by (with_reducible repeat (first | apply Kd.N_alloc | apply Kd.N_drewN | apply Kd.N_drew)); exact HO_8.out)); (case aS => exact (below_size (by repeat (first | (with_reducible first | exact HB.out | apply below_alloc | apply pw_below_drewN | apply below_drew1) | exact HB.out)))); (case aL => have := LMc13.out; omega); intro v281 w14 ho hb hg hat; rw [← Ny280.out] at ho; have n0_ := Aside0.mk (Kd.V_afterv (ok := (fun k_ => ((P0_ k_ ∨ P1_ k_) ∨ w.heap.size ≤ k_))) (by (with_reducible repeat (first | apply Kd.V_alloc | apply Kd.V_drewN | apply Kd.V_drew)); exact HO_0.out) hg hat); have n1_ := Aside0.mk (Kd.V_afterv (ok := (fun k_ => ((P0_ k_ ∨ P1_ k_) ∨ w.heap.size ≤ k_))) (by (with_reducible repeat (first | apply Kd.V_alloc | apply Kd.V_drewN | apply Kd.V_drew)); exact HO_1.out) hg hat); have n2_ := Aside0.mk (Kd.V_afterv (ok := (fun k_ => ((P0_ k_ ∨ P1_ k_) ∨ w.heap.size ≤ k_))) (by (with_reducible repeat (first | apply Kd.V_alloc | apply Kd.V_drewN | apply Kd.V_drew)); exact HL279_0.out) hg hat); have n3_ := Aside0.mk (Kd.V_afterv (ok := (fun k_ => ((P0_ k_ ∨ P1_ k_) ∨ w.heap.size ≤ k_))) (by (with_reducible repeat (first | apply Kd.V_alloc | apply Kd.V_drewN | apply Kd.V_drew)); exact HL279_1.out) hg hat); have n4_ := Aside0.mk (hb); have n5_ := Aside0.mk (ho); clear HO_0; clear HO_1; clear HL279_0; clear HL279_1; clear HB; clear HO_8; have HO_0 := n0_; have HO_1 := n1_; have HL279_0 := n2_; have HL279_1 := n3_; have HB := n4_; have HO282 := n5_; clear n0_ n1_ n2_ n3_ n4_ n5_; clear ho hb hg hat))
                    go_roundg k2
                    case measure => have := HJ4.out; have := HK2.out; omega
                    case rel => exact ⟨(y280), (wrap64 (x9_2 + 1)), (by first | rfl | (simp; done) | (simp [*]; done)), H', ⟨by have := HJ4.out; have := HK2.out; omega⟩, ⟨by (with_reducible repeat (first | apply Kd.V_alloc | apply Kd.V_drewN | apply Kd.V_drew)); exact HO_0.out⟩, ⟨by (with_reducible repeat (first | apply Kd.V_alloc | apply Kd.V_drewN | apply Kd.V_drew)); exact HO_1.out⟩, ⟨by (with_reducible repeat (first | apply Kd.N_alloc | apply Kd.N_drewN | apply Kd.N_drew)); exact HO282.out⟩, ⟨by repeat (first | (with_reducible first | exact HB.out | apply below_alloc | apply pw_below_drewN | apply below_drew1) | exact HB.out)⟩⟩
                  · rw [if_neg c13] at H
                    exact absurd H (by simp)
                · rw [if_neg c12] at H
                  exact absurd H (by simp)
              · rw [if_neg c11] at H
                have c11b0 : decide ((l2.length : Int) ≤ x9_2) = false := decide_eq_false c11
                clear c11
                by_cases c15 : 0 ≤ x9_2
                · rw [if_pos c15] at H
                  have c15b0 : decide (0 ≤ x9_2) = true := decide_eq_true c15
                  clear c15
                  by_cases c16 : x9_2 < (l2.length : Int)
                  · rw [if_pos c16] at H
                    have c16b0 : decide (x9_2 < (l2.length : Int)) = true := decide_eq_true c16
                    clear c16
                    obtain ⟨bq17, hbq17⟩ : ∃ b_ : Bool, b_ = (rdOf false l2 x9_2) := ⟨_, rfl⟩
                    replace H : (if bq17 = true then (coppicelaw9_CutSmaller.l0 k2 l0 l1 l2 x8_2 (wrap64 (x9_2 + 1))) else (if x8_2.length < 2199023255552 then (coppicelaw9_CutSmaller.l0 k2 l0 l1 l2 (x8_2 ++ [(⟨(rd_T38 l0 x9_2).f0, (rd_T38 l0 x9_2).f1, (rd_T38 l0 x9_2).f2, (rd_T38 l0 x9_2).f3⟩ : S38)]) (wrap64 (x9_2 + 1))) else (none))) = some r := by rw [← hbq17] at H; exact H
                    have Nbq17 := Aside0.mk hbq17
                    clear hbq17
                    by_cases c18 : bq17 = true
                    · subst c18
                      have H1 : (coppicelaw9_CutSmaller.l0 k2 l0 l1 l2 x8_2 (wrap64 (x9_2 + 1))) = some r := by rw [if_pos rfl] at H; exact H
                      clear H
                      have H := H1
                      clear H1
                      have H' := Aside0.mk H
                      clear H
                      have p283 : 0 ≤ (x9_2 : Int) := of_decide_eq_true (by first | (with_reducible assumption) | assumption)
                      have q283 : x9_2 < (l2.length : Int) := of_decide_eq_true (by first | (with_reducible assumption) | assumption)
                      obtain ⟨ad283, e283, hx283_0⟩ := Kd.at_bool HR2.out x9_2 p283 q283
                      (try rw [← Nbq17.out] at hx283_0)
                      cases e283
                      replace hx283_0 := (HB.out.cell (World.block_lt_of_cell? w _ hx283_0)).trans hx283_0
                      replace p283 := eq_true p283
                      replace q283 := eq_true q283
                      go_wp2
                      go_roundg k2
                      case measure => have := HJ4.out; have := HK2.out; omega
                      case rel => exact ⟨(x8_2), (wrap64 (x9_2 + 1)), (by first | rfl | (simp; done) | (simp [*]; done)), H', ⟨by have := HJ4.out; have := HK2.out; omega⟩, ⟨by (with_reducible repeat (first | apply Kd.V_alloc | apply Kd.V_drewN | apply Kd.V_drew)); exact HO_0.out⟩, ⟨by (with_reducible repeat (first | apply Kd.V_alloc | apply Kd.V_drewN | apply Kd.V_drew)); exact HO_1.out⟩, ⟨by (with_reducible repeat (first | apply Kd.N_alloc | apply Kd.N_drewN | apply Kd.N_drew)); exact HO_8.out⟩, ⟨by repeat (first | (with_reducible first | exact HB.out | apply below_alloc | apply pw_below_drewN | apply below_drew1) | exact HB.out)⟩⟩
                    · replace c18 := Bool.eq_false_iff.mpr c18
                      subst c18
                      have H1 : (if x8_2.length < 2199023255552 then (coppicelaw9_CutSmaller.l0 k2 l0 l1 l2 (x8_2 ++ [(⟨(rd_T38 l0 x9_2).f0, (rd_T38 l0 x9_2).f1, (rd_T38 l0 x9_2).f2, (rd_T38 l0 x9_2).f3⟩ : S38)]) (wrap64 (x9_2 + 1))) else (none)) = some r := by rw [if_neg (show ¬ (false = true) by decide)] at H; exact H
                      clear H
                      have H := H1
                      clear H1
                      by_cases c19 : x8_2.length < 2199023255552
                      · rw [if_pos c19] at H
                        have LMc19 := Aside0.mk c19
                        clear c19
                        obtain ⟨y285, hy285⟩ : ∃ y_ : List (S38), y_ = (x8_2 ++ [(⟨(rd_T38 l0 x9_2).f0, (rd_T38 l0 x9_2).f1, (rd_T38 l0 x9_2).f2, (rd_T38 l0 x9_2).f3⟩ : S38)]) := ⟨_, rfl⟩
                        replace H : (coppicelaw9_CutSmaller.l0 k2 l0 l1 l2 y285 (wrap64 (x9_2 + 1))) = some r := by first | (rw [hy285]; with_reducible exact H) | (have H2_ := (Option.bind_some _ _).symm.trans H; rw [hy285]; with_reducible exact H2_) | (have H2_ := (Option.bind_some _ _).symm.trans H; with_reducible exact H2_) | with_reducible exact H | (rw [hy285]; exact H) | exact H
                        have Ny285 := Aside0.mk hy285
                        clear hy285
                        have H' := Aside0.mk H
                        clear H
                        have p283 : 0 ≤ (x9_2 : Int) := of_decide_eq_true (by first | (with_reducible assumption) | assumption)
                        have q283 : x9_2 < (l2.length : Int) := of_decide_eq_true (by first | (with_reducible assumption) | assumption)
                        obtain ⟨ad283, e283, hx283_0⟩ := Kd.at_bool HR2.out x9_2 p283 q283
                        (try rw [← Nbq17.out] at hx283_0)
                        cases e283
                        replace hx283_0 := (HB.out.cell (World.block_lt_of_cell? w _ hx283_0)).trans hx283_0
                        replace p283 := eq_true p283
                        replace q283 := eq_true q283
                        have p284 : 0 ≤ (x9_2 : Int) := of_decide_eq_true (by first | (with_reducible assumption) | assumption)
                        have q284 : x9_2 < (l0.length : Int) := of_decide_eq_true (by first | (with_reducible assumption) | assumption)
                        obtain ⟨ad284, A284_0, c284_0, A284_1, c284_1, e284, hx284_0, hx284_1, hx284_2, hx284_3, hl284_0, hi284_0, hl284_1, hi284_1⟩ := at_T38 (Kd.V_reads' HO_0.out).2.2 x9_2 p284 q284
                        cases e284
                        obtain ⟨ce284, hce284, hMe284, hcc284⟩ := Kd.V_get HO_0.out z38 x9_2 p284 (by first | exact q284 | exact of_decide_eq_true (by first | (with_reducible assumption) | assumption) | (have e_ := (Kd.V_reads' HO_0.out).1; omega))
                        obtain ⟨ua284_0, uc284_0, ua284_1, uc284_1, rfl, ul284_0, ge284_0, ul284_1, ge284_1⟩ := k38_openF hMe284
                        have hv284_0 := hcc284 0 _ rfl
                        rw [Nat.add_zero] at hv284_0
                        replace hv284_0 := Option.some.inj (hv284_0.symm.trans hx284_0)
                        injection hv284_0 with hva_ hvn_ hvc_
                        rw [hva_] at ge284_0
                        rw [hvc_] at ul284_0
                        have HL284_0 := Aside0.mk (show Kd.V (Kd.int .u8) 5 _ w.heap.size _ _ ((rd_T38 l0 x9_2).f0) from Kd.V_mk ul284_0 ge284_0)
                        clear hva_ hvn_ hvc_ ge284_0 ul284_0
                        have hv284_1 := hcc284 1 _ rfl
                        rw [add_field _ _ 1 (by omega)] at hv284_1
                        replace hv284_1 := Option.some.inj (hv284_1.symm.trans hx284_1)
                        injection hv284_1 with hva_ hvn_ hvc_
                        rw [hva_] at ge284_1
                        rw [hvc_] at ul284_1
                        have HL284_1 := Aside0.mk (show Kd.V (Kd.int .u8) 5 _ w.heap.size _ _ ((rd_T38 l0 x9_2).f1) from Kd.V_mk ul284_1 ge284_1)
                        clear hva_ hvn_ hvc_ ge284_1 ul284_1
                        clear hcc284 hce284
                        have HR284_0 := Aside0.mk hi284_0
                        have HC284_0 := Aside0.mk hl284_0
                        clear hi284_0 hl284_0
                        have HR284_1 := Aside0.mk hi284_1
                        have HC284_1 := Aside0.mk hl284_1
                        clear hi284_1 hl284_1
                        replace p284 := eq_true p284
                        replace q284 := eq_true q284
                        go_wp2_with (first | ((with_reducible refine gate_builtin (b := .append) (xs := #[.tmp 49, .tmp 54]) rfl ?_); (try (refine gate_guard (by rfl) ?_; dsimp only)); at_builtin; refine Kd.N_append k38 (w0 := w) w.heap.size rfl (.tmp 49) (.tmp 54) 24 38 (.agg #[(.slice none 0 0), (.slice none 0 0), (.int .i64 0), (.int .i64 0)]) 64 rfl Try.underlying24 info38 rfl (by decide) (by omega) u8 x8_2 (⟨(rd_T38 l0 x9_2).f0, (rd_T38 l0 x9_2).f1, (rd_T38 l0 x9_2).f2, (rd_T38 l0 x9_2).f3⟩ : S38) [.slice A284_0 ((rd_T38 l0 x9_2).f0).length c284_0, .slice A284_1 ((rd_T38 l0 x9_2).f1).length c284_1, .int .i64 ((rd_T38 l0 x9_2).f2), .int .i64 ((rd_T38 l0 x9_2).f3)] (fun k_ => ((P0_ k_ ∨ P1_ k_) ∨ w.heap.size ≤ k_)) (fun k_ => ((fun k_ => ((P0_ k_ ∨ P1_ k_) ∨ w.heap.size ≤ k_))) k_ ∧ some k_ ≠ (u8 : Value).ownBlock) rfl rfl ?aP (fun _ hk => hk) ?aF ?aO ?aB ?aS ?aL ?_; (case aP => exact (k38_mkF _ _ (⟨(rd_T38 l0 x9_2).f0, (rd_T38 l0 x9_2).f1, (rd_T38 l0 x9_2).f2, (rd_T38 l0 x9_2).f3⟩ : S38) (Kd.V_reads' (Kd.V_mono (ok' := (fun k_ => ((fun k_ => ((P0_ k_ ∨ P1_ k_) ∨ w.heap.size ≤ k_))) k_ ∧ some k_ ≠ (u8 : Value).ownBlock)) (HL284_0.out) (fun k_ hk => ⟨hk.1, hk.2⟩))).2.1 (Kd.V_F (Kd.V_mono (ok' := (fun k_ => ((fun k_ => ((P0_ k_ ∨ P1_ k_) ∨ w.heap.size ≤ k_))) k_ ∧ some k_ ≠ (u8 : Value).ownBlock)) (HL284_0.out) (fun k_ hk => ⟨hk.1, hk.2⟩))) (Kd.V_reads' (Kd.V_mono (ok' := (fun k_ => ((fun k_ => ((P0_ k_ ∨ P1_ k_) ∨ w.heap.size ≤ k_))) k_ ∧ some k_ ≠ (u8 : Value).ownBlock)) (HL284_1.out) (fun k_ hk => ⟨hk.1, hk.2⟩))).2.1 (Kd.V_F (Kd.V_mono (ok' := (fun k_ => ((fun k_ => ((P0_ k_ ∨ P1_ k_) ∨ w.heap.size ≤ k_))) k_ ∧ some k_ ≠ (u8 : Value).ownBlock)) (HL284_1.out) (fun k_ hk => ⟨hk.1, hk.2⟩))))); (case aB => exact (by repeat (first | (with_reducible first | exact HB.out | apply below_alloc | apply pw_below_drewN | apply below_drew1) | exact HB.out))); (case aF => exact (fun k_ hk => (.inr (Nat.le_trans (below_size (by repeat (first | (with_reducible first | exact HB.out | apply below_alloc | apply pw_below_drewN | apply below_drew1) | exact HB.out))) hk)))); (case aO => exact (by (with_reducible repeat (first | apply Kd.N_alloc | apply Kd.N_drewN | apply Kd.N_drew)); exact HO_8.out)); (case aS => exact (below_size (by repeat (first | (with_reducible first | exact HB.out | apply below_alloc | apply pw_below_drewN | apply below_drew1) | exact HB.out)))); (case aL => have := LMc19.out; omega); intro v286 w20 ho hb hg hat; rw [← Ny285.out] at ho; have n0_ := Aside0.mk (Kd.V_afterv (ok := (fun k_ => ((P0_ k_ ∨ P1_ k_) ∨ w.heap.size ≤ k_))) (by (with_reducible repeat (first | apply Kd.V_alloc | apply Kd.V_drewN | apply Kd.V_drew)); exact HO_0.out) hg hat); have n1_ := Aside0.mk (Kd.V_afterv (ok := (fun k_ => ((P0_ k_ ∨ P1_ k_) ∨ w.heap.size ≤ k_))) (by (with_reducible repeat (first | apply Kd.V_alloc | apply Kd.V_drewN | apply Kd.V_drew)); exact HO_1.out) hg hat); have n2_ := Aside0.mk (Kd.V_afterv (ok := (fun k_ => ((P0_ k_ ∨ P1_ k_) ∨ w.heap.size ≤ k_))) (by (with_reducible repeat (first | apply Kd.V_alloc | apply Kd.V_drewN | apply Kd.V_drew)); exact HL284_0.out) hg hat); have n3_ := Aside0.mk (Kd.V_afterv (ok := (fun k_ => ((P0_ k_ ∨ P1_ k_) ∨ w.heap.size ≤ k_))) (by (with_reducible repeat (first | apply Kd.V_alloc | apply Kd.V_drewN | apply Kd.V_drew)); exact HL284_1.out) hg hat); have n4_ := Aside0.mk (hb); have n5_ := Aside0.mk (ho); clear HO_0; clear HO_1; clear HL284_0; clear HL284_1; clear HB; clear HO_8; have HO_0 := n0_; have HO_1 := n1_; have HL284_0 := n2_; have HL284_1 := n3_; have HB := n4_; have HO287 := n5_; clear n0_ n1_ n2_ n3_ n4_ n5_; clear ho hb hg hat))
                        go_roundg k2
                        case measure => have := HJ4.out; have := HK2.out; omega
                        case rel => exact ⟨(y285), (wrap64 (x9_2 + 1)), (by first | rfl | (simp; done) | (simp [*]; done)), H', ⟨by have := HJ4.out; have := HK2.out; omega⟩, ⟨by (with_reducible repeat (first | apply Kd.V_alloc | apply Kd.V_drewN | apply Kd.V_drew)); exact HO_0.out⟩, ⟨by (with_reducible repeat (first | apply Kd.V_alloc | apply Kd.V_drewN | apply Kd.V_drew)); exact HO_1.out⟩, ⟨by (with_reducible repeat (first | apply Kd.N_alloc | apply Kd.N_drewN | apply Kd.N_drew)); exact HO287.out⟩, ⟨by repeat (first | (with_reducible first | exact HB.out | apply below_alloc | apply pw_below_drewN | apply below_drew1) | exact HB.out)⟩⟩
                      · rw [if_neg c19] at H
                        exact absurd H (by simp)
                  · rw [if_neg c16] at H
                    exact absurd H (by simp)
                · rw [if_neg c15] at H
                  exact absurd H (by simp)
            · rw [if_neg c10] at H
              have c10b0 : decide (x9_2 < (l0.length : Int)) = false := decide_eq_false c10
              clear c10
              have H' := Aside0.mk H
              clear H
              go_wp2
              go_loopg [10, 11] k2 (fun kq v10 v11 w' => ∃ (x10_3 : List (List Int)) (x11_3 : Int), v11 = .int .i64 x11_3 ∧ Aside0 (coppicelaw9_CutSmaller.l1 kq l0 l1 l2 x8_2 x10_3 x11_3 = some r) ∧ Aside0 (kq ≤ k2) ∧ Aside0 (Kd.V k38 38 w' w.heap.size (fun k_ => ((P0_ k_ ∨ P1_ k_) ∨ w.heap.size ≤ k_) ∧ some k_ ≠ (u8 : Value).ownBlock ∧ some k_ ≠ (v10 : Value).ownBlock) (.slice A0 l0.length c0) l0) ∧ Aside0 (Kd.V (Kd.slice 5 (Kd.int .u8)) 32 w' w.heap.size (fun k_ => ((P0_ k_ ∨ P1_ k_) ∨ w.heap.size ≤ k_) ∧ some k_ ≠ (u8 : Value).ownBlock ∧ some k_ ≠ (v10 : Value).ownBlock) (.slice A1 l1.length c1) l1) ∧ Aside0 (Kd.N k38 38 w' w.heap.size (fun k_ => ((P0_ k_ ∨ P1_ k_) ∨ w.heap.size ≤ k_) ∧ some k_ ≠ (v10 : Value).ownBlock) u8 x8_2) ∧ Aside0 (Kd.N (Kd.slice 5 (Kd.int .u8)) 32 w' w.heap.size (fun k_ => ((P0_ k_ ∨ P1_ k_) ∨ w.heap.size ≤ k_) ∧ some k_ ≠ (u8 : Value).ownBlock) v10 x10_3) ∧ Aside0 (Below w.heap.size w w'))
              case atStart => exact ⟨(([] : List (List Int))), (0), (by first | rfl | (simp; done) | (simp [*]; done)), H', ⟨Nat.le_refl _⟩, ⟨by (with_reducible repeat (first | apply Kd.V_alloc | apply Kd.V_drewN | apply Kd.V_drew)); exact Kd.V_mono HO_0.out (fun _ hk => ⟨hk.1, ⟨hk.2, (by simp [Value.ownBlock])⟩⟩)⟩, ⟨by (with_reducible repeat (first | apply Kd.V_alloc | apply Kd.V_drewN | apply Kd.V_drew)); exact Kd.V_mono HO_1.out (fun _ hk => ⟨hk.1, ⟨hk.2, (by simp [Value.ownBlock])⟩⟩)⟩, ⟨by (with_reducible repeat (first | apply Kd.N_alloc | apply Kd.N_drewN | apply Kd.N_drew)); exact Kd.N_mono HO_8.out (fun _ hk => ⟨hk, (by simp [Value.ownBlock])⟩)⟩, ⟨by first | exact Kd.S_nil _ _ _ _ _ | exact Kd.N_nil _ _ _ _ _ | exact Kd.V_nil _ _ _ _ _ | exact Kd.Q_nil _ _ _ _ _ | exact Kd.R_nil _ _ _ _ _⟩, ⟨by repeat (first | (with_reducible first | exact HB.out | apply below_alloc | apply pw_below_drewN | apply below_drew1) | exact HB.out)⟩⟩
              case round =>
                clear H'
                try clear c1
                try clear q1
                try clear c2
                try clear p2
                try clear q2
                try clear hx2
                try clear p6
                try clear c7
                try clear c8
                try clear c8b0
                try clear c8b1
                try clear c9
                try clear c10
                try clear c10b0
                try clear c11
                try clear c11b0
                try clear c12
                try clear c12b0
                try clear c13
                try clear c15
                try clear c15b0
                try clear c16
                try clear c16b0
                try clear q17
                try clear c18
                try clear c19
                try clear hx279_0
                try clear hx279_1
                try clear hx279_2
                try clear hx279_3
                try clear hx283_0
                try clear hx284_0
                try clear hx284_1
                try clear hx284_2
                try clear hx284_3
                try clear p2
                try clear p279
                try clear p283
                try clear p284
                try clear q279
                try clear q283
                try clear q284
                obtain ⟨x10_3, x11_3, rfl, HA, HK3, HO_0, HO_1, HO_8, HO_10, HB⟩ := hrel
                cases gk with
                | zero => exact absurd HA.out (by simp [coppicelaw9_CutSmaller.l1])
                | succ k3 =>
                  have H := HA.out
                  clear HA
                  simp only [coppicelaw9_CutSmaller.l1] at H
                  by_cases c21 : x11_3 < (l1.length : Int)
                  · rw [if_pos c21] at H
                    have c21b0 : decide (x11_3 < (l1.length : Int)) = true := decide_eq_true c21
                    clear c21
                    by_cases c22 : x11_3 ≥ (l2.length : Int)
                    · rw [if_pos c22] at H
                      have c22b0 : decide ((l2.length : Int) ≤ x11_3) = true := decide_eq_true c22
                      clear c22
                      by_cases c23 : 0 ≤ x11_3
                      · rw [if_pos c23] at H
                        have c23b0 : decide (0 ≤ x11_3) = true := decide_eq_true c23
                        clear c23
                        by_cases c24 : x10_3.length < 5864062014805
                        · rw [if_pos c24] at H
                          have LMc24 := Aside0.mk c24
                          clear c24
                          obtain ⟨y289, hy289⟩ : ∃ y_ : List (List Int), y_ = (x10_3 ++ [rd_L1 l1 x11_3]) := ⟨_, rfl⟩
                          replace H : (coppicelaw9_CutSmaller.l1 k3 l0 l1 l2 x8_2 y289 (wrap64 (x11_3 + 1))) = some r := by first | (rw [hy289]; with_reducible exact H) | (have H2_ := (Option.bind_some _ _).symm.trans H; rw [hy289]; with_reducible exact H2_) | (have H2_ := (Option.bind_some _ _).symm.trans H; with_reducible exact H2_) | with_reducible exact H | (rw [hy289]; exact H) | exact H
                          have Ny289 := Aside0.mk hy289
                          clear hy289
                          have H' := Aside0.mk H
                          clear H
                          have p288 : 0 ≤ (x11_3 : Int) := of_decide_eq_true (by first | (with_reducible assumption) | assumption)
                          have q288 : x11_3 < (l1.length : Int) := of_decide_eq_true (by first | (with_reducible assumption) | assumption)
                          obtain ⟨ad288, A288_0, c288_0, e288, hx288_0, hl288_0, hi288_0⟩ := at_L1 (Kd.V_reads' HO_1.out).2.2 x11_3 p288 q288
                          cases e288
                          obtain ⟨ce288, hce288, hMe288, hcc288⟩ := Kd.V_get HO_1.out [] x11_3 p288 (by first | exact q288 | exact of_decide_eq_true (by first | (with_reducible assumption) | assumption) | (have e_ := (Kd.V_reads' HO_1.out).1; omega))
                          obtain ⟨ua288_0, uc288_0, rfl, ul288_0, ge288_0⟩ := Kd.FK_slice_open hMe288
                          have hv288_0 := hcc288 0 _ rfl
                          rw [Nat.add_zero, show ((Kd.slice 5 (Kd.int .u8))).sz = 1 from rfl, Nat.mul_one] at hv288_0
                          replace hv288_0 := Option.some.inj (hv288_0.symm.trans hx288_0)
                          injection hv288_0 with hva_ hvn_ hvc_
                          rw [hva_] at ge288_0
                          rw [hvc_] at ul288_0
                          have HL288_0 := Aside0.mk (show Kd.V (Kd.int .u8) 5 _ w.heap.size _ _ (rd_L1 l1 x11_3) from Kd.V_mk ul288_0 ge288_0)
                          clear hva_ hvn_ hvc_ ge288_0 ul288_0
                          clear hcc288 hce288
                          have HR288_0 := Aside0.mk hi288_0
                          have HC288_0 := Aside0.mk hl288_0
                          clear hi288_0 hl288_0
                          replace p288 := eq_true p288
                          replace q288 := eq_true q288
                          go_wp2_with (first | ((with_reducible refine gate_builtin (b := .append) (xs := #[.tmp 73, .tmp 78]) rfl ?_); (try (refine gate_guard (by rfl) ?_; dsimp only)); at_builtin; refine Kd.N_append (Kd.slice 5 (Kd.int .u8)) (w0 := w) w.heap.size rfl (.tmp 73) (.tmp 78) 28 32 (.slice none 0 0) 24 rfl Try.underlying28 info32 rfl (by decide) (by omega) u10 x10_3 (rd_L1 l1 x11_3) [.slice A288_0 (rd_L1 l1 x11_3).length c288_0] (fun k_ => ((P0_ k_ ∨ P1_ k_) ∨ w.heap.size ≤ k_) ∧ some k_ ≠ (u8 : Value).ownBlock) (fun k_ => ((fun k_ => ((P0_ k_ ∨ P1_ k_) ∨ w.heap.size ≤ k_) ∧ some k_ ≠ (u8 : Value).ownBlock)) k_ ∧ some k_ ≠ (u10 : Value).ownBlock) rfl rfl ?aP (fun _ hk => hk) ?aF ?aO ?aB ?aS ?aL ?_; (case aP => exact (Kd.FK_slice_mk (Kd.V_reads' (Kd.V_mono (ok' := (fun k_ => ((fun k_ => ((P0_ k_ ∨ P1_ k_) ∨ w.heap.size ≤ k_) ∧ some k_ ≠ (u8 : Value).ownBlock)) k_ ∧ some k_ ≠ (u10 : Value).ownBlock)) (HL288_0.out) (fun k_ hk => ⟨⟨hk.1, hk.2.1⟩, hk.2.2⟩))).2.1 (Kd.V_F (Kd.V_mono (ok' := (fun k_ => ((fun k_ => ((P0_ k_ ∨ P1_ k_) ∨ w.heap.size ≤ k_) ∧ some k_ ≠ (u8 : Value).ownBlock)) k_ ∧ some k_ ≠ (u10 : Value).ownBlock)) (HL288_0.out) (fun k_ hk => ⟨⟨hk.1, hk.2.1⟩, hk.2.2⟩))))); (case aB => exact (by repeat (first | (with_reducible first | exact HB.out | apply below_alloc | apply pw_below_drewN | apply below_drew1) | exact HB.out))); (case aF => exact (fun k_ hk => ⟨(.inr (Nat.le_trans (below_size (by repeat (first | (with_reducible first | exact HB.out | apply below_alloc | apply pw_below_drewN | apply below_drew1) | exact HB.out))) hk)), Kd.fresh' (Kd.N_lt (by (with_reducible repeat (first | apply Kd.N_alloc | apply Kd.N_drewN | apply Kd.N_drew)); exact HO_8.out)) k_ hk⟩)); (case aO => exact (by (with_reducible repeat (first | apply Kd.N_alloc | apply Kd.N_drewN | apply Kd.N_drew)); exact HO_10.out)); (case aS => exact (below_size (by repeat (first | (with_reducible first | exact HB.out | apply below_alloc | apply pw_below_drewN | apply below_drew1) | exact HB.out)))); (case aL => have := LMc24.out; omega); intro v290 w25 ho hb hg hat; rw [← Ny289.out] at ho; have n0_ := Aside0.mk (Kd.V_afterv (ok := (fun k_ => ((P0_ k_ ∨ P1_ k_) ∨ w.heap.size ≤ k_) ∧ some k_ ≠ (u8 : Value).ownBlock)) (by (with_reducible repeat (first | apply Kd.V_alloc | apply Kd.V_drewN | apply Kd.V_drew)); exact Kd.V_mono HO_0.out (fun _ hk => ⟨⟨hk.1, hk.2.1⟩, hk.2.2⟩)) hg hat); have n1_ := Aside0.mk (Kd.V_afterv (ok := (fun k_ => ((P0_ k_ ∨ P1_ k_) ∨ w.heap.size ≤ k_) ∧ some k_ ≠ (u8 : Value).ownBlock)) (by (with_reducible repeat (first | apply Kd.V_alloc | apply Kd.V_drewN | apply Kd.V_drew)); exact Kd.V_mono HO_1.out (fun _ hk => ⟨⟨hk.1, hk.2.1⟩, hk.2.2⟩)) hg hat); have n2_ := Aside0.mk (Kd.N_afterv (ok := (fun k_ => ((P0_ k_ ∨ P1_ k_) ∨ w.heap.size ≤ k_))) (by (with_reducible repeat (first | apply Kd.N_alloc | apply Kd.N_drewN | apply Kd.N_drew)); exact HO_8.out) hg hat); have n3_ := Aside0.mk (Kd.V_afterv (ok := (fun k_ => ((P0_ k_ ∨ P1_ k_) ∨ w.heap.size ≤ k_) ∧ some k_ ≠ (u8 : Value).ownBlock)) (by (with_reducible repeat (first | apply Kd.V_alloc | apply Kd.V_drewN | apply Kd.V_drew)); exact Kd.V_mono HL288_0.out (fun _ hk => ⟨⟨hk.1, hk.2.1⟩, hk.2.2⟩)) hg hat); have n4_ := Aside0.mk (hb); have n5_ := Aside0.mk (ho); clear HO_0; clear HO_1; clear HO_8; clear HL288_0; clear HB; clear HO_10; have HO_0 := n0_; have HO_1 := n1_; have HO_8 := n2_; have HL288_0 := n3_; have HB := n4_; have HO291 := n5_; clear n0_ n1_ n2_ n3_ n4_ n5_; clear ho hb hg hat))
                          go_roundg k3
                          case measure => have := HJ4.out; have := HK2.out; have := HK3.out; omega
                          case rel => exact ⟨(y289), (wrap64 (x11_3 + 1)), (by first | rfl | (simp; done) | (simp [*]; done)), H', ⟨by have := HJ4.out; have := HK2.out; have := HK3.out; omega⟩, ⟨by (with_reducible repeat (first | apply Kd.V_alloc | apply Kd.V_drewN | apply Kd.V_drew)); exact Kd.V_mono HO_0.out (fun _ hk => ⟨hk.1.1, ⟨hk.1.2, hk.2⟩⟩)⟩, ⟨by (with_reducible repeat (first | apply Kd.V_alloc | apply Kd.V_drewN | apply Kd.V_drew)); exact Kd.V_mono HO_1.out (fun _ hk => ⟨hk.1.1, ⟨hk.1.2, hk.2⟩⟩)⟩, ⟨by (with_reducible repeat (first | apply Kd.N_alloc | apply Kd.N_drewN | apply Kd.N_drew)); exact HO_8.out⟩, ⟨by (with_reducible repeat (first | apply Kd.N_alloc | apply Kd.N_drewN | apply Kd.N_drew)); exact HO291.out⟩, ⟨by repeat (first | (with_reducible first | exact HB.out | apply below_alloc | apply pw_below_drewN | apply below_drew1) | exact HB.out)⟩⟩
                        · rw [if_neg c24] at H
                          exact absurd H (by simp)
                      · rw [if_neg c23] at H
                        exact absurd H (by simp)
                    · rw [if_neg c22] at H
                      have c22b0 : decide ((l2.length : Int) ≤ x11_3) = false := decide_eq_false c22
                      clear c22
                      by_cases c26 : 0 ≤ x11_3
                      · rw [if_pos c26] at H
                        have c26b0 : decide (0 ≤ x11_3) = true := decide_eq_true c26
                        clear c26
                        by_cases c27 : x11_3 < (l2.length : Int)
                        · rw [if_pos c27] at H
                          have c27b0 : decide (x11_3 < (l2.length : Int)) = true := decide_eq_true c27
                          clear c27
                          obtain ⟨bq28, hbq28⟩ : ∃ b_ : Bool, b_ = (rdOf false l2 x11_3) := ⟨_, rfl⟩
                          replace H : (if bq28 = true then (coppicelaw9_CutSmaller.l1 k3 l0 l1 l2 x8_2 x10_3 (wrap64 (x11_3 + 1))) else (if x10_3.length < 5864062014805 then (coppicelaw9_CutSmaller.l1 k3 l0 l1 l2 x8_2 (x10_3 ++ [rd_L1 l1 x11_3]) (wrap64 (x11_3 + 1))) else (none))) = some r := by rw [← hbq28] at H; exact H
                          have Nbq28 := Aside0.mk hbq28
                          clear hbq28
                          by_cases c29 : bq28 = true
                          · subst c29
                            have H1 : (coppicelaw9_CutSmaller.l1 k3 l0 l1 l2 x8_2 x10_3 (wrap64 (x11_3 + 1))) = some r := by rw [if_pos rfl] at H; exact H
                            clear H
                            have H := H1
                            clear H1
                            have H' := Aside0.mk H
                            clear H
                            have p292 : 0 ≤ (x11_3 : Int) := of_decide_eq_true (by first | (with_reducible assumption) | assumption)
                            have q292 : x11_3 < (l2.length : Int) := of_decide_eq_true (by first | (with_reducible assumption) | assumption)
                            obtain ⟨ad292, e292, hx292_0⟩ := Kd.at_bool HR2.out x11_3 p292 q292
                            (try rw [← Nbq28.out] at hx292_0)
                            cases e292
                            replace hx292_0 := (HB.out.cell (World.block_lt_of_cell? w _ hx292_0)).trans hx292_0
                            replace p292 := eq_true p292
                            replace q292 := eq_true q292
                            go_wp2
                            go_roundg k3
                            case measure => have := HJ4.out; have := HK2.out; have := HK3.out; omega
                            case rel => exact ⟨(x10_3), (wrap64 (x11_3 + 1)), (by first | rfl | (simp; done) | (simp [*]; done)), H', ⟨by have := HJ4.out; have := HK2.out; have := HK3.out; omega⟩, ⟨by (with_reducible repeat (first | apply Kd.V_alloc | apply Kd.V_drewN | apply Kd.V_drew)); exact HO_0.out⟩, ⟨by (with_reducible repeat (first | apply Kd.V_alloc | apply Kd.V_drewN | apply Kd.V_drew)); exact HO_1.out⟩, ⟨by (with_reducible repeat (first | apply Kd.N_alloc | apply Kd.N_drewN | apply Kd.N_drew)); exact HO_8.out⟩, ⟨by (with_reducible repeat (first | apply Kd.N_alloc | apply Kd.N_drewN | apply Kd.N_drew)); exact HO_10.out⟩, ⟨by repeat (first | (with_reducible first | exact HB.out | apply below_alloc | apply pw_below_drewN | apply below_drew1) | exact HB.out)⟩⟩
                          · replace c29 := Bool.eq_false_iff.mpr c29
                            subst c29
                            have H1 : (if x10_3.length < 5864062014805 then (coppicelaw9_CutSmaller.l1 k3 l0 l1 l2 x8_2 (x10_3 ++ [rd_L1 l1 x11_3]) (wrap64 (x11_3 + 1))) else (none)) = some r := by rw [if_neg (show ¬ (false = true) by decide)] at H; exact H
                            clear H
                            have H := H1
                            clear H1
                            by_cases c30 : x10_3.length < 5864062014805
                            · rw [if_pos c30] at H
                              have LMc30 := Aside0.mk c30
                              clear c30
                              obtain ⟨y294, hy294⟩ : ∃ y_ : List (List Int), y_ = (x10_3 ++ [rd_L1 l1 x11_3]) := ⟨_, rfl⟩
                              replace H : (coppicelaw9_CutSmaller.l1 k3 l0 l1 l2 x8_2 y294 (wrap64 (x11_3 + 1))) = some r := by first | (rw [hy294]; with_reducible exact H) | (have H2_ := (Option.bind_some _ _).symm.trans H; rw [hy294]; with_reducible exact H2_) | (have H2_ := (Option.bind_some _ _).symm.trans H; with_reducible exact H2_) | with_reducible exact H | (rw [hy294]; exact H) | exact H
                              have Ny294 := Aside0.mk hy294
                              clear hy294
                              have H' := Aside0.mk H
                              clear H
                              have p292 : 0 ≤ (x11_3 : Int) := of_decide_eq_true (by first | (with_reducible assumption) | assumption)
                              have q292 : x11_3 < (l2.length : Int) := of_decide_eq_true (by first | (with_reducible assumption) | assumption)
                              obtain ⟨ad292, e292, hx292_0⟩ := Kd.at_bool HR2.out x11_3 p292 q292
                              (try rw [← Nbq28.out] at hx292_0)
                              cases e292
                              replace hx292_0 := (HB.out.cell (World.block_lt_of_cell? w _ hx292_0)).trans hx292_0
                              replace p292 := eq_true p292
                              replace q292 := eq_true q292
                              have p293 : 0 ≤ (x11_3 : Int) := of_decide_eq_true (by first | (with_reducible assumption) | assumption)
                              have q293 : x11_3 < (l1.length : Int) := of_decide_eq_true (by first | (with_reducible assumption) | assumption)
                              obtain ⟨ad293, A293_0, c293_0, e293, hx293_0, hl293_0, hi293_0⟩ := at_L1 (Kd.V_reads' HO_1.out).2.2 x11_3 p293 q293
                              cases e293
                              obtain ⟨ce293, hce293, hMe293, hcc293⟩ := Kd.V_get HO_1.out [] x11_3 p293 (by first | exact q293 | exact of_decide_eq_true (by first | (with_reducible assumption) | assumption) | (have e_ := (Kd.V_reads' HO_1.out).1; omega))
                              obtain ⟨ua293_0, uc293_0, rfl, ul293_0, ge293_0⟩ := Kd.FK_slice_open hMe293
                              have hv293_0 := hcc293 0 _ rfl
                              rw [Nat.add_zero, show ((Kd.slice 5 (Kd.int .u8))).sz = 1 from rfl, Nat.mul_one] at hv293_0
                              replace hv293_0 := Option.some.inj (hv293_0.symm.trans hx293_0)
                              injection hv293_0 with hva_ hvn_ hvc_
                              rw [hva_] at ge293_0
                              rw [hvc_] at ul293_0
                              have HL293_0 := Aside0.mk (show Kd.V (Kd.int .u8) 5 _ w.heap.size _ _ (rd_L1 l1 x11_3) from Kd.V_mk ul293_0 ge293_0)
                              clear hva_ hvn_ hvc_ ge293_0 ul293_0
                              clear hcc293 hce293
                              have HR293_0 := Aside0.mk hi293_0
                              have HC293_0 := Aside0.mk hl293_0
                              clear hi293_0 hl293_0
                              replace p293 := eq_true p293
                              replace q293 := eq_true q293
                              go_wp2_with (first | ((with_reducible refine gate_builtin (b := .append) (xs := #[.tmp 73, .tmp 78]) rfl ?_); (try (refine gate_guard (by rfl) ?_; dsimp only)); at_builtin; refine Kd.N_append (Kd.slice 5 (Kd.int .u8)) (w0 := w) w.heap.size rfl (.tmp 73) (.tmp 78) 28 32 (.slice none 0 0) 24 rfl Try.underlying28 info32 rfl (by decide) (by omega) u10 x10_3 (rd_L1 l1 x11_3) [.slice A293_0 (rd_L1 l1 x11_3).length c293_0] (fun k_ => ((P0_ k_ ∨ P1_ k_) ∨ w.heap.size ≤ k_) ∧ some k_ ≠ (u8 : Value).ownBlock) (fun k_ => ((fun k_ => ((P0_ k_ ∨ P1_ k_) ∨ w.heap.size ≤ k_) ∧ some k_ ≠ (u8 : Value).ownBlock)) k_ ∧ some k_ ≠ (u10 : Value).ownBlock) rfl rfl ?aP (fun _ hk => hk) ?aF ?aO ?aB ?aS ?aL ?_; (case aP => exact (Kd.FK_slice_mk (Kd.V_reads' (Kd.V_mono (ok' := (fun k_ => ((fun k_ => ((P0_ k_ ∨ P1_ k_) ∨ w.heap.size ≤ k_) ∧ some k_ ≠ (u8 : Value).ownBlock)) k_ ∧ some k_ ≠ (u10 : Value).ownBlock)) (HL293_0.out) (fun k_ hk => ⟨⟨hk.1, hk.2.1⟩, hk.2.2⟩))).2.1 (Kd.V_F (Kd.V_mono (ok' := (fun k_ => ((fun k_ => ((P0_ k_ ∨ P1_ k_) ∨ w.heap.size ≤ k_) ∧ some k_ ≠ (u8 : Value).ownBlock)) k_ ∧ some k_ ≠ (u10 : Value).ownBlock)) (HL293_0.out) (fun k_ hk => ⟨⟨hk.1, hk.2.1⟩, hk.2.2⟩))))); (case aB => exact (by repeat (first | (with_reducible first | exact HB.out | apply below_alloc | apply pw_below_drewN | apply below_drew1) | exact HB.out))); (case aF => exact (fun k_ hk => ⟨(.inr (Nat.le_trans (below_size (by repeat (first | (with_reducible first | exact HB.out | apply below_alloc | apply pw_below_drewN | apply below_drew1) | exact HB.out))) hk)), Kd.fresh' (Kd.N_lt (by (with_reducible repeat (first | apply Kd.N_alloc | apply Kd.N_drewN | apply Kd.N_drew)); exact HO_8.out)) k_ hk⟩)); (case aO => exact (by (with_reducible repeat (first | apply Kd.N_alloc | apply Kd.N_drewN | apply Kd.N_drew)); exact HO_10.out)); (case aS => exact (below_size (by repeat (first | (with_reducible first | exact HB.out | apply below_alloc | apply pw_below_drewN | apply below_drew1) | exact HB.out)))); (case aL => have := LMc30.out; omega); intro v295 w31 ho hb hg hat; rw [← Ny294.out] at ho; have n0_ := Aside0.mk (Kd.V_afterv (ok := (fun k_ => ((P0_ k_ ∨ P1_ k_) ∨ w.heap.size ≤ k_) ∧ some k_ ≠ (u8 : Value).ownBlock)) (by (with_reducible repeat (first | apply Kd.V_alloc | apply Kd.V_drewN | apply Kd.V_drew)); exact Kd.V_mono HO_0.out (fun _ hk => ⟨⟨hk.1, hk.2.1⟩, hk.2.2⟩)) hg hat); have n1_ := Aside0.mk (Kd.V_afterv (ok := (fun k_ => ((P0_ k_ ∨ P1_ k_) ∨ w.heap.size ≤ k_) ∧ some k_ ≠ (u8 : Value).ownBlock)) (by (with_reducible repeat (first | apply Kd.V_alloc | apply Kd.V_drewN | apply Kd.V_drew)); exact Kd.V_mono HO_1.out (fun _ hk => ⟨⟨hk.1, hk.2.1⟩, hk.2.2⟩)) hg hat); have n2_ := Aside0.mk (Kd.N_afterv (ok := (fun k_ => ((P0_ k_ ∨ P1_ k_) ∨ w.heap.size ≤ k_))) (by (with_reducible repeat (first | apply Kd.N_alloc | apply Kd.N_drewN | apply Kd.N_drew)); exact HO_8.out) hg hat); have n3_ := Aside0.mk (Kd.V_afterv (ok := (fun k_ => ((P0_ k_ ∨ P1_ k_) ∨ w.heap.size ≤ k_) ∧ some k_ ≠ (u8 : Value).ownBlock)) (by (with_reducible repeat (first | apply Kd.V_alloc | apply Kd.V_drewN | apply Kd.V_drew)); exact Kd.V_mono HL293_0.out (fun _ hk => ⟨⟨hk.1, hk.2.1⟩, hk.2.2⟩)) hg hat); have n4_ := Aside0.mk (hb); have n5_ := Aside0.mk (ho); clear HO_0; clear HO_1; clear HO_8; clear HL293_0; clear HB; clear HO_10; have HO_0 := n0_; have HO_1 := n1_; have HO_8 := n2_; have HL293_0 := n3_; have HB := n4_; have HO296 := n5_; clear n0_ n1_ n2_ n3_ n4_ n5_; clear ho hb hg hat))
                              go_roundg k3
                              case measure => have := HJ4.out; have := HK2.out; have := HK3.out; omega
                              case rel => exact ⟨(y294), (wrap64 (x11_3 + 1)), (by first | rfl | (simp; done) | (simp [*]; done)), H', ⟨by have := HJ4.out; have := HK2.out; have := HK3.out; omega⟩, ⟨by (with_reducible repeat (first | apply Kd.V_alloc | apply Kd.V_drewN | apply Kd.V_drew)); exact Kd.V_mono HO_0.out (fun _ hk => ⟨hk.1.1, ⟨hk.1.2, hk.2⟩⟩)⟩, ⟨by (with_reducible repeat (first | apply Kd.V_alloc | apply Kd.V_drewN | apply Kd.V_drew)); exact Kd.V_mono HO_1.out (fun _ hk => ⟨hk.1.1, ⟨hk.1.2, hk.2⟩⟩)⟩, ⟨by (with_reducible repeat (first | apply Kd.N_alloc | apply Kd.N_drewN | apply Kd.N_drew)); exact HO_8.out⟩, ⟨by (with_reducible repeat (first | apply Kd.N_alloc | apply Kd.N_drewN | apply Kd.N_drew)); exact HO296.out⟩, ⟨by repeat (first | (with_reducible first | exact HB.out | apply below_alloc | apply pw_below_drewN | apply below_drew1) | exact HB.out)⟩⟩
                            · rw [if_neg c30] at H
                              exact absurd H (by simp)
                        · rw [if_neg c27] at H
                          exact absurd H (by simp)
                      · rw [if_neg c26] at H
                        exact absurd H (by simp)
                  · rw [if_neg c21] at H
                    have c21b0 : decide (x11_3 < (l1.length : Int)) = false := decide_eq_false c21
                    clear c21
                    replace H := Option.bind_eq_some_iff.mp H
                    obtain ⟨t297, A320, H⟩ := H
                    replace H : ((leaf_Size.f k3 x8_2).bind fun t298 => ((branch_Size.f k3 l1).bind fun t299 => ((branch_Size.f k3 x10_3).bind fun t300 => (if (x8_2.length : Int) < (l0.length : Int) then (if t298 ≥ t297 then (coppicelaw9_CutSmaller.j3 k3 l0 x8_2 true) else (if (x10_3.length : Int) < (l1.length : Int) then (coppicelaw9_CutSmaller.j3 k3 l0 x8_2 (decide (t300 ≥ t299))) else (coppicelaw9_CutSmaller.j3 k3 l0 x8_2 false))) else (if (x10_3.length : Int) < (l1.length : Int) then (coppicelaw9_CutSmaller.j3 k3 l0 x8_2 (decide (t300 ≥ t299))) else (coppicelaw9_CutSmaller.j3 k3 l0 x8_2 false)))))) = some r := H
                    have A32 := Aside0.mk A320
                    clear A320
                    replace H := Option.bind_eq_some_iff.mp H
                    obtain ⟨t298, A330, H⟩ := H
                    replace H : ((branch_Size.f k3 l1).bind fun t299 => ((branch_Size.f k3 x10_3).bind fun t300 => (if (x8_2.length : Int) < (l0.length : Int) then (if t298 ≥ t297 then (coppicelaw9_CutSmaller.j3 k3 l0 x8_2 true) else (if (x10_3.length : Int) < (l1.length : Int) then (coppicelaw9_CutSmaller.j3 k3 l0 x8_2 (decide (t300 ≥ t299))) else (coppicelaw9_CutSmaller.j3 k3 l0 x8_2 false))) else (if (x10_3.length : Int) < (l1.length : Int) then (coppicelaw9_CutSmaller.j3 k3 l0 x8_2 (decide (t300 ≥ t299))) else (coppicelaw9_CutSmaller.j3 k3 l0 x8_2 false))))) = some r := H
                    have A33 := Aside0.mk A330
                    clear A330
                    replace H := Option.bind_eq_some_iff.mp H
                    obtain ⟨t299, A340, H⟩ := H
                    replace H : ((branch_Size.f k3 x10_3).bind fun t300 => (if (x8_2.length : Int) < (l0.length : Int) then (if t298 ≥ t297 then (coppicelaw9_CutSmaller.j3 k3 l0 x8_2 true) else (if (x10_3.length : Int) < (l1.length : Int) then (coppicelaw9_CutSmaller.j3 k3 l0 x8_2 (decide (t300 ≥ t299))) else (coppicelaw9_CutSmaller.j3 k3 l0 x8_2 false))) else (if (x10_3.length : Int) < (l1.length : Int) then (coppicelaw9_CutSmaller.j3 k3 l0 x8_2 (decide (t300 ≥ t299))) else (coppicelaw9_CutSmaller.j3 k3 l0 x8_2 false)))) = some r := H
                    have A34 := Aside0.mk A340
                    clear A340
                    replace H := Option.bind_eq_some_iff.mp H
                    obtain ⟨t300, A350, H⟩ := H
                    replace H : (if (x8_2.length : Int) < (l0.length : Int) then (if t298 ≥ t297 then (coppicelaw9_CutSmaller.j3 k3 l0 x8_2 true) else (if (x10_3.length : Int) < (l1.length : Int) then (coppicelaw9_CutSmaller.j3 k3 l0 x8_2 (decide (t300 ≥ t299))) else (coppicelaw9_CutSmaller.j3 k3 l0 x8_2 false))) else (if (x10_3.length : Int) < (l1.length : Int) then (coppicelaw9_CutSmaller.j3 k3 l0 x8_2 (decide (t300 ≥ t299))) else (coppicelaw9_CutSmaller.j3 k3 l0 x8_2 false))) = some r := H
                    have A35 := Aside0.mk A350
                    clear A350
                    have HC36 := Aside0.mk H
                    clear H
                    go_upto_region 20 with (first | ((with_reducible refine gate_callee (f := 24) rfl ?_); refine goesL_ (some 81) rfl rfl Try.func24 (by kernel_rfl) rfl #[.slice A0 l0.length c0] rfl (by (try simp only [List.map_toArray, List.map_cons, List.map_nil]); first | done | rfl | (simp only [List.length_drop, List.length_take]; rfl)) ?_; (with_reducible refine (leaf_Size.calls k3 _ _ l0 t297 _ ?side1 ?side2 A32.out).mono ?_); (case side1 => repeat (first | exact (Kd.V_reads' HO_0.out).2.2 | (with_reducible refine Kd.C_alloc ?_ _) | (with_reducible refine Kd.C_drewN ?_ _) | (with_reducible refine Kd.C_drew ?_))); (case side2 => exact (Kd.V_reads' HO_0.out).2.1); rintro e w37 ⟨rfl, hb⟩; refine ⟨_, rfl, ?_⟩; have n0_ := Aside0.mk (Kd.V_below (by (with_reducible repeat (first | apply Kd.V_alloc | apply Kd.V_drewN | apply Kd.V_drew)); exact HO_0.out) hb); have n1_ := Aside0.mk (Kd.V_below (by (with_reducible repeat (first | apply Kd.V_alloc | apply Kd.V_drewN | apply Kd.V_drew)); exact HO_1.out) hb); have n2_ := Aside0.mk (Kd.N_below (by (with_reducible repeat (first | apply Kd.N_alloc | apply Kd.N_drewN | apply Kd.N_drew)); exact HO_8.out) hb); have n3_ := Aside0.mk (Kd.N_below (by (with_reducible repeat (first | apply Kd.N_alloc | apply Kd.N_drewN | apply Kd.N_drew)); exact HO_10.out) hb); have n4_ := Aside0.mk (below_step (by repeat (first | (with_reducible first | exact HB.out | apply below_alloc | apply pw_below_drewN | apply below_drew1) | exact HB.out)) hb); clear HO_0; clear HO_1; clear HO_8; clear HO_10; clear HB; have HO_0 := n0_; have HO_1 := n1_; have HO_8 := n2_; have HO_10 := n3_; have HB := n4_; clear n0_ n1_ n2_ n3_ n4_; (try clear hb); (try clear hb2); (try clear hk); (try clear hi); obtain ⟨Ao38, co38, eo38⟩ := Kd.N_slice HO_8.out; subst eo38) | ((with_reducible refine gate_callee (f := 24) rfl ?_); refine goesL_ (some 83) rfl rfl Try.func24 (by kernel_rfl) rfl #[.slice Ao38 x8_2.length co38] rfl (by (try simp only [List.map_toArray, List.map_cons, List.map_nil]); first | done | rfl | (simp only [List.length_drop, List.length_take]; rfl)) ?_; (with_reducible refine (leaf_Size.calls k3 _ _ x8_2 t298 _ ?side1 ?side2 A33.out).mono ?_); (case side1 => repeat (first | exact (Kd.N_reads' HO_8.out).2.2 | (with_reducible refine Kd.C_alloc ?_ _) | (with_reducible refine Kd.C_drewN ?_ _) | (with_reducible refine Kd.C_drew ?_))); (case side2 => exact (Kd.N_reads' HO_8.out).2.1); rintro e w39 ⟨rfl, hb⟩; refine ⟨_, rfl, ?_⟩; have n0_ := Aside0.mk (Kd.V_below (by (with_reducible repeat (first | apply Kd.V_alloc | apply Kd.V_drewN | apply Kd.V_drew)); exact HO_0.out) hb); have n1_ := Aside0.mk (Kd.V_below (by (with_reducible repeat (first | apply Kd.V_alloc | apply Kd.V_drewN | apply Kd.V_drew)); exact HO_1.out) hb); have n2_ := Aside0.mk (Kd.N_below (by (with_reducible repeat (first | apply Kd.N_alloc | apply Kd.N_drewN | apply Kd.N_drew)); exact HO_8.out) hb); have n3_ := Aside0.mk (Kd.N_below (by (with_reducible repeat (first | apply Kd.N_alloc | apply Kd.N_drewN | apply Kd.N_drew)); exact HO_10.out) hb); have n4_ := Aside0.mk (below_step (by repeat (first | (with_reducible first | exact HB.out | apply below_alloc | apply pw_below_drewN | apply below_drew1) | exact HB.out)) hb); clear HO_0; clear HO_1; clear HO_8; clear HO_10; clear HB; have HO_0 := n0_; have HO_1 := n1_; have HO_8 := n2_; have HO_10 := n3_; have HB := n4_; clear n0_ n1_ n2_ n3_ n4_; (try clear hb); (try clear hb2); (try clear hk); (try clear hi)) | ((with_reducible refine gate_callee (f := 25) rfl ?_); refine goesL_ (some 85) rfl rfl Try.func25 (by kernel_rfl) rfl #[.slice A1 l1.length c1] rfl (by (try simp only [List.map_toArray, List.map_cons, List.map_nil]); first | done | rfl | (simp only [List.length_drop, List.length_take]; rfl)) ?_; (with_reducible refine (branch_Size.calls k3 _ _ l1 t299 _ ?side1 ?side2 A34.out).mono ?_); (case side1 => repeat (first | exact (Kd.V_reads' HO_1.out).2.2 | (with_reducible refine Kd.C_alloc ?_ _) | (with_reducible refine Kd.C_drewN ?_ _) | (with_reducible refine Kd.C_drew ?_))); (case side2 => exact (Kd.V_reads' HO_1.out).2.1); rintro e w40 ⟨rfl, hb⟩; refine ⟨_, rfl, ?_⟩; have n0_ := Aside0.mk (Kd.V_below (by (with_reducible repeat (first | apply Kd.V_alloc | apply Kd.V_drewN | apply Kd.V_drew)); exact HO_0.out) hb); have n1_ := Aside0.mk (Kd.V_below (by (with_reducible repeat (first | apply Kd.V_alloc | apply Kd.V_drewN | apply Kd.V_drew)); exact HO_1.out) hb); have n2_ := Aside0.mk (Kd.N_below (by (with_reducible repeat (first | apply Kd.N_alloc | apply Kd.N_drewN | apply Kd.N_drew)); exact HO_8.out) hb); have n3_ := Aside0.mk (Kd.N_below (by (with_reducible repeat (first | apply Kd.N_alloc | apply Kd.N_drewN | apply Kd.N_drew)); exact HO_10.out) hb); have n4_ := Aside0.mk (below_step (by repeat (first | (with_reducible first | exact HB.out | apply below_alloc | apply pw_below_drewN | apply below_drew1) | exact HB.out)) hb); clear HO_0; clear HO_1; clear HO_8; clear HO_10; clear HB; have HO_0 := n0_; have HO_1 := n1_; have HO_8 := n2_; have HO_10 := n3_; have HB := n4_; clear n0_ n1_ n2_ n3_ n4_; (try clear hb); (try clear hb2); (try clear hk); (try clear hi); obtain ⟨Ao41, co41, eo41⟩ := Kd.N_slice HO_10.out; subst eo41) | ((with_reducible refine gate_callee (f := 25) rfl ?_); refine goesL_ (some 87) rfl rfl Try.func25 (by kernel_rfl) rfl #[.slice Ao41 x10_3.length co41] rfl (by (try simp only [List.map_toArray, List.map_cons, List.map_nil]); first | done | rfl | (simp only [List.length_drop, List.length_take]; rfl)) ?_; (with_reducible refine (branch_Size.calls k3 _ _ x10_3 t300 _ ?side1 ?side2 A35.out).mono ?_); (case side1 => repeat (first | exact (Kd.N_reads' HO_10.out).2.2 | (with_reducible refine Kd.C_alloc ?_ _) | (with_reducible refine Kd.C_drewN ?_ _) | (with_reducible refine Kd.C_drew ?_))); (case side2 => exact (Kd.N_reads' HO_10.out).2.1); rintro e w42 ⟨rfl, hb⟩; refine ⟨_, rfl, ?_⟩; have n0_ := Aside0.mk (Kd.V_below (by (with_reducible repeat (first | apply Kd.V_alloc | apply Kd.V_drewN | apply Kd.V_drew)); exact HO_0.out) hb); have n1_ := Aside0.mk (Kd.V_below (by (with_reducible repeat (first | apply Kd.V_alloc | apply Kd.V_drewN | apply Kd.V_drew)); exact HO_1.out) hb); have n2_ := Aside0.mk (Kd.N_below (by (with_reducible repeat (first | apply Kd.N_alloc | apply Kd.N_drewN | apply Kd.N_drew)); exact HO_8.out) hb); have n3_ := Aside0.mk (Kd.N_below (by (with_reducible repeat (first | apply Kd.N_alloc | apply Kd.N_drewN | apply Kd.N_drew)); exact HO_10.out) hb); have n4_ := Aside0.mk (below_step (by repeat (first | (with_reducible first | exact HB.out | apply below_alloc | apply pw_below_drewN | apply below_drew1) | exact HB.out)) hb); clear HO_0; clear HO_1; clear HO_8; clear HO_10; clear HB; have HO_0 := n0_; have HO_1 := n1_; have HO_8 := n2_; have HO_10 := n3_; have HB := n4_; clear n0_ n1_ n2_ n3_ n4_; (try clear hb); (try clear hb2); (try clear hk); (try clear hi)))
                    (try simp only [Act.put, List.setIfInBounds_toArray, List.set_cons_zero, List.set_cons_succ])
                    go_cut [109] (fun v109 wc => ∃ (kq : Nat) (x109_35 : Bool), v109 = .bool x109_35 ∧ Aside0 (coppicelaw9_CutSmaller.j3 kq l0 x8_2 x109_35 = some r) ∧ Aside0 (kq ≤ k3) ∧ Aside0 (Kd.V k38 38 wc w.heap.size (fun k_ => ((P0_ k_ ∨ P1_ k_) ∨ w.heap.size ≤ k_) ∧ some k_ ≠ ((.slice Ao38 x8_2.length co38) : Value).ownBlock) (.slice A0 l0.length c0) l0) ∧ Aside0 (Kd.N k38 38 wc w.heap.size (fun k_ => ((P0_ k_ ∨ P1_ k_) ∨ w.heap.size ≤ k_)) (.slice Ao38 x8_2.length co38) x8_2) ∧ Aside0 (Below w.heap.size w wc))
                    case first =>
                      have H := HC36.out
                      clear HC36
                      by_cases c43 : (x8_2.length : Int) < (l0.length : Int)
                      · rw [if_pos c43] at H
                        have c43b0 : decide ((x8_2.length : Int) < (l0.length : Int)) = true := decide_eq_true c43
                        have c43b1 : decide (x8_2.length < l0.length) = true := decide_eq_true (Int.ofNat_lt.mp c43)
                        clear c43
                        (first | rw [c43b0] | (simp only [i64_w, i32_w]; rw [c43b0]) | skip)
                        by_cases c44 : t298 ≥ t297
                        · rw [if_pos c44] at H
                          have c44b0 : decide (t297 ≤ t298) = true := decide_eq_true c44
                          clear c44
                          have H' := Aside0.mk H
                          clear H
                          go_wp2
                          go_meet
                          case rel => exact ⟨_, (true), (by first | rfl | (simp; done) | (simp [*]; done)), H', ⟨by have := HJ4.out; have := HK2.out; have := HK3.out; first | omega | exact Nat.le_refl _⟩, ⟨by (with_reducible repeat (first | apply Kd.V_alloc | apply Kd.V_drewN | apply Kd.V_drew)); exact Kd.V_mono HO_0.out (fun _ hk => ⟨hk.1, hk.2.1⟩)⟩, ⟨by (with_reducible repeat (first | apply Kd.N_alloc | apply Kd.N_drewN | apply Kd.N_drew)); exact Kd.N_mono HO_8.out (fun _ hk => hk.1)⟩, ⟨by repeat (first | (with_reducible first | exact HB.out | apply below_alloc | apply pw_below_drewN | apply below_drew1) | exact HB.out)⟩⟩
                        · rw [if_neg c44] at H
                          have c44b0 : decide (t297 ≤ t298) = false := decide_eq_false c44
                          clear c44
                          by_cases c45 : (x10_3.length : Int) < (l1.length : Int)
                          · rw [if_pos c45] at H
                            have c45b0 : decide ((x10_3.length : Int) < (l1.length : Int)) = true := decide_eq_true c45
                            have c45b1 : decide (x10_3.length < l1.length) = true := decide_eq_true (Int.ofNat_lt.mp c45)
                            clear c45
                            have H' := Aside0.mk H
                            clear H
                            go_wp2
                            go_meet
                            case rel => exact ⟨_, (decide (t300 ≥ t299)), (by first | rfl | (simp; done) | (simp [*]; done)), H', ⟨by have := HJ4.out; have := HK2.out; have := HK3.out; first | omega | exact Nat.le_refl _⟩, ⟨by (with_reducible repeat (first | apply Kd.V_alloc | apply Kd.V_drewN | apply Kd.V_drew)); exact Kd.V_mono HO_0.out (fun _ hk => ⟨hk.1, hk.2.1⟩)⟩, ⟨by (with_reducible repeat (first | apply Kd.N_alloc | apply Kd.N_drewN | apply Kd.N_drew)); exact Kd.N_mono HO_8.out (fun _ hk => hk.1)⟩, ⟨by repeat (first | (with_reducible first | exact HB.out | apply below_alloc | apply pw_below_drewN | apply below_drew1) | exact HB.out)⟩⟩
                          · rw [if_neg c45] at H
                            have c45b0 : decide ((x10_3.length : Int) < (l1.length : Int)) = false := decide_eq_false c45
                            have c45b1 : decide (x10_3.length < l1.length) = false := decide_eq_false (fun h => c45 (Int.ofNat_lt.mpr h))
                            clear c45
                            have H' := Aside0.mk H
                            clear H
                            go_wp2
                            go_meet
                            case rel => exact ⟨_, (false), (by first | rfl | (simp; done) | (simp [*]; done)), H', ⟨by have := HJ4.out; have := HK2.out; have := HK3.out; first | omega | exact Nat.le_refl _⟩, ⟨by (with_reducible repeat (first | apply Kd.V_alloc | apply Kd.V_drewN | apply Kd.V_drew)); exact Kd.V_mono HO_0.out (fun _ hk => ⟨hk.1, hk.2.1⟩)⟩, ⟨by (with_reducible repeat (first | apply Kd.N_alloc | apply Kd.N_drewN | apply Kd.N_drew)); exact Kd.N_mono HO_8.out (fun _ hk => hk.1)⟩, ⟨by repeat (first | (with_reducible first | exact HB.out | apply below_alloc | apply pw_below_drewN | apply below_drew1) | exact HB.out)⟩⟩
                      · rw [if_neg c43] at H
                        have c43b0 : decide ((x8_2.length : Int) < (l0.length : Int)) = false := decide_eq_false c43
                        have c43b1 : decide (x8_2.length < l0.length) = false := decide_eq_false (fun h => c43 (Int.ofNat_lt.mpr h))
                        clear c43
                        (first | rw [c43b0] | (simp only [i64_w, i32_w]; rw [c43b0]) | skip)
                        by_cases c46 : (x10_3.length : Int) < (l1.length : Int)
                        · rw [if_pos c46] at H
                          have c46b0 : decide ((x10_3.length : Int) < (l1.length : Int)) = true := decide_eq_true c46
                          have c46b1 : decide (x10_3.length < l1.length) = true := decide_eq_true (Int.ofNat_lt.mp c46)
                          clear c46
                          have H' := Aside0.mk H
                          clear H
                          go_wp2
                          go_meet
                          case rel => exact ⟨_, (decide (t300 ≥ t299)), (by first | rfl | (simp; done) | (simp [*]; done)), H', ⟨by have := HJ4.out; have := HK2.out; have := HK3.out; first | omega | exact Nat.le_refl _⟩, ⟨by (with_reducible repeat (first | apply Kd.V_alloc | apply Kd.V_drewN | apply Kd.V_drew)); exact Kd.V_mono HO_0.out (fun _ hk => ⟨hk.1, hk.2.1⟩)⟩, ⟨by (with_reducible repeat (first | apply Kd.N_alloc | apply Kd.N_drewN | apply Kd.N_drew)); exact Kd.N_mono HO_8.out (fun _ hk => hk.1)⟩, ⟨by repeat (first | (with_reducible first | exact HB.out | apply below_alloc | apply pw_below_drewN | apply below_drew1) | exact HB.out)⟩⟩
                        · rw [if_neg c46] at H
                          have c46b0 : decide ((x10_3.length : Int) < (l1.length : Int)) = false := decide_eq_false c46
                          have c46b1 : decide (x10_3.length < l1.length) = false := decide_eq_false (fun h => c46 (Int.ofNat_lt.mpr h))
                          clear c46
                          have H' := Aside0.mk H
                          clear H
                          go_wp2
                          go_meet
                          case rel => exact ⟨_, (false), (by first | rfl | (simp; done) | (simp [*]; done)), H', ⟨by have := HJ4.out; have := HK2.out; have := HK3.out; first | omega | exact Nat.le_refl _⟩, ⟨by (with_reducible repeat (first | apply Kd.V_alloc | apply Kd.V_drewN | apply Kd.V_drew)); exact Kd.V_mono HO_0.out (fun _ hk => ⟨hk.1, hk.2.1⟩)⟩, ⟨by (with_reducible repeat (first | apply Kd.N_alloc | apply Kd.N_drewN | apply Kd.N_drew)); exact Kd.N_mono HO_8.out (fun _ hk => hk.1)⟩, ⟨by repeat (first | (with_reducible first | exact HB.out | apply below_alloc | apply pw_below_drewN | apply below_drew1) | exact HB.out)⟩⟩
                    case rest =>
                      clear HC36
                      try clear c1
                      try clear q1
                      try clear c2
                      try clear p2
                      try clear q2
                      try clear hx2
                      try clear c3
                      try clear c4
                      try clear p6
                      try clear c7
                      try clear c8
                      try clear c8b0
                      try clear c8b1
                      try clear c9
                      try clear c10
                      try clear c10b0
                      try clear c11
                      try clear c11b0
                      try clear c12
                      try clear c12b0
                      try clear c13
                      try clear c15
                      try clear c15b0
                      try clear c16
                      try clear c16b0
                      try clear q17
                      try clear c18
                      try clear c19
                      try clear c21
                      try clear c21b0
                      try clear c22
                      try clear c22b0
                      try clear c23
                      try clear c23b0
                      try clear c24
                      try clear c25
                      try clear c26
                      try clear c26b0
                      try clear c27
                      try clear c27b0
                      try clear p27
                      try clear q27
                      try clear hx27
                      try clear c28
                      try clear p28
                      try clear q28
                      try clear hx28
                      try clear c29
                      try clear p29
                      try clear q29
                      try clear hx29
                      try clear c30
                      try clear c43
                      try clear c43b0
                      try clear c43b1
                      try clear c44
                      try clear c44b0
                      try clear c45
                      try clear c45b0
                      try clear c45b1
                      try clear c46
                      try clear c46b0
                      try clear c46b1
                      try clear hx279_0
                      try clear hx279_1
                      try clear hx279_2
                      try clear hx279_3
                      try clear hx283_0
                      try clear hx284_0
                      try clear hx284_1
                      try clear hx284_2
                      try clear hx284_3
                      try clear hx288_0
                      try clear hx292_0
                      try clear hx293_0
                      try clear p2
                      try clear p279
                      try clear p283
                      try clear p284
                      try clear p288
                      try clear p292
                      try clear p293
                      try clear p6
                      try clear q1
                      try clear q17
                      try clear q2
                      try clear q279
                      try clear q283
                      try clear q284
                      try clear q288
                      try clear q292
                      try clear q293
                      obtain ⟨kq, x109_35, rfl, HA, HJ35, HO_0, HO_8, HB⟩ := hcut
                      cases kq with
                      | zero => exact absurd HA.out (by simp [coppicelaw9_CutSmaller.j3])
                      | succ kj35 =>
                        have H := HA.out
                        clear HA
                        simp only [coppicelaw9_CutSmaller.j3] at H
                        by_cases c47 : x109_35 = true
                        · subst c47
                          have H1 : (some false) = some r := by rw [if_pos rfl] at H; exact H
                          clear H
                          have H := H1
                          clear H1
                          obtain rfl := Option.some.inj H
                          go_wp2
                          go_ret
                          exact ⟨by first | rfl | (simp [errW_none, errW_some] <;> rfl) | (simp [*, errW_none, errW_some] <;> rfl), by repeat (first | (with_reducible first | exact HB.out | apply below_alloc | apply pw_below_drewN | apply below_drew1) | exact HB.out)⟩
                        · replace c47 := Bool.eq_false_iff.mpr c47
                          subst c47
                          have H1 : ((cut_JoinLeaves.f kj35 l0 ([] : List (S38))).bind fun t301 => ((cut_JoinLeaves.f kj35 x8_2 ([] : List (S38))).bind fun t302 => (if t301 = true then (some t302) else (some true)))) = some r := by rw [if_neg (show ¬ (false = true) by decide)] at H; exact H
                          clear H
                          have H := H1
                          clear H1
                          replace H := Option.bind_eq_some_iff.mp H
                          obtain ⟨t301, A480, H⟩ := H
                          replace H : ((cut_JoinLeaves.f kj35 x8_2 ([] : List (S38))).bind fun t302 => (if t301 = true then (some t302) else (some true))) = some r := H
                          have A48 := Aside0.mk A480
                          clear A480
                          replace H := Option.bind_eq_some_iff.mp H
                          obtain ⟨t302, A490, H⟩ := H
                          replace H : (if t301 = true then (some t302) else (some true)) = some r := H
                          have A49 := Aside0.mk A490
                          clear A490
                          by_cases c50 : t301 = true
                          · subst c50
                            have H1 : (some t302) = some r := by rw [if_pos rfl] at H; exact H
                            clear H
                            have H := H1
                            clear H1
                            obtain rfl := Option.some.inj H
                            go_wp2_with (first | ((with_reducible refine gate_callee (f := 20) rfl ?_); refine goesL_ (some 111) rfl rfl Try.func20 (by kernel_rfl) rfl #[.slice A0 l0.length c0, .slice none 0 0] rfl (by (try simp only [List.map_toArray, List.map_cons, List.map_nil]); first | done | rfl | (simp only [List.length_drop, List.length_take]; rfl)) ?_; (refine (cut_JoinLeaves.calls kj35 _ _ l0 _ _ ([] : List (S38)) true _ ?side1 ?side2 ?side3 ?side4 A48.out).mono ?_); (case side1 => repeat (first | exact (Kd.V_reads' HO_0.out).2.2 | (with_reducible refine Kd.C_alloc ?_ _) | (with_reducible refine Kd.C_drewN ?_ _) | (with_reducible refine Kd.C_drew ?_))); (case side2 => exact (Kd.V_reads' HO_0.out).2.1); (case side3 => exact Kd.C_nil _ _); (case side4 => exact Nat.le_refl _); rintro e w51 ⟨rfl, hb⟩; refine ⟨_, rfl, ?_⟩; have n0_ := Aside0.mk (Kd.V_below (by (with_reducible repeat (first | apply Kd.V_alloc | apply Kd.V_drewN | apply Kd.V_drew)); exact HO_0.out) hb); have n1_ := Aside0.mk (Kd.N_below (by (with_reducible repeat (first | apply Kd.N_alloc | apply Kd.N_drewN | apply Kd.N_drew)); exact HO_8.out) hb); have n2_ := Aside0.mk (below_step (by repeat (first | (with_reducible first | exact HB.out | apply below_alloc | apply pw_below_drewN | apply below_drew1) | exact HB.out)) hb); clear HO_0; clear HO_8; clear HB; have HO_0 := n0_; have HO_8 := n1_; have HB := n2_; clear n0_ n1_ n2_; (try clear hb); (try clear hb2); (try clear hk); (try clear hi)) | ((with_reducible refine gate_callee (f := 20) rfl ?_); refine goesL_ (some 113) rfl rfl Try.func20 (by kernel_rfl) rfl #[.slice Ao38 x8_2.length co38, .slice none 0 0] rfl (by (try simp only [List.map_toArray, List.map_cons, List.map_nil]); first | done | rfl | (simp only [List.length_drop, List.length_take]; rfl)) ?_; (refine (cut_JoinLeaves.calls kj35 _ _ x8_2 _ _ ([] : List (S38)) t302 _ ?side1 ?side2 ?side3 ?side4 A49.out).mono ?_); (case side1 => repeat (first | exact (Kd.N_reads' HO_8.out).2.2 | (with_reducible refine Kd.C_alloc ?_ _) | (with_reducible refine Kd.C_drewN ?_ _) | (with_reducible refine Kd.C_drew ?_))); (case side2 => exact (Kd.N_reads' HO_8.out).2.1); (case side3 => exact Kd.C_nil _ _); (case side4 => exact Nat.le_refl _); rintro e w52 ⟨rfl, hb⟩; refine ⟨_, rfl, ?_⟩; have n0_ := Aside0.mk (Kd.V_below (by (with_reducible repeat (first | apply Kd.V_alloc | apply Kd.V_drewN | apply Kd.V_drew)); exact HO_0.out) hb); have n1_ := Aside0.mk (Kd.N_below (by (with_reducible repeat (first | apply Kd.N_alloc | apply Kd.N_drewN | apply Kd.N_drew)); exact HO_8.out) hb); have n2_ := Aside0.mk (below_step (by repeat (first | (with_reducible first | exact HB.out | apply below_alloc | apply pw_below_drewN | apply below_drew1) | exact HB.out)) hb); clear HO_0; clear HO_8; clear HB; have HO_0 := n0_; have HO_8 := n1_; have HB := n2_; clear n0_ n1_ n2_; (try clear hb); (try clear hb2); (try clear hk); (try clear hi)))
                            go_ret
                            exact ⟨by first | rfl | (simp [errW_none, errW_some] <;> rfl) | (simp [*, errW_none, errW_some] <;> rfl), by repeat (first | (with_reducible first | exact HB.out | apply below_alloc | apply pw_below_drewN | apply below_drew1) | exact HB.out)⟩
                          · replace c50 := Bool.eq_false_iff.mpr c50
                            subst c50
                            have H1 : (some true) = some r := by rw [if_neg (show ¬ (false = true) by decide)] at H; exact H
                            clear H
                            have H := H1
                            clear H1
                            obtain rfl := Option.some.inj H
                            go_wp2_with (first | ((with_reducible refine gate_callee (f := 20) rfl ?_); refine goesL_ (some 111) rfl rfl Try.func20 (by kernel_rfl) rfl #[.slice A0 l0.length c0, .slice none 0 0] rfl (by (try simp only [List.map_toArray, List.map_cons, List.map_nil]); first | done | rfl | (simp only [List.length_drop, List.length_take]; rfl)) ?_; (refine (cut_JoinLeaves.calls kj35 _ _ l0 _ _ ([] : List (S38)) false _ ?side1 ?side2 ?side3 ?side4 A48.out).mono ?_); (case side1 => repeat (first | exact (Kd.V_reads' HO_0.out).2.2 | (with_reducible refine Kd.C_alloc ?_ _) | (with_reducible refine Kd.C_drewN ?_ _) | (with_reducible refine Kd.C_drew ?_))); (case side2 => exact (Kd.V_reads' HO_0.out).2.1); (case side3 => exact Kd.C_nil _ _); (case side4 => exact Nat.le_refl _); rintro e w53 ⟨rfl, hb⟩; refine ⟨_, rfl, ?_⟩; have n0_ := Aside0.mk (Kd.V_below (by (with_reducible repeat (first | apply Kd.V_alloc | apply Kd.V_drewN | apply Kd.V_drew)); exact HO_0.out) hb); have n1_ := Aside0.mk (Kd.N_below (by (with_reducible repeat (first | apply Kd.N_alloc | apply Kd.N_drewN | apply Kd.N_drew)); exact HO_8.out) hb); have n2_ := Aside0.mk (below_step (by repeat (first | (with_reducible first | exact HB.out | apply below_alloc | apply pw_below_drewN | apply below_drew1) | exact HB.out)) hb); clear HO_0; clear HO_8; clear HB; have HO_0 := n0_; have HO_8 := n1_; have HB := n2_; clear n0_ n1_ n2_; (try clear hb); (try clear hb2); (try clear hk); (try clear hi)) | ((with_reducible refine gate_callee (f := 20) rfl ?_); refine goesL_ (some 113) rfl rfl Try.func20 (by kernel_rfl) rfl #[.slice Ao38 x8_2.length co38, .slice none 0 0] rfl (by (try simp only [List.map_toArray, List.map_cons, List.map_nil]); first | done | rfl | (simp only [List.length_drop, List.length_take]; rfl)) ?_; (refine (cut_JoinLeaves.calls kj35 _ _ x8_2 _ _ ([] : List (S38)) t302 _ ?side1 ?side2 ?side3 ?side4 A49.out).mono ?_); (case side1 => repeat (first | exact (Kd.N_reads' HO_8.out).2.2 | (with_reducible refine Kd.C_alloc ?_ _) | (with_reducible refine Kd.C_drewN ?_ _) | (with_reducible refine Kd.C_drew ?_))); (case side2 => exact (Kd.N_reads' HO_8.out).2.1); (case side3 => exact Kd.C_nil _ _); (case side4 => exact Nat.le_refl _); rintro e w54 ⟨rfl, hb⟩; refine ⟨_, rfl, ?_⟩; have n0_ := Aside0.mk (Kd.V_below (by (with_reducible repeat (first | apply Kd.V_alloc | apply Kd.V_drewN | apply Kd.V_drew)); exact HO_0.out) hb); have n1_ := Aside0.mk (Kd.N_below (by (with_reducible repeat (first | apply Kd.N_alloc | apply Kd.N_drewN | apply Kd.N_drew)); exact HO_8.out) hb); have n2_ := Aside0.mk (below_step (by repeat (first | (with_reducible first | exact HB.out | apply below_alloc | apply pw_below_drewN | apply below_drew1) | exact HB.out)) hb); clear HO_0; clear HO_8; clear HB; have HO_0 := n0_; have HO_8 := n1_; have HB := n2_; clear n0_ n1_ n2_; (try clear hb); (try clear hb2); (try clear hk); (try clear hi)))
                            go_ret
                            exact ⟨by first | rfl | (simp [errW_none, errW_some] <;> rfl) | (simp [*, errW_none, errW_some] <;> rfl), by repeat (first | (with_reducible first | exact HB.out | apply below_alloc | apply pw_below_drewN | apply below_drew1) | exact HB.out)⟩

/-! ### coppiceref3_Valid: function 29 -/
def coppiceref3_Valid.f (l0 : List Int) : Option (Bool) := if (l0.length : Int) ≥ 1 then (some (decide ((l0.length : Int) ≤ 255))) else (some false)
set_option maxHeartbeats 8000000 in
set_option maxRecDepth 100000 in
theorem coppiceref3_Valid.calls (A0 : Option Addr) (c0 : Nat) (l0 : List Int) (r : Bool) (w : World) (hr0 : Kd.C (Kd.int .u8) w A0 l0.length l0) (hc0 : l0.length ≤ c0) (h : coppiceref3_Valid.f l0 = some r) :
    Calls Try.prog 29 #[.slice A0 l0.length c0] w fun e w' => e = .returned (.bool r) ∧ Drawn0 w w' := by
  have HR0 := Aside0.mk hr0
  have HC0 := Aside0.mk hc0
  clear hr0 hc0
  have H : (if (l0.length : Int) ≥ 1 then (some (decide ((l0.length : Int) ≤ 255))) else (some false)) = some r := h
  clear h
  by_cases c2 : (l0.length : Int) ≥ 1
  · rw [if_pos c2] at H
    have c2b0 : decide (1 ≤ (l0.length : Int)) = true := decide_eq_true c2
    have c2b1 : decide (1 ≤ l0.length) = true := decide_eq_true (by omega)
    clear c2
    obtain rfl := Option.some.inj H
    go_enter Try.func29, Try.ntmps29
    go_wp2
    go_ret
    exact ⟨by first | rfl | (simp; done) | (simp [*]; done), by repeat (first | exact Drawn0.refl _ | apply Drawn0.step)⟩
  · rw [if_neg c2] at H
    have c2b0 : decide (1 ≤ (l0.length : Int)) = false := decide_eq_false c2
    have c2b1 : decide (1 ≤ l0.length) = false := decide_eq_false (by omega)
    clear c2
    obtain rfl := Option.some.inj H
    go_enter Try.func29, Try.ntmps29
    go_wp2
    go_ret
    exact ⟨by first | rfl | (simp; done) | (simp [*]; done), by repeat (first | exact Drawn0.refl _ | apply Drawn0.step)⟩

end Go.Proofs.Yteaiefkadmlabaa.P
