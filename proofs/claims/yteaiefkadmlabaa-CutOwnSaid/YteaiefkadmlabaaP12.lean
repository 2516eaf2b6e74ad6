/- Machine steps of the program, written by a program of this session out of the translation. -/
import Derived.Test.YteaiefkadmlabaaP0
import Derived.Test.YteaiefkadmlabaaP10
import Derived.Test.YteaiefkadmlabaaP11
import Derived.Test.YteaiefkadmlabaaHFirst
import Derived.Test.YteaiefkadmlabaaHLeaf
namespace Go.Proofs.Yteaiefkadmlabaa.P
open Go.RowKit Go.Proofs.YteaiefkadmlabaaW.PrintWords Go.Proofs.YteaiefkadmlabaaW.PrintLast Go.Proofs.YteaiefkadmlabaaW.PrintMore
attribute [local go_sem] max2_int min2_int max_two min_two max_three min_three max_four min_four   -- for this text's walks alone
set_option linter.unusedVariables false
set_option linter.unusedSimpArgs false

/-! ### coppiceref9_Leaf: function 16 -/
mutual
def coppiceref9_Leaf.l0 : Nat → List (S38) → Int → Int → Int → Option (Int)
  | 0, _, _, _, _ => none
  | k + 1, x0, x3, x4, x5 => if x5 < (x0.length : Int) then (if 0 ≤ x5 then (if x5 ≤ (x0.length : Int) then ((coppiceref4_Size.f k (x0.take (x5 : Int).toNat)).bind fun t208 => ((coppiceref4_Size.f k (x0.drop (x5 : Int).toNat)).bind fun t213 => (if t208 > 4092 then (coppiceref9_Leaf.j1 k x0 x3 x4 x5 t208 t213 true) else (coppiceref9_Leaf.j1 k x0 x3 x4 x5 t208 t213 (decide (t213 > 4092)))))) else (none)) else (none)) else (some x3)
def coppiceref9_Leaf.j1 : Nat → List (S38) → Int → Int → Int → Int → Int → Bool → Option (Int)
  | 0, _, _, _, _, _, _, _ => none
  | k + 1, x0, x3, x4, x5, x6, x7, x27 => if x27 = true then (coppiceref9_Leaf.l0 k x0 x3 x4 (wrap64 (x5 + 1))) else (if x3 = 0 then (coppiceref9_Leaf.l0 k x0 x5 (mx x6 x7) (wrap64 (x5 + 1))) else (if (mx x6 x7) < x4 then (coppiceref9_Leaf.l0 k x0 x5 (mx x6 x7) (wrap64 (x5 + 1))) else (coppiceref9_Leaf.l0 k x0 x3 x4 (wrap64 (x5 + 1)))))
end
def coppiceref9_Leaf.f (k : Nat) (l0 : List (S38)) : Option (Int) := coppiceref9_Leaf.l0 k l0 0 0 1
theorem coppiceref9_Leaf.mono_l : ∀ k, (∀ y0 y1 y2 y3, LeO (coppiceref9_Leaf.l0 k y0 y1 y2 y3) (coppiceref9_Leaf.l0 (k + 1) y0 y1 y2 y3)) ∧ (∀ y0 y1 y2 y3 y4 y5 y6, LeO (coppiceref9_Leaf.j1 k y0 y1 y2 y3 y4 y5 y6) (coppiceref9_Leaf.j1 (k + 1) y0 y1 y2 y3 y4 y5 y6))
  | 0 => ⟨fun _ _ _ _ r h => by simp [coppiceref9_Leaf.l0] at h, fun _ _ _ _ _ _ _ r h => by simp [coppiceref9_Leaf.j1] at h⟩
  | k + 1 => by
    obtain ⟨ih0, ih1⟩ := coppiceref9_Leaf.mono_l k
    refine ⟨?_, ?_⟩
    · intro y0 y1 y2 y3
      unfold coppiceref9_Leaf.l0
      repeat' first
      | (with_reducible exact ih0 _ _ _ _)
      | (with_reducible exact ih1 _ _ _ _ _ _ _)
      | (with_reducible exact coppiceref4_Size.mono _ _)
      | (with_reducible exact LeO.refl _)
      | (with_reducible exact LeO.none _)
      | (with_reducible refine LeO.ite ?_ ?_)
      | (with_reducible refine LeO.bind ?_ (fun _ => ?_))
      | exact ih0 _ _ _ _
      | exact ih1 _ _ _ _ _ _ _
      | exact coppiceref4_Size.mono _ _
      | exact LeO.none _
      | refine LeO.ite ?_ ?_
      | refine LeO.bind ?_ (fun _ => ?_)
    · intro y0 y1 y2 y3 y4 y5 y6
      unfold coppiceref9_Leaf.j1
      repeat' first
      | (with_reducible exact ih0 _ _ _ _)
      | (with_reducible exact ih1 _ _ _ _ _ _ _)
      | (with_reducible exact coppiceref4_Size.mono _ _)
      | (with_reducible exact LeO.refl _)
      | (with_reducible exact LeO.none _)
      | (with_reducible refine LeO.ite ?_ ?_)
      | (with_reducible refine LeO.bind ?_ (fun _ => ?_))
      | exact ih0 _ _ _ _
      | exact ih1 _ _ _ _ _ _ _
      | exact coppiceref4_Size.mono _ _
      | exact LeO.none _
      | refine LeO.ite ?_ ?_
      | refine LeO.bind ?_ (fun _ => ?_)
theorem coppiceref9_Leaf.mono : ∀ a0 k, LeO (coppiceref9_Leaf.f k a0) (coppiceref9_Leaf.f (k + 1) a0) := by
  intro a0 k
  obtain ⟨ih0, ih1⟩ := coppiceref9_Leaf.mono_l k
  unfold coppiceref9_Leaf.f
  repeat' first
      | (with_reducible exact ih0 _ _ _ _)
      | (with_reducible exact ih1 _ _ _ _ _ _ _)
      | (with_reducible exact coppiceref4_Size.mono _ _)
      | (with_reducible exact LeO.refl _)
      | (with_reducible exact LeO.none _)
      | (with_reducible refine LeO.ite ?_ ?_)
      | (with_reducible refine LeO.bind ?_ (fun _ => ?_))
      | exact ih0 _ _ _ _
      | exact ih1 _ _ _ _ _ _ _
      | exact coppiceref4_Size.mono _ _
      | exact LeO.none _
      | refine LeO.ite ?_ ?_
      | refine LeO.bind ?_ (fun _ => ?_)
set_option maxHeartbeats 8000000 in
set_option maxRecDepth 100000 in
theorem coppiceref9_Leaf.calls (k : Nat) (A0 : Option Addr) (c0 : Nat) (l0 : List (S38)) (r : Int) (w : World) (hr0 : Kd.C k38 w A0 l0.length l0) (hc0 : l0.length ≤ c0) (h : coppiceref9_Leaf.f k l0 = some r) :
    Calls Try.prog 16 #[.slice A0 l0.length c0] w fun e w' => e = .returned (.int .i64 r) ∧ Below w.heap.size w w' := by
  have HR0 := Aside0.mk hr0
  have HC0 := Aside0.mk hc0
  clear hr0 hc0
  have HB := Aside0.mk (Below.refl w.heap.size w)
  have H : (coppiceref9_Leaf.l0 k l0 0 0 1) = some r := h
  clear h
  have H' := Aside0.mk H
  clear H
  go_enter Try.func16, Try.ntmps16
  go_wp2
  go_loopg [3, 4, 5] k (fun kq v3 v4 v5 w' => ∃ (x3_1 : Int) (x4_1 : Int) (x5_1 : Int), v3 = .int .i64 x3_1 ∧ v4 = .int .i64 x4_1 ∧ v5 = .int .i64 x5_1 ∧ Aside0 (coppiceref9_Leaf.l0 kq l0 x3_1 x4_1 x5_1 = some r) ∧ Aside0 (kq ≤ k) ∧ Aside0 (Below w.heap.size w w'))
  case atStart => exact ⟨(0), (0), (1), (by first | rfl | (simp; done) | (simp [*]; done)), (by first | rfl | (simp; done) | (simp [*]; done)), (by first | rfl | (simp; done) | (simp [*]; done)), H', ⟨Nat.le_refl _⟩, ⟨by repeat (first | (with_reducible first | exact HB.out | apply below_alloc | apply pw_below_drewN | apply below_drew1) | exact HB.out)⟩⟩
  case round =>
    clear H'
    try clear c1
    obtain ⟨x3_1, x4_1, x5_1, rfl, rfl, rfl, HA, HK1, HB⟩ := hrel
    cases gk with
    | zero => exact absurd HA.out (by simp [coppiceref9_Leaf.l0])
    | succ k1 =>
      have H := HA.out
      clear HA
      simp only [coppiceref9_Leaf.l0] at H
      by_cases c2 : x5_1 < (l0.length : Int)
      · rw [if_pos c2] at H
        have c2b0 : decide (x5_1 < (l0.length : Int)) = true := decide_eq_true c2
        clear c2
        by_cases c3 : 0 ≤ x5_1
        · rw [if_pos c3] at H
          have c3b0 := eq_true c3
          have c3b1 : decide (0 ≤ x5_1) = true := decide_eq_true c3
          clear c3
          by_cases c4 : x5_1 ≤ (l0.length : Int)
          · rw [if_pos c4] at H
            have c4b0 := eq_true c4
            have c4b1 : decide (x5_1 ≤ (l0.length : Int)) = true := decide_eq_true c4
            clear c4
            obtain ⟨y204, hy204⟩ : ∃ y_ : List (S38), y_ = (l0.take (x5_1 : Int).toNat) := ⟨_, rfl⟩
            replace H : ((coppiceref4_Size.f k1 y204).bind fun t208 => ((coppiceref4_Size.f k1 (l0.drop (x5_1 : Int).toNat)).bind fun t213 => (if t208 > 4092 then (coppiceref9_Leaf.j1 k1 l0 x3_1 x4_1 x5_1 t208 t213 true) else (coppiceref9_Leaf.j1 k1 l0 x3_1 x4_1 x5_1 t208 t213 (decide (t213 > 4092)))))) = some r := by first | (rw [hy204]; with_reducible exact H) | (have H2_ := (Option.bind_some _ _).symm.trans H; rw [hy204]; with_reducible exact H2_) | (have H2_ := (Option.bind_some _ _).symm.trans H; with_reducible exact H2_) | with_reducible exact H | (rw [hy204]; exact H) | exact H
            have Ny204 := Aside0.mk hy204
            clear hy204
            replace H := Option.bind_eq_some_iff.mp H
            obtain ⟨t208, A50, H⟩ := H
            replace H : ((coppiceref4_Size.f k1 (l0.drop (x5_1 : Int).toNat)).bind fun t213 => (if t208 > 4092 then (coppiceref9_Leaf.j1 k1 l0 x3_1 x4_1 x5_1 t208 t213 true) else (coppiceref9_Leaf.j1 k1 l0 x3_1 x4_1 x5_1 t208 t213 (decide (t213 > 4092))))) = some r := H
            have A5 := Aside0.mk A50
            clear A50
            have c6b0 := eq_true (of_decide_eq_true (by first | (with_reducible assumption) | assumption) : 0 ≤ x5_1)
            have c7b0 := eq_true (of_decide_eq_true (by first | (with_reducible assumption) | assumption) : x5_1 ≤ (l0.length : Int))
            obtain ⟨y209, hy209⟩ : ∃ y_ : List (S38), y_ = (l0.drop (x5_1 : Int).toNat) := ⟨_, rfl⟩
            replace H : ((coppiceref4_Size.f k1 y209).bind fun t213 => (if t208 > 4092 then (coppiceref9_Leaf.j1 k1 l0 x3_1 x4_1 x5_1 t208 t213 true) else (coppiceref9_Leaf.j1 k1 l0 x3_1 x4_1 x5_1 t208 t213 (decide (t213 > 4092))))) = some r := by first | (rw [hy209]; with_reducible exact H) | (have H2_ := (Option.bind_some _ _).symm.trans H; rw [hy209]; with_reducible exact H2_) | (have H2_ := (Option.bind_some _ _).symm.trans H; with_reducible exact H2_) | with_reducible exact H | (rw [hy209]; exact H) | exact H
            have Ny209 := Aside0.mk hy209
            clear hy209
            replace H := Option.bind_eq_some_iff.mp H
            obtain ⟨t213, A80, H⟩ := H
            replace H : (if t208 > 4092 then (coppiceref9_Leaf.j1 k1 l0 x3_1 x4_1 x5_1 t208 t213 true) else (coppiceref9_Leaf.j1 k1 l0 x3_1 x4_1 x5_1 t208 t213 (decide (t213 > 4092)))) = some r := H
            have A8 := Aside0.mk A80
            clear A80
            have HC9 := Aside0.mk H
            clear H
            have q10 : (x5_1 : Int) ≤ ((l0.length : Int) : Int) := of_decide_eq_true (by first | (with_reducible assumption) | assumption)
            obtain ⟨i010, hi010, _, hsz10, _⟩ := info_parts info38
            have hroom10 : l0.length ≤ c0 := HC0.out
            have hC10 : Kd.C k38 _ A0 l0.length l0 := HR0.out
            have hcut10 := cut_to (P := Try.prog) 24 38 .i64 Try.underlying24 hi010 A0 l0.length c0 x5_1 (of_decide_eq_true (by first | (with_reducible assumption) | assumption)) q10 hroom10
            have hr10 := Kd.C_take (m := (x5_1 : Int).toNat) hC10 (by omega)
            have hy10 : y204.length = (x5_1 : Int).toNat := (by rw [Ny204.out, List.length_take]; omega)
            rw [← Ny204.out] at hr10
            rw [← hy10] at hcut10
            have HR207 := Aside0.mk hr10
            have HC207 := Aside0.mk (show y204.length ≤ c0 from by omega)
            clear hr10 hC10 hroom10 hi010 hsz10
            have KY10 := Aside0.mk hy10
            clear hy10
            replace q10 := eq_true q10
            go_upto_region 8 with (first | ((with_reducible refine gate_callee (f := 28) rfl ?_); refine goesL_ (some 17) rfl rfl Try.func28 (by kernel_rfl) rfl #[.slice A0 y204.length c0] rfl (by (try simp only [List.map_toArray, List.map_cons, List.map_nil]); first | done | rfl | (simp only [List.length_drop, List.length_take]; rfl)) ?_; (with_reducible refine (coppiceref4_Size.calls k1 _ _ y204 t208 _ ?side1 ?side2 A5.out).mono ?_); (case side1 => repeat (first | exact (Kd.C_below HR207.out HB.out) | (with_reducible refine Kd.C_alloc ?_ _) | (with_reducible refine Kd.C_drewN ?_ _) | (with_reducible refine Kd.C_drew ?_))); (case side2 => exact HC207.out); rintro e w' ⟨rfl, ⟨nd, rfl⟩⟩; refine ⟨_, rfl, ?_⟩; have q11 : (x5_1 : Int) ≤ ((l0.length : Int) : Int) := of_decide_eq_true (by first | (with_reducible assumption) | assumption); obtain ⟨i011, hi011, _, hsz11, _⟩ := info_parts info38; have hroom11 : l0.length ≤ c0 := HC0.out; have hC11 : Kd.C k38 _ A0 l0.length l0 := HR0.out; have q011 : (0 : Int) ≤ (x5_1 : Int) := of_decide_eq_true (by first | (with_reducible assumption) | assumption); have hcut11 := cut_from (P := Try.prog) 24 38 .i64 Try.underlying24 hi011 4 hsz11 A0 l0.length c0 x5_1 q011 q11; have hr11 := Kd.C_drop (m := (x5_1 : Int).toNat) (c := c0) hC11 (by omega) hroom11; obtain ⟨A11, hA11⟩ : ∃ A1, A1 = (if c0 = (x5_1 : Int).toNat then A0 else (A0 : Option Addr).map (·.add ((x5_1 : Int).toNat * 4))) := ⟨_, rfl⟩; obtain ⟨c11, hc11⟩ : ∃ c1, c1 = c0 - (x5_1 : Int).toNat := ⟨_, rfl⟩; have hy11 : y209.length = l0.length - (x5_1 : Int).toNat := (by rw [Ny209.out, List.length_drop] <;> omega); rw [show (l0).drop (x5_1 : Int).toNat = y209 from Ny209.out.symm] at hr11; replace hr11 : Kd.C k38 _ A11 y209.length y209 := (by rw [hA11]; exact hr11); rw [← hy11, ← hA11, ← hc11] at hcut11; have HR212 := Aside0.mk hr11; have HC212 := Aside0.mk (show y209.length ≤ c11 from by rw [hy11, hc11]; exact Nat.sub_le_sub_right hroom11 _); clear hr11 hC11 hroom11 hi011 hsz11 hc11; have KY11 := Aside0.mk hy11; have KA11 := Aside0.mk hA11; clear hy11 hA11; replace q11 := eq_true q11) | ((with_reducible refine gate_callee (f := 28) rfl ?_); refine goesL_ (some 21) rfl rfl Try.func28 (by kernel_rfl) rfl #[.slice A11 y209.length c11] rfl (by (try simp only [List.map_toArray, List.map_cons, List.map_nil]); first | done | rfl | (simp only [List.length_drop, List.length_take]; rfl)) ?_; (with_reducible refine (coppiceref4_Size.calls k1 _ _ y209 t213 _ ?side1 ?side2 A8.out).mono ?_); (case side1 => repeat (first | exact (Kd.C_below HR212.out (by repeat (first | (with_reducible first | exact HB.out | apply below_alloc | apply pw_below_drewN | apply below_drew1) | exact HB.out))) | (with_reducible refine Kd.C_alloc ?_ _) | (with_reducible refine Kd.C_drewN ?_ _) | (with_reducible refine Kd.C_drew ?_))); (case side2 => exact HC212.out); rintro e w' ⟨rfl, ⟨nd, rfl⟩⟩; refine ⟨_, rfl, ?_⟩))
            (try simp only [Act.put, List.setIfInBounds_toArray, List.set_cons_zero, List.set_cons_succ])
            go_cut [27] (fun v27 wc => ∃ (kq : Nat) (x27_8 : Bool), v27 = .bool x27_8 ∧ Aside0 (coppiceref9_Leaf.j1 kq l0 x3_1 x4_1 x5_1 t208 t213 x27_8 = some r) ∧ Aside0 (kq ≤ k1) ∧ Aside0 (Below w.heap.size w wc))
            case first =>
              have H := HC9.out
              clear HC9
              by_cases c12 : t208 > 4092
              · rw [if_pos c12] at H
                have c12b0 : decide (4092 < t208) = true := decide_eq_true c12
                clear c12
                (first | rw [c12b0] | (simp only [i64_w, i32_w]; rw [c12b0]) | skip)
                have H' := Aside0.mk H
                clear H
                go_wp2
                go_meet
                case rel => exact ⟨_, (true), (by first | rfl | (simp; done) | (simp [*]; done)), H', ⟨by have := HK1.out; first | omega | exact Nat.le_refl _⟩, ⟨by repeat (first | (with_reducible first | exact HB.out | apply below_alloc | apply pw_below_drewN | apply below_drew1) | exact HB.out)⟩⟩
              · rw [if_neg c12] at H
                have c12b0 : decide (4092 < t208) = false := decide_eq_false c12
                clear c12
                (first | rw [c12b0] | (simp only [i64_w, i32_w]; rw [c12b0]) | skip)
                have H' := Aside0.mk H
                clear H
                go_wp2
                go_meet
                case rel => exact ⟨_, (decide (t213 > 4092)), (by first | rfl | (simp; done) | (simp [*]; done)), H', ⟨by have := HK1.out; first | omega | exact Nat.le_refl _⟩, ⟨by repeat (first | (with_reducible first | exact HB.out | apply below_alloc | apply pw_below_drewN | apply below_drew1) | exact HB.out)⟩⟩
            case rest =>
              clear HC9
              try clear c1
              try clear q1
              try clear c2
              try clear c2b0
              try clear p2
              try clear c3
              try clear c3b0
              try clear c3b1
              try clear c4
              try clear c4b0
              try clear c4b1
              try clear c6
              try clear c6b0
              try clear c7
              try clear c7b0
              try clear q10
              try clear c11
              try clear q11
              try clear c12
              try clear c12b0
              try clear q011
              try clear q10
              try clear q11
              obtain ⟨kq, x27_8, rfl, HA, HJ8, HB⟩ := hcut
              cases kq with
              | zero => exact absurd HA.out (by simp [coppiceref9_Leaf.j1])
              | succ kj8 =>
                have H := HA.out
                clear HA
                simp only [coppiceref9_Leaf.j1] at H
                by_cases c13 : x27_8 = true
                · subst c13
                  have H1 : (coppiceref9_Leaf.l0 kj8 l0 x3_1 x4_1 (wrap64 (x5_1 + 1))) = some r := by rw [if_pos rfl] at H; exact H
                  clear H
                  have H := H1
                  clear H1
                  have H' := Aside0.mk H
                  clear H
                  go_wp2
                  go_roundg kj8
                  case measure => have := HK1.out; have := HJ8.out; omega
                  case rel => exact ⟨(x3_1), (x4_1), (wrap64 (x5_1 + 1)), (by first | rfl | (simp; done) | (simp [*]; done)), (by first | rfl | (simp; done) | (simp [*]; done)), (by first | rfl | (simp; done) | (simp [*]; done)), H', ⟨by have := HK1.out; have := HJ8.out; omega⟩, ⟨by repeat (first | (with_reducible first | exact HB.out | apply below_alloc | apply pw_below_drewN | apply below_drew1) | exact HB.out)⟩⟩
                · replace c13 := Bool.eq_false_iff.mpr c13
                  subst c13
                  have H1 : (if x3_1 = 0 then (coppiceref9_Leaf.l0 kj8 l0 x5_1 (mx t208 t213) (wrap64 (x5_1 + 1))) else (if (mx t208 t213) < x4_1 then (coppiceref9_Leaf.l0 kj8 l0 x5_1 (mx t208 t213) (wrap64 (x5_1 + 1))) else (coppiceref9_Leaf.l0 kj8 l0 x3_1 x4_1 (wrap64 (x5_1 + 1))))) = some r := by rw [if_neg (show ¬ (false = true) by decide)] at H; exact H
                  clear H
                  have H := H1
                  clear H1
                  by_cases c14 : x3_1 = 0
                  · rw [if_pos c14] at H
                    have c14b0 : (x3_1 == 0) = true := beq_iff_eq.mpr c14
                    have c14b1 : (x3_1 != 0) = false := bne_eq_false_iff_eq.mpr c14
                    clear c14
                    obtain ⟨ji15, hji15⟩ : ∃ j_ : Int, (mx t208 t213) = j_ := ⟨_, rfl⟩
                    replace H : (coppiceref9_Leaf.l0 kj8 l0 x5_1 ji15 (wrap64 (x5_1 + 1))) = some r := by first | (rw [hji15] at H; exact H) | (simp only [hji15] at H ⊢; exact H)
                    have hji15_ : (if t208 < t213 then t213 else t208) = ji15 := hji15
                    have H' := Aside0.mk H
                    clear H
                    go_wp2
                    go_roundg kj8
                    case measure => have := HK1.out; have := HJ8.out; omega
                    case rel => exact ⟨(x5_1), (ji15), (wrap64 (x5_1 + 1)), (by first | rfl | (simp; done) | (simp [*]; done)), (by first | rfl | (simp; done) | (simp only [← hji15] <;> (first | rfl | simp)) | (simp [*]; done)), (by first | rfl | (simp; done) | (simp [*]; done)), H', ⟨by have := HK1.out; have := HJ8.out; omega⟩, ⟨by repeat (first | (with_reducible first | exact HB.out | apply below_alloc | apply pw_below_drewN | apply below_drew1) | exact HB.out)⟩⟩
                  · rw [if_neg c14] at H
                    have c14b0 : (x3_1 == 0) = false := beq_eq_false_iff_ne.mpr c14
                    have c14b1 : (x3_1 != 0) = true := bne_iff_ne.mpr c14
                    obtain ⟨ji16, hji16⟩ : ∃ j_ : Int, (mx t208 t213) = j_ := ⟨_, rfl⟩
                    replace H : (if (ji16) < x4_1 then (coppiceref9_Leaf.l0 kj8 l0 x5_1 ji16 (wrap64 (x5_1 + 1))) else (coppiceref9_Leaf.l0 kj8 l0 x3_1 x4_1 (wrap64 (x5_1 + 1)))) = some r := by first | (rw [hji16] at H; exact H) | (simp only [hji16] at H ⊢; exact H)
                    have hji16_ : (if t208 < t213 then t213 else t208) = ji16 := hji16
                    by_cases c17 : (ji16) < x4_1
                    · rw [if_pos c17] at H
                      have c17b0 : decide ((ji16) < x4_1) = true := decide_eq_true c17
                      clear c17
                      have H' := Aside0.mk H
                      clear H
                      go_wp2
                      go_roundg kj8
                      case measure => have := HK1.out; have := HJ8.out; omega
                      case rel => exact ⟨(x5_1), (ji16), (wrap64 (x5_1 + 1)), (by first | rfl | (simp; done) | (simp [*]; done)), (by first | rfl | (simp; done) | (simp only [← hji16] <;> (first | rfl | simp)) | (simp [*]; done)), (by first | rfl | (simp; done) | (simp [*]; done)), H', ⟨by have := HK1.out; have := HJ8.out; omega⟩, ⟨by repeat (first | (with_reducible first | exact HB.out | apply below_alloc | apply pw_below_drewN | apply below_drew1) | exact HB.out)⟩⟩
                    · rw [if_neg c17] at H
                      have c17b0 : decide ((ji16) < x4_1) = false := decide_eq_false c17
                      clear c17
                      have H' := Aside0.mk H
                      clear H
                      go_wp2
                      go_roundg kj8
                      case measure => have := HK1.out; have := HJ8.out; omega
                      case rel => exact ⟨(x3_1), (x4_1), (wrap64 (x5_1 + 1)), (by first | rfl | (simp; done) | (simp [*]; done)), (by first | rfl | (simp; done) | (simp [*]; done)), (by first | rfl | (simp; done) | (simp [*]; done)), H', ⟨by have := HK1.out; have := HJ8.out; omega⟩, ⟨by repeat (first | (with_reducible first | exact HB.out | apply below_alloc | apply pw_below_drewN | apply below_drew1) | exact HB.out)⟩⟩
          · rw [if_neg c4] at H
            exact absurd H (by simp)
        · rw [if_neg c3] at H
          exact absurd H (by simp)
      · rw [if_neg c2] at H
        have c2b0 : decide (x5_1 < (l0.length : Int)) = false := decide_eq_false c2
        clear c2
        obtain rfl := Option.some.inj H
        go_wp2
        go_ret
        exact ⟨by first | rfl | (simp [errW_none, errW_some] <;> rfl) | (simp [*, errW_none, errW_some] <;> rfl), by repeat (first | (with_reducible first | exact HB.out | apply below_alloc | apply pw_below_drewN | apply below_drew1) | exact HB.out)⟩

/-! ### coppiceref_ByteLists: function 18 -/
def coppiceref_ByteLists.l0 : Nat → List (List Int) → List (List Int) → Int → Option ((List (List Int)))
  | 0, _, _, _ => none
  | k + 1, x0, x3, x4 => if x4 < (x0.length : Int) then (if 0 ≤ x4 then ((coppiceref_Bytes.f (rd_L1 x0 x4)).bind fun t224 => (if x3.length < 5864062014805 then (coppiceref_ByteLists.l0 k x0 (x3 ++ [t224]) (wrap64 (x4 + 1))) else (none))) else (none)) else (some x3)
def coppiceref_ByteLists.f (k : Nat) (l0 : List (List Int)) : Option ((List (List Int))) := if 0 ≤ (l0.length : Int) then (if ((l0.length : Int) : Int).toNat ≤ 11728124029610 then (coppiceref_ByteLists.l0 k l0 (([] : List (List Int))) 0) else (none)) else (none)
theorem coppiceref_ByteLists.mono_l : ∀ k, (∀ y0 y1 y2, LeO (coppiceref_ByteLists.l0 k y0 y1 y2) (coppiceref_ByteLists.l0 (k + 1) y0 y1 y2))
  | 0 => fun _ _ _ r h => by simp [coppiceref_ByteLists.l0] at h
  | k + 1 => by
    have ih0 := coppiceref_ByteLists.mono_l k
    · intro y0 y1 y2
      unfold coppiceref_ByteLists.l0
      repeat' first
      | (with_reducible exact ih0 _ _ _)
      | (with_reducible exact LeO.refl _)
      | (with_reducible exact LeO.none _)
      | (with_reducible refine LeO.ite ?_ ?_)
      | (with_reducible refine LeO.bind ?_ (fun _ => ?_))
      | exact ih0 _ _ _
      | exact LeO.none _
      | refine LeO.ite ?_ ?_
      | refine LeO.bind ?_ (fun _ => ?_)
theorem coppiceref_ByteLists.mono : ∀ a0 k, LeO (coppiceref_ByteLists.f k a0) (coppiceref_ByteLists.f (k + 1) a0) := by
  intro a0 k
  have ih0 := coppiceref_ByteLists.mono_l k
  unfold coppiceref_ByteLists.f
  repeat' first
      | (with_reducible exact ih0 _ _ _)
      | (with_reducible exact LeO.refl _)
      | (with_reducible exact LeO.none _)
      | (with_reducible refine LeO.ite ?_ ?_)
      | (with_reducible refine LeO.bind ?_ (fun _ => ?_))
      | exact ih0 _ _ _
      | exact LeO.none _
      | refine LeO.ite ?_ ?_
      | refine LeO.bind ?_ (fun _ => ?_)
set_option maxHeartbeats 8000000 in
set_option maxRecDepth 100000 in
theorem coppiceref_ByteLists.calls (k : Nat) (A0 : Option Addr) (c0 : Nat) (l0 : List (List Int)) (r : List (List Int)) (w : World) (hr0 : Kd.C (Kd.slice 5 (Kd.int .u8)) w A0 l0.length l0) (hc0 : l0.length ≤ c0) (h : coppiceref_ByteLists.f k l0 = some r) :
    Calls Try.prog 18 #[.slice A0 l0.length c0] w fun e w' => ∃ v0_ : Value, e = .returned (v0_) ∧ Kd.S (Kd.slice 5 (Kd.int .u8)) 32 w' w.heap.size (fun _ => True) v0_ r ∧ Below w.heap.size w w' := by
  have HR0 := Aside0.mk hr0
  have HC0 := Aside0.mk hc0
  clear hr0 hc0
  have HB := Aside0.mk (Below.refl w.heap.size w)
  have H : (if 0 ≤ (l0.length : Int) then (if ((l0.length : Int) : Int).toNat ≤ 11728124029610 then (coppiceref_ByteLists.l0 k l0 (([] : List (List Int))) 0) else (none)) else (none)) = some r := h
  clear h
  by_cases c2 : 0 ≤ (l0.length : Int)
  · rw [if_pos c2] at H
    have c2b0 := eq_true c2
    have c2b1 : decide (0 ≤ (l0.length : Int)) = true := decide_eq_true c2
    clear c2
    by_cases c3 : ((l0.length : Int) : Int).toNat ≤ 11728124029610
    · rw [if_pos c3] at H
      have c3b0 := eq_true c3
      have c3b1 : decide (((l0.length : Int) : Int).toNat ≤ 11728124029610) = true := decide_eq_true c3
      clear c3
      obtain ⟨y220, hy220⟩ : ∃ y_ : List (List Int), y_ = (([] : List (List Int))) := ⟨_, rfl⟩
      replace H : (coppiceref_ByteLists.l0 k l0 y220 0) = some r := by first | (rw [hy220]; with_reducible exact H) | (have H2_ := (Option.bind_some _ _).symm.trans H; rw [hy220]; with_reducible exact H2_) | (have H2_ := (Option.bind_some _ _).symm.trans H; with_reducible exact H2_) | with_reducible exact H | (rw [hy220]; exact H) | exact H
      have Ny220 := Aside0.mk hy220
      clear hy220
      have H' := Aside0.mk H
      clear H
      go_enter Try.func18, Try.ntmps18
      go_wp2_with (first | ((with_reducible refine gate_dst (N := 8) rfl ?_); refine Kd.S_make0 (Kd.slice 5 (Kd.int .u8)) _ 32 rfl (N := 8) rfl 28 _ _ rfl (l0.length : Int) rfl rfl Try.underlying28 (.slice none 0 0) 24 info32 rfl (by decide) (by omega) [] (ok := fun _ => True) (okp := fun _ => True) trivial (fun _ hk => hk) trivial (of_decide_eq_true (by first | (with_reducible assumption) | assumption)) (Nat.le_trans (Nat.mul_le_mul_right _ (of_decide_eq_true (by first | (with_reducible assumption) | assumption) : (l0.length : Int).toNat ≤ 11728124029610)) (by omega)) (Below.refl _ _) (Nat.le_refl _) ?_; intro v221 w4 ho5 hb hg_ hnew_; clear hg_ hnew_; (first | rw [← Ny220.out] at ho5 | (simp only [Int.reduceToNat] at ho5; rw [← Ny220.out] at ho5)); have n0_ := Aside0.mk (Kd.S_lower ho5 (below_size (by repeat (first | (with_reducible first | exact HB.out | apply below_alloc | apply pw_below_drewN | apply below_drew1) | exact HB.out)))); have n1_ := Aside0.mk (below_step (by repeat (first | (with_reducible first | exact HB.out | apply below_alloc | apply pw_below_drewN | apply below_drew1) | exact HB.out)) hb); clear HB; have HO222 := n0_; have HB := n1_; clear n0_ n1_; clear hb ho5))
      go_loopg [3, 4] k (fun kq v3 v4 w' => ∃ (x3_1 : List (List Int)) (x4_1 : Int), v4 = .int .i64 x4_1 ∧ Aside0 (coppiceref_ByteLists.l0 kq l0 x3_1 x4_1 = some r) ∧ Aside0 (kq ≤ k) ∧ Aside0 (Kd.S (Kd.slice 5 (Kd.int .u8)) 32 w' w.heap.size (fun _ => True) v3 x3_1) ∧ Aside0 (Below w.heap.size w w'))
      case atStart => exact ⟨(y220), (0), (by first | rfl | (simp; done) | (simp [*]; done)), H', ⟨Nat.le_refl _⟩, ⟨by (with_reducible repeat (first | apply Kd.S_alloc | apply Kd.S_drewN | apply Kd.S_drew)); exact HO222.out⟩, ⟨by repeat (first | (with_reducible first | exact HB.out | apply below_alloc | apply pw_below_drewN | apply below_drew1) | exact HB.out)⟩⟩
      case round =>
        clear H'
        try clear c1
        try clear c2
        try clear c2b0
        try clear c2b1
        try clear p2
        try clear c3
        try clear c3b0
        try clear c3b1
        obtain ⟨x3_1, x4_1, rfl, HA, HK1, HO_3, HB⟩ := hrel
        cases gk with
        | zero => exact absurd HA.out (by simp [coppiceref_ByteLists.l0])
        | succ k1 =>
          have H := HA.out
          clear HA
          simp only [coppiceref_ByteLists.l0] at H
          by_cases c6 : x4_1 < (l0.length : Int)
          · rw [if_pos c6] at H
            have c6b0 : decide (x4_1 < (l0.length : Int)) = true := decide_eq_true c6
            clear c6
            by_cases c7 : 0 ≤ x4_1
            · rw [if_pos c7] at H
              have c7b0 : decide (0 ≤ x4_1) = true := decide_eq_true c7
              clear c7
              replace H := Option.bind_eq_some_iff.mp H
              obtain ⟨t224, A80, H⟩ := H
              replace H : (if x3_1.length < 5864062014805 then (coppiceref_ByteLists.l0 k1 l0 (x3_1 ++ [t224]) (wrap64 (x4_1 + 1))) else (none)) = some r := H
              have A8 := Aside0.mk A80
              clear A80
              by_cases c9 : x3_1.length < 5864062014805
              · rw [if_pos c9] at H
                have LMc9 := Aside0.mk c9
                clear c9
                obtain ⟨y227, hy227⟩ : ∃ y_ : List (List Int), y_ = (x3_1 ++ [t224]) := ⟨_, rfl⟩
                replace H : (coppiceref_ByteLists.l0 k1 l0 y227 (wrap64 (x4_1 + 1))) = some r := by first | (rw [hy227]; with_reducible exact H) | (have H2_ := (Option.bind_some _ _).symm.trans H; rw [hy227]; with_reducible exact H2_) | (have H2_ := (Option.bind_some _ _).symm.trans H; with_reducible exact H2_) | with_reducible exact H | (rw [hy227]; exact H) | exact H
                have Ny227 := Aside0.mk hy227
                clear hy227
                have H' := Aside0.mk H
                clear H
                have p223 : 0 ≤ (x4_1 : Int) := of_decide_eq_true (by first | (with_reducible assumption) | assumption)
                have q223 : x4_1 < (l0.length : Int) := of_decide_eq_true (by first | (with_reducible assumption) | assumption)
                obtain ⟨ad223, A223_0, c223_0, e223, hx223_0, hl223_0, hi223_0⟩ := at_L1 HR0.out x4_1 p223 q223
                cases e223
                replace hx223_0 := (HB.out.cell (World.block_lt_of_cell? w _ hx223_0)).trans hx223_0
                have HR223_0 := Aside0.mk hi223_0
                have HC223_0 := Aside0.mk hl223_0
                clear hi223_0 hl223_0
                replace p223 := eq_true p223
                replace q223 := eq_true q223
                go_wp2_with (first | ((with_reducible refine gate_callee (f := 40) rfl ?_); refine goesL_ (some 19) rfl rfl Try.func40 (by kernel_rfl) rfl #[.slice A223_0 (rd_L1 l0 x4_1).length c223_0] rfl (by (try simp only [List.map_toArray, List.map_cons, List.map_nil]); first | done | rfl | (simp only [List.length_drop, List.length_take]; rfl)) ?_; (with_reducible refine (coppiceref_Bytes.calls _ _ (rd_L1 l0 x4_1) t224 _ ?side1 ?side2 A8.out).mono ?_); (case side1 => repeat (first | exact (Kd.C_below HR223_0.out HB.out) | (with_reducible refine Kd.C_alloc ?_ _) | (with_reducible refine Kd.C_drewN ?_ _) | (with_reducible refine Kd.C_drew ?_))); (case side2 => exact HC223_0.out); rintro e w10 ⟨v225, rfl, ho0, hb⟩; refine ⟨_, rfl, ?_⟩; have n0_ := Aside0.mk (Kd.S_elder' (by (with_reducible repeat (first | apply Kd.S_alloc | apply Kd.S_drewN | apply Kd.S_drew)); exact HO_3.out) (Kd.R_base ho0) hb); have n1_ := Aside0.mk (Kd.R_lower ho0 (below_size (by repeat (first | (with_reducible first | exact HB.out | apply below_alloc | apply pw_below_drewN | apply below_drew1) | exact HB.out)))); have n2_ := Aside0.mk (below_step (by repeat (first | (with_reducible first | exact HB.out | apply below_alloc | apply pw_below_drewN | apply below_drew1) | exact HB.out)) hb); clear HO_3; clear HB; have HO_3 := n0_; have HO226 := n1_; have HB := n2_; clear n0_ n1_ n2_; (try clear hb); (try clear hb2); (try clear hk); (try clear hi); (try clear ho0); obtain ⟨Ao12, co12, eo12⟩ := Kd.R_slice HO226.out; subst eo12) | ((with_reducible refine gate_builtin (b := .append) (xs := #[.tmp 20, .tmp 22]) rfl ?_); at_builtin; refine Kd.S_append (Kd.slice 5 (Kd.int .u8)) (w0 := w) w.heap.size rfl (.tmp 20) (.tmp 22) 28 32 (.slice none 0 0) 24 rfl Try.underlying28 info32 rfl (by decide) (by omega) u3 x3_1 t224 [.slice Ao12 t224.length co12] (fun _ => True) (fun k_ => some k_ = (.slice Ao12 t224.length co12 : Value).ownBlock) rfl rfl ?aP (fun k_ hk_ => ((Kd.R_mono (ok' := fun k_ => ((fun _ => True)) k_ ∧ some k_ ≠ (u3 : Value).ownBlock) (Kd.R_apart' (HO226.out) (Kd.S_typed HO_3.out) (by decide)) (fun k_ hk => ⟨trivial, hk.2⟩))).1 k_ hk_.symm) ?aF ?aO ?aB ?aS ?aL ?_; (case aP => exact Kd.M_row (Kd.R_mono (Kd.R_tight rfl (Kd.R_mono (ok' := fun k_ => ((fun _ => True)) k_ ∧ some k_ ≠ (u3 : Value).ownBlock) (Kd.R_apart' (HO226.out) (Kd.S_typed HO_3.out) (by decide)) (fun k_ hk => ⟨trivial, hk.2⟩))) (fun _ h_ => h_))); (case aB => exact (by repeat (first | (with_reducible first | exact HB.out | apply below_alloc | apply pw_below_drewN | apply below_drew1) | exact HB.out))); (case aF => exact (fun _ _ => trivial)); (case aO => exact (by (with_reducible repeat (first | apply Kd.S_alloc | apply Kd.S_drewN | apply Kd.S_drew)); exact Kd.S_mono HO_3.out (fun k_ hk => ⟨trivial, fun e_ => hk.2 e_⟩))); (case aS => exact (below_size (by repeat (first | (with_reducible first | exact HB.out | apply below_alloc | apply pw_below_drewN | apply below_drew1) | exact HB.out)))); (case aL => have := LMc9.out; omega); intro v228 w11 ho hb hg hat; rw [← Ny227.out] at ho; have n0_ := Aside0.mk (hb); have n1_ := Aside0.mk (ho); clear HB; clear HO_3; clear HO226; have HB := n0_; have HO229 := n1_; clear n0_ n1_; clear ho hb hg hat))
                go_roundg k1
                case measure => have := HK1.out; omega
                case rel => exact ⟨(y227), (wrap64 (x4_1 + 1)), (by first | rfl | (simp; done) | (simp [*]; done)), H', ⟨by have := HK1.out; omega⟩, ⟨by (with_reducible repeat (first | apply Kd.S_alloc | apply Kd.S_drewN | apply Kd.S_drew)); exact HO229.out⟩, ⟨by repeat (first | (with_reducible first | exact HB.out | apply below_alloc | apply pw_below_drewN | apply below_drew1) | exact HB.out)⟩⟩
              · rw [if_neg c9] at H
                exact absurd H (by simp)
            · rw [if_neg c7] at H
              exact absurd H (by simp)
          · rw [if_neg c6] at H
            have c6b0 : decide (x4_1 < (l0.length : Int)) = false := decide_eq_false c6
            clear c6
            obtain rfl := Option.some.inj H
            go_wp2
            go_ret
            exact ⟨_, by first | rfl | (simp [errW_none, errW_some] <;> rfl) | (simp [*, errW_none, errW_some] <;> rfl), by (with_reducible repeat (first | apply Kd.S_alloc | apply Kd.S_drewN | apply Kd.S_drew)); exact HO_3.out, by repeat (first | (with_reducible first | exact HB.out | apply below_alloc | apply pw_below_drewN | apply below_drew1) | exact HB.out)⟩
    · rw [if_neg c3] at H
      exact absurd H (by simp)
  · rw [if_neg c2] at H
    exact absurd H (by simp)

/-! ### coppiceref5_Prefix: function 52 -/
mutual
def coppiceref5_Prefix.l0 : Nat → List (List Int) → Int → Int → Option (Int)
  | 0, _, _, _ => none
  | k + 1, x0, x3, x4 => if x4 < (x0.length : Int) then (if 0 ≤ x4 then (coppiceref5_Prefix.l1 k x0 (mn x3 ((rd_L1 x0 x4).length : Int)) x4 0) else (none)) else (some x3)
def coppiceref5_Prefix.l1 : Nat → List (List Int) → Int → Int → Int → Option (Int)
  | 0, _, _, _, _ => none
  | k + 1, x0, x3, x4, x5 => if x5 < x3 then (if 0 ≤ x4 then (if x4 < (x0.length : Int) then (if 0 ≤ x5 then (if x5 < ((rd_L1 x0 x4).length : Int) then (if 0 < (x0.length : Int) then (if x5 < ((rd_L1 x0 0).length : Int) then (if (rd (rd_L1 x0 x4) x5) = (rd (rd_L1 x0 0) x5) then (coppiceref5_Prefix.l1 k x0 x3 x4 (wrap64 (x5 + 1))) else (coppiceref5_Prefix.l1 k x0 x5 x4 (wrap64 (x5 + 1)))) else (none)) else (none)) else (none)) else (none)) else (none)) else (none)) else (coppiceref5_Prefix.l0 k x0 x3 (wrap64 (x4 + 1)))
end
def coppiceref5_Prefix.f (k : Nat) (l0 : List (List Int)) : Option (Int) := if (l0.length : Int) = 0 then (some 0) else (if 0 < (l0.length : Int) then (coppiceref5_Prefix.l0 k l0 ((rd_L1 l0 0).length : Int) 1) else (none))
theorem coppiceref5_Prefix.mono_l : ∀ k, (∀ y0 y1 y2, LeO (coppiceref5_Prefix.l0 k y0 y1 y2) (coppiceref5_Prefix.l0 (k + 1) y0 y1 y2)) ∧ (∀ y0 y1 y2 y3, LeO (coppiceref5_Prefix.l1 k y0 y1 y2 y3) (coppiceref5_Prefix.l1 (k + 1) y0 y1 y2 y3))
  | 0 => ⟨fun _ _ _ r h => by simp [coppiceref5_Prefix.l0] at h, fun _ _ _ _ r h => by simp [coppiceref5_Prefix.l1] at h⟩
  | k + 1 => by
    obtain ⟨ih0, ih1⟩ := coppiceref5_Prefix.mono_l k
    refine ⟨?_, ?_⟩
    · intro y0 y1 y2
      unfold coppiceref5_Prefix.l0
      repeat' first
      | (with_reducible exact ih0 _ _ _)
      | (with_reducible exact ih1 _ _ _ _)
      | (with_reducible exact LeO.refl _)
      | (with_reducible exact LeO.none _)
      | (with_reducible refine LeO.ite ?_ ?_)
      | (with_reducible refine LeO.bind ?_ (fun _ => ?_))
      | exact ih0 _ _ _
      | exact ih1 _ _ _ _
      | exact LeO.none _
      | refine LeO.ite ?_ ?_
      | refine LeO.bind ?_ (fun _ => ?_)
    · intro y0 y1 y2 y3
      unfold coppiceref5_Prefix.l1
      repeat' first
      | (with_reducible exact ih0 _ _ _)
      | (with_reducible exact ih1 _ _ _ _)
      | (with_reducible exact LeO.refl _)
      | (with_reducible exact LeO.none _)
      | (with_reducible refine LeO.ite ?_ ?_)
      | (with_reducible refine LeO.bind ?_ (fun _ => ?_))
      | exact ih0 _ _ _
      | exact ih1 _ _ _ _
      | exact LeO.none _
      | refine LeO.ite ?_ ?_
      | refine LeO.bind ?_ (fun _ => ?_)
theorem coppiceref5_Prefix.mono : ∀ a0 k, LeO (coppiceref5_Prefix.f k a0) (coppiceref5_Prefix.f (k + 1) a0) := by
  intro a0 k
  obtain ⟨ih0, ih1⟩ := coppiceref5_Prefix.mono_l k
  unfold coppiceref5_Prefix.f
  repeat' first
      | (with_reducible exact ih0 _ _ _)
      | (with_reducible exact ih1 _ _ _ _)
      | (with_reducible exact LeO.refl _)
      | (with_reducible exact LeO.none _)
      | (with_reducible refine LeO.ite ?_ ?_)
      | (with_reducible refine LeO.bind ?_ (fun _ => ?_))
      | exact ih0 _ _ _
      | exact ih1 _ _ _ _
      | exact LeO.none _
      | refine LeO.ite ?_ ?_
      | refine LeO.bind ?_ (fun _ => ?_)
set_option maxHeartbeats 8000000 in
set_option maxRecDepth 100000 in
theorem coppiceref5_Prefix.calls (k : Nat) (A0 : Option Addr) (c0 : Nat) (l0 : List (List Int)) (r : Int) (w : World) (hr0 : Kd.C (Kd.slice 5 (Kd.int .u8)) w A0 l0.length l0) (hc0 : l0.length ≤ c0) (h : coppiceref5_Prefix.f k l0 = some r) :
    Calls Try.prog 52 #[.slice A0 l0.length c0] w fun e w' => e = .returned (.int .i64 r) ∧ Below w.heap.size w w' := by
  have HR0 := Aside0.mk hr0
  have HC0 := Aside0.mk hc0
  clear hr0 hc0
  have HB := Aside0.mk (Below.refl w.heap.size w)
  have H : (if (l0.length : Int) = 0 then (some 0) else (if 0 < (l0.length : Int) then (coppiceref5_Prefix.l0 k l0 ((rd_L1 l0 0).length : Int) 1) else (none))) = some r := h
  clear h
  by_cases c2 : (l0.length : Int) = 0
  · rw [if_pos c2] at H
    have c2b0 : ((l0.length : Int) == 0) = true := beq_iff_eq.mpr c2
    have c2b1 : ((l0.length : Int) != 0) = false := bne_eq_false_iff_eq.mpr c2
    clear c2
    obtain rfl := Option.some.inj H
    go_enter Try.func52, Try.ntmps52
    go_wp2
    repeat (go_quiet (fail); try go_wp2)
    go_ret
    exact ⟨by first | rfl | (simp [errW_none, errW_some] <;> rfl) | (simp [*, errW_none, errW_some] <;> rfl), by repeat (first | (with_reducible first | exact HB.out | apply below_alloc | apply pw_below_drewN | apply below_drew1) | exact HB.out)⟩
  · rw [if_neg c2] at H
    have c2b0 : ((l0.length : Int) == 0) = false := beq_eq_false_iff_ne.mpr c2
    have c2b1 : ((l0.length : Int) != 0) = true := bne_iff_ne.mpr c2
    have c2b2 : ¬ (l0 = []) := fun h_ => c2 (by rw [h_]; rfl)
    by_cases c3 : 0 < (l0.length : Int)
    · rw [if_pos c3] at H
      have c3b0 : decide (0 < (l0.length : Int)) = true := decide_eq_true c3
      have c3b1 : decide (0 < l0.length) = true := decide_eq_true (by omega)
      clear c3
      have H' := Aside0.mk H
      clear H
      have p230 : 0 ≤ (0 : Int) := (by omega)
      have q230 : 0 < (l0.length : Int) := of_decide_eq_true (by first | (with_reducible assumption) | assumption)
      obtain ⟨ad230, A230_0, c230_0, e230, hx230_0, hl230_0, hi230_0⟩ := at_L1 HR0.out 0 p230 q230
      cases e230
      have qi230 : (0 < l0.length) = True := eq_true (by omega)
      (try rw [show ((0 : Int)).toNat = 0 from rfl] at hx230_0)
      (try rw [Addr.add_zero'] at hx230_0)
      have HR230_0 := Aside0.mk hi230_0
      have HC230_0 := Aside0.mk hl230_0
      clear hi230_0 hl230_0
      replace p230 := eq_true p230
      replace q230 := eq_true q230
      go_enter Try.func52, Try.ntmps52
      go_wp2
      repeat (go_quiet (fail); try go_wp2)
      go_loopg [3, 4] k (fun kq v3 v4 w' => ∃ (x3_1 : Int) (x4_1 : Int), v3 = .int .i64 x3_1 ∧ v4 = .int .i64 x4_1 ∧ Aside0 (coppiceref5_Prefix.l0 kq l0 x3_1 x4_1 = some r) ∧ Aside0 (kq ≤ k) ∧ Aside0 (Below w.heap.size w w'))
      case atStart => exact ⟨(((rd_L1 l0 0).length : Int)), (1), (by first | rfl | (simp; done) | (simp [*]; done)), (by first | rfl | (simp; done) | (simp [*]; done)), H', ⟨Nat.le_refl _⟩, ⟨by repeat (first | (with_reducible first | exact HB.out | apply below_alloc | apply pw_below_drewN | apply below_drew1) | exact HB.out)⟩⟩
      case round =>
        clear H'
        try clear c2
        try clear c2b0
        try clear c2b1
        try clear c2b2
        try clear p2
        try clear q2
        try clear hx2
        try clear qi2
        try clear c3
        try clear c3b0
        try clear c3b1
        try clear hx230_0
        try clear p230
        try clear q230
        obtain ⟨x3_1, x4_1, rfl, rfl, HA, HK1, HB⟩ := hrel
        cases gk with
        | zero => exact absurd HA.out (by simp [coppiceref5_Prefix.l0])
        | succ k1 =>
          have H := HA.out
          clear HA
          simp only [coppiceref5_Prefix.l0] at H
          by_cases c4 : x4_1 < (l0.length : Int)
          · rw [if_pos c4] at H
            have c4b0 : decide (x4_1 < (l0.length : Int)) = true := decide_eq_true c4
            clear c4
            by_cases c5 : 0 ≤ x4_1
            · rw [if_pos c5] at H
              have c5b0 : decide (0 ≤ x4_1) = true := decide_eq_true c5
              clear c5
              obtain ⟨ji6, hji6⟩ : ∃ j_ : Int, (mn x3_1 ((rd_L1 l0 x4_1).length : Int)) = j_ := ⟨_, rfl⟩
              replace H : (coppiceref5_Prefix.l1 k1 l0 ji6 x4_1 0) = some r := by first | (rw [hji6] at H; exact H) | (simp only [hji6] at H ⊢; exact H)
              have hji6_ : (if ((rd_L1 l0 x4_1).length : Int) < x3_1 then ((rd_L1 l0 x4_1).length : Int) else x3_1) = ji6 := hji6
              have H' := Aside0.mk H
              clear H
              have p231 : 0 ≤ (x4_1 : Int) := of_decide_eq_true (by first | (with_reducible assumption) | assumption)
              have q231 : x4_1 < (l0.length : Int) := of_decide_eq_true (by first | (with_reducible assumption) | assumption)
              obtain ⟨ad231, A231_0, c231_0, e231, hx231_0, hl231_0, hi231_0⟩ := at_L1 HR0.out x4_1 p231 q231
              obtain rfl : ad230 = ad231 := (by injection e231)
              replace hx231_0 := (HB.out.cell (World.block_lt_of_cell? w _ hx231_0)).trans hx231_0
              have HR231_0 := Aside0.mk hi231_0
              have HC231_0 := Aside0.mk hl231_0
              clear hi231_0 hl231_0
              replace p231 := eq_true p231
              replace q231 := eq_true q231
              go_wp2
              repeat (go_quiet (fail); try go_wp2)
              go_loopg [3, 5] k1 (fun kq v3 v5 w' => ∃ (x3_2 : Int) (x5_2 : Int), v3 = .int .i64 x3_2 ∧ v5 = .int .i64 x5_2 ∧ Aside0 (coppiceref5_Prefix.l1 kq l0 x3_2 x4_1 x5_2 = some r) ∧ Aside0 (kq ≤ k1) ∧ Aside0 (Below w.heap.size w w'))
              case atStart => exact ⟨(ji6), (0), (by first | rfl | (simp; done) | (simp only [← hji6] <;> (first | rfl | simp)) | (simp [*]; done)), (by first | rfl | (simp; done) | (simp [*]; done)), H', ⟨Nat.le_refl _⟩, ⟨by repeat (first | (with_reducible first | exact HB.out | apply below_alloc | apply pw_below_drewN | apply below_drew1) | exact HB.out)⟩⟩
              case round =>
                clear H'
                try clear c2
                try clear c2b0
                try clear c2b1
                try clear c2b2
                try clear p2
                try clear q2
                try clear hx2
                try clear qi2
                try clear c3
                try clear c3b0
                try clear c3b1
                try clear c4
                try clear c4b0
                try clear c5
                try clear c5b0
                try clear hx230_0
                try clear hx231_0
                try clear p2
                try clear p230
                try clear p231
                try clear q2
                try clear q230
                try clear q231
                obtain ⟨x3_2, x5_2, rfl, rfl, HA, HK2, HB⟩ := hrel
                cases gk with
                | zero => exact absurd HA.out (by simp [coppiceref5_Prefix.l1])
                | succ k2 =>
                  have H := HA.out
                  clear HA
                  simp only [coppiceref5_Prefix.l1] at H
                  by_cases c7 : x5_2 < x3_2
                  · rw [if_pos c7] at H
                    have c7b0 : decide (x5_2 < x3_2) = true := decide_eq_true c7
                    clear c7
                    by_cases c8 : 0 ≤ x4_1
                    · rw [if_pos c8] at H
                      have c8b0 : decide (0 ≤ x4_1) = true := decide_eq_true c8
                      clear c8
                      by_cases c9 : x4_1 < (l0.length : Int)
                      · rw [if_pos c9] at H
                        have c9b0 : decide (x4_1 < (l0.length : Int)) = true := decide_eq_true c9
                        clear c9
                        by_cases c10 : 0 ≤ x5_2
                        · rw [if_pos c10] at H
                          have c10b0 : decide (0 ≤ x5_2) = true := decide_eq_true c10
                          clear c10
                          by_cases c11 : x5_2 < ((rd_L1 l0 x4_1).length : Int)
                          · rw [if_pos c11] at H
                            have c11b0 : decide (x5_2 < ((rd_L1 l0 x4_1).length : Int)) = true := decide_eq_true c11
                            clear c11
                            by_cases c12 : 0 < (l0.length : Int)
                            · rw [if_pos c12] at H
                              have c12b0 : decide (0 < (l0.length : Int)) = true := decide_eq_true c12
                              have c12b1 : decide (0 < l0.length) = true := decide_eq_true (by omega)
                              clear c12
                              by_cases c13 : x5_2 < ((rd_L1 l0 0).length : Int)
                              · rw [if_pos c13] at H
                                have c13b0 : decide (x5_2 < ((rd_L1 l0 0).length : Int)) = true := decide_eq_true c13
                                clear c13
                                by_cases c14 : (rd (rd_L1 l0 x4_1) x5_2) = (rd (rd_L1 l0 0) x5_2)
                                · rw [if_pos c14] at H
                                  have c14b0 : ((rd (rd_L1 l0 x4_1) x5_2) == (rd (rd_L1 l0 0) x5_2)) = true := beq_iff_eq.mpr c14
                                  have c14b1 : ((rd (rd_L1 l0 x4_1) x5_2) != (rd (rd_L1 l0 0) x5_2)) = false := bne_eq_false_iff_eq.mpr c14
                                  clear c14
                                  have H' := Aside0.mk H
                                  clear H
                                  have p232 : 0 ≤ (x4_1 : Int) := of_decide_eq_true (by first | (with_reducible assumption) | assumption)
                                  have q232 : x4_1 < (l0.length : Int) := of_decide_eq_true (by first | (with_reducible assumption) | assumption)
                                  obtain ⟨ad232, A232_0, c232_0, e232, hx232_0, hl232_0, hi232_0⟩ := at_L1 HR0.out x4_1 p232 q232
                                  obtain rfl : ad230 = ad232 := (by injection e232)
                                  replace hx232_0 := (HB.out.cell (World.block_lt_of_cell? w _ hx232_0)).trans hx232_0
                                  have HR232_0 := Aside0.mk hi232_0
                                  have HC232_0 := Aside0.mk hl232_0
                                  clear hi232_0 hl232_0
                                  replace p232 := eq_true p232
                                  replace q232 := eq_true q232
                                  have p233 : 0 ≤ (x5_2 : Int) := of_decide_eq_true (by first | (with_reducible assumption) | assumption)
                                  have q233 : x5_2 < ((rd_L1 l0 x4_1).length : Int) := of_decide_eq_true (by first | (with_reducible assumption) | assumption)
                                  obtain ⟨ad233, e233, hx233_0⟩ := Kd.at_int HR232_0.out x5_2 p233 q233
                                  cases e233
                                  replace hx233_0 := (HB.out.cell (World.block_lt_of_cell? w _ hx233_0)).trans hx233_0
                                  replace p233 := eq_true p233
                                  replace q233 := eq_true q233
                                  have p234 : 0 ≤ (0 : Int) := (by omega)
                                  have q234 : 0 < (l0.length : Int) := of_decide_eq_true (by first | (with_reducible assumption) | assumption)
                                  obtain ⟨ad234, A234_0, c234_0, e234, hx234_0, hl234_0, hi234_0⟩ := at_L1 HR0.out 0 p234 q234
                                  obtain rfl : ad230 = ad234 := (by injection e234)
                                  have qi234 : (0 < l0.length) = True := eq_true (by omega)
                                  (try rw [show ((0 : Int)).toNat = 0 from rfl] at hx234_0)
                                  (try rw [Addr.add_zero'] at hx234_0)
                                  replace hx234_0 := (HB.out.cell (World.block_lt_of_cell? w _ hx234_0)).trans hx234_0
                                  have HR234_0 := Aside0.mk hi234_0
                                  have HC234_0 := Aside0.mk hl234_0
                                  clear hi234_0 hl234_0
                                  replace p234 := eq_true p234
                                  replace q234 := eq_true q234
                                  have p235 : 0 ≤ (x5_2 : Int) := of_decide_eq_true (by first | (with_reducible assumption) | assumption)
                                  have q235 : x5_2 < ((rd_L1 l0 0).length : Int) := of_decide_eq_true (by first | (with_reducible assumption) | assumption)
                                  obtain ⟨ad235, e235, hx235_0⟩ := Kd.at_int HR234_0.out x5_2 p235 q235
                                  cases e235
                                  replace hx235_0 := (HB.out.cell (World.block_lt_of_cell? w _ hx235_0)).trans hx235_0
                                  replace p235 := eq_true p235
                                  replace q235 := eq_true q235
                                  go_wp2
                                  repeat (go_quiet (fail); try go_wp2)
                                  go_roundg k2
                                  case measure => have := HK1.out; have := HK2.out; omega
                                  case rel => exact ⟨(x3_2), (wrap64 (x5_2 + 1)), (by first | rfl | (simp; done) | (simp [*]; done)), (by first | rfl | (simp; done) | (simp [*]; done)), H', ⟨by have := HK1.out; have := HK2.out; omega⟩, ⟨by repeat (first | (with_reducible first | exact HB.out | apply below_alloc | apply pw_below_drewN | apply below_drew1) | exact HB.out)⟩⟩
                                · rw [if_neg c14] at H
                                  have c14b0 : ((rd (rd_L1 l0 x4_1) x5_2) == (rd (rd_L1 l0 0) x5_2)) = false := beq_eq_false_iff_ne.mpr c14
                                  have c14b1 : ((rd (rd_L1 l0 x4_1) x5_2) != (rd (rd_L1 l0 0) x5_2)) = true := bne_iff_ne.mpr c14
                                  have H' := Aside0.mk H
                                  clear H
                                  have p232 : 0 ≤ (x4_1 : Int) := of_decide_eq_true (by first | (with_reducible assumption) | assumption)
                                  have q232 : x4_1 < (l0.length : Int) := of_decide_eq_true (by first | (with_reducible assumption) | assumption)
                                  obtain ⟨ad232, A232_0, c232_0, e232, hx232_0, hl232_0, hi232_0⟩ := at_L1 HR0.out x4_1 p232 q232
                                  obtain rfl : ad230 = ad232 := (by injection e232)
                                  replace hx232_0 := (HB.out.cell (World.block_lt_of_cell? w _ hx232_0)).trans hx232_0
                                  have HR232_0 := Aside0.mk hi232_0
                                  have HC232_0 := Aside0.mk hl232_0
                                  clear hi232_0 hl232_0
                                  replace p232 := eq_true p232
                                  replace q232 := eq_true q232
                                  have p233 : 0 ≤ (x5_2 : Int) := of_decide_eq_true (by first | (with_reducible assumption) | assumption)
                                  have q233 : x5_2 < ((rd_L1 l0 x4_1).length : Int) := of_decide_eq_true (by first | (with_reducible assumption) | assumption)
                                  obtain ⟨ad233, e233, hx233_0⟩ := Kd.at_int HR232_0.out x5_2 p233 q233
                                  cases e233
                                  replace hx233_0 := (HB.out.cell (World.block_lt_of_cell? w _ hx233_0)).trans hx233_0
                                  replace p233 := eq_true p233
                                  replace q233 := eq_true q233
                                  have p234 : 0 ≤ (0 : Int) := (by omega)
                                  have q234 : 0 < (l0.length : Int) := of_decide_eq_true (by first | (with_reducible assumption) | assumption)
                                  obtain ⟨ad234, A234_0, c234_0, e234, hx234_0, hl234_0, hi234_0⟩ := at_L1 HR0.out 0 p234 q234
                                  obtain rfl : ad230 = ad234 := (by injection e234)
                                  have qi234 : (0 < l0.length) = True := eq_true (by omega)
                                  (try rw [show ((0 : Int)).toNat = 0 from rfl] at hx234_0)
                                  (try rw [Addr.add_zero'] at hx234_0)
                                  replace hx234_0 := (HB.out.cell (World.block_lt_of_cell? w _ hx234_0)).trans hx234_0
                                  have HR234_0 := Aside0.mk hi234_0
                                  have HC234_0 := Aside0.mk hl234_0
                                  clear hi234_0 hl234_0
                                  replace p234 := eq_true p234
                                  replace q234 := eq_true q234
                                  have p235 : 0 ≤ (x5_2 : Int) := of_decide_eq_true (by first | (with_reducible assumption) | assumption)
                                  have q235 : x5_2 < ((rd_L1 l0 0).length : Int) := of_decide_eq_true (by first | (with_reducible assumption) | assumption)
                                  obtain ⟨ad235, e235, hx235_0⟩ := Kd.at_int HR234_0.out x5_2 p235 q235
                                  cases e235
                                  replace hx235_0 := (HB.out.cell (World.block_lt_of_cell? w _ hx235_0)).trans hx235_0
                                  replace p235 := eq_true p235
                                  replace q235 := eq_true q235
                                  go_wp2
                                  repeat (go_quiet (fail); try go_wp2)
                                  go_roundg k2
                                  case measure => have := HK1.out; have := HK2.out; omega
                                  case rel => exact ⟨(x5_2), (wrap64 (x5_2 + 1)), (by first | rfl | (simp; done) | (simp [*]; done)), (by first | rfl | (simp; done) | (simp [*]; done)), H', ⟨by have := HK1.out; have := HK2.out; omega⟩, ⟨by repeat (first | (with_reducible first | exact HB.out | apply below_alloc | apply pw_below_drewN | apply below_drew1) | exact HB.out)⟩⟩
                              · rw [if_neg c13] at H
                                exact absurd H (by simp)
                            · rw [if_neg c12] at H
                              exact absurd H (by simp)
                          · rw [if_neg c11] at H
                            exact absurd H (by simp)
                        · rw [if_neg c10] at H
                          exact absurd H (by simp)
                      · rw [if_neg c9] at H
                        exact absurd H (by simp)
                    · rw [if_neg c8] at H
                      exact absurd H (by simp)
                  · rw [if_neg c7] at H
                    have c7b0 : decide (x5_2 < x3_2) = false := decide_eq_false c7
                    clear c7
                    have H' := Aside0.mk H
                    clear H
                    go_wp2
                    repeat (go_quiet (fail); try go_wp2)
                    go_roundg k2
                    case measure => have := HK1.out; have := HK2.out; omega
                    case rel => exact ⟨(x3_2), (wrap64 (x4_1 + 1)), (by first | rfl | (simp; done) | (simp [*]; done)), (by first | rfl | (simp; done) | (simp [*]; done)), H', ⟨by have := HK1.out; have := HK2.out; omega⟩, ⟨by repeat (first | (with_reducible first | exact HB.out | apply below_alloc | apply pw_below_drewN | apply below_drew1) | exact HB.out)⟩⟩
            · rw [if_neg c5] at H
              exact absurd H (by simp)
          · rw [if_neg c4] at H
            have c4b0 : decide (x4_1 < (l0.length : Int)) = false := decide_eq_false c4
            clear c4
            obtain rfl := Option.some.inj H
            go_wp2
            repeat (go_quiet (fail); try go_wp2)
            go_ret
            exact ⟨by first | rfl | (simp [errW_none, errW_some] <;> rfl) | (simp [*, errW_none, errW_some] <;> rfl), by repeat (first | (with_reducible first | exact HB.out | apply below_alloc | apply pw_below_drewN | apply below_drew1) | exact HB.out)⟩
    · rw [if_neg c3] at H
      exact absurd H (by simp)

end Go.Proofs.Yteaiefkadmlabaa.P
