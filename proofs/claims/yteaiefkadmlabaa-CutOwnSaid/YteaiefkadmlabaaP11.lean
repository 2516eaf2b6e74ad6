/- Machine steps of the program, written by a program of this session out of the translation. -/
import Derived.Test.YteaiefkadmlabaaP0
namespace Go.Proofs.Yteaiefkadmlabaa.P
open Go.RowKit Go.Proofs.YteaiefkadmlabaaW.PrintWords Go.Proofs.YteaiefkadmlabaaW.PrintLast Go.Proofs.YteaiefkadmlabaaW.PrintMore
attribute [local go_sem] max2_int min2_int max_two min_two max_three min_three max_four min_four   -- for this text's walks alone
set_option linter.unusedVariables false
set_option linter.unusedSimpArgs false

/-! ### coppiceref4_common: function 48 -/
mutual
def coppiceref4_common.l0 : Nat → List (S38) → Int → Int → Option (Int)
  | 0, _, _, _ => none
  | k + 1, x0, x3, x4 => if x4 < (x0.length : Int) then (coppiceref4_common.l1 k x0 x3 x4 0) else (some x3)
def coppiceref4_common.l1 : Nat → List (S38) → Int → Int → Int → Option (Int)
  | 0, _, _, _, _ => none
  | k + 1, x0, x3, x4, x5 => if x5 < x3 then (if 0 ≤ x4 then (if x4 < (x0.length : Int) then (if x5 < (((rd_T38 x0 x4).f0).length : Int) then (if 0 ≤ x5 then (if 0 < (x0.length : Int) then (if x5 < (((rd_T38 x0 0).f0).length : Int) then (if (rd ((rd_T38 x0 x4).f0) x5) = (rd ((rd_T38 x0 0).f0) x5) then (coppiceref4_common.l1 k x0 x3 x4 (wrap64 (x5 + 1))) else (coppiceref4_common.l0 k x0 x5 (wrap64 (x4 + 1)))) else (none)) else (none)) else (none)) else (coppiceref4_common.l0 k x0 x5 (wrap64 (x4 + 1)))) else (none)) else (none)) else (coppiceref4_common.l0 k x0 x5 (wrap64 (x4 + 1)))
end
def coppiceref4_common.f (k : Nat) (l0 : List (S38)) : Option (Int) := if (l0.length : Int) = 0 then (some 0) else (if 0 < (l0.length : Int) then (coppiceref4_common.l0 k l0 (((rd_T38 l0 0).f0).length : Int) 1) else (none))
theorem coppiceref4_common.mono_l : ∀ k, (∀ y0 y1 y2, LeO (coppiceref4_common.l0 k y0 y1 y2) (coppiceref4_common.l0 (k + 1) y0 y1 y2)) ∧ (∀ y0 y1 y2 y3, LeO (coppiceref4_common.l1 k y0 y1 y2 y3) (coppiceref4_common.l1 (k + 1) y0 y1 y2 y3))
  | 0 => ⟨fun _ _ _ r h => by simp [coppiceref4_common.l0] at h, fun _ _ _ _ r h => by simp [coppiceref4_common.l1] at h⟩
  | k + 1 => by
    obtain ⟨ih0, ih1⟩ := coppiceref4_common.mono_l k
    refine ⟨?_, ?_⟩
    · intro y0 y1 y2
      unfold coppiceref4_common.l0
      repeat' first
      | (with_reducible exact ih0 _ _ _)
      | (with_reducible exact ih1 _ _ _ _)
      | (with_reducible exact LeO.refl _)
      | (with_reducible exact LeO.none _)
      | (with_reducible refine LeO.ite ?_ ?_)
      | (with_reducible refine LeO.bind ?_ (fun _ => ?_))
      | exact ih0 _ _ _
      | exact ih1 _ _ _ _
      | exact LeO.none _
      | refine LeO.ite ?_ ?_
      | refine LeO.bind ?_ (fun _ => ?_)
    · intro y0 y1 y2 y3
      unfold coppiceref4_common.l1
      repeat' first
      | (with_reducible exact ih0 _ _ _)
      | (with_reducible exact ih1 _ _ _ _)
      | (with_reducible exact LeO.refl _)
      | (with_reducible exact LeO.none _)
      | (with_reducible refine LeO.ite ?_ ?_)
      | (with_reducible refine LeO.bind ?_ (fun _ => ?_))
      | exact ih0 _ _ _
      | exact ih1 _ _ _ _
      | exact LeO.none _
      | refine LeO.ite ?_ ?_
      | refine LeO.bind ?_ (fun _ => ?_)
theorem coppiceref4_common.mono : ∀ a0 k, LeO (coppiceref4_common.f k a0) (coppiceref4_common.f (k + 1) a0) := by
  intro a0 k
  obtain ⟨ih0, ih1⟩ := coppiceref4_common.mono_l k
  unfold coppiceref4_common.f
  repeat' first
      | (with_reducible exact ih0 _ _ _)
      | (with_reducible exact ih1 _ _ _ _)
      | (with_reducible exact LeO.refl _)
      | (with_reducible exact LeO.none _)
      | (with_reducible refine LeO.ite ?_ ?_)
      | (with_reducible refine LeO.bind ?_ (fun _ => ?_))
      | exact ih0 _ _ _
      | exact ih1 _ _ _ _
      | exact LeO.none _
      | refine LeO.ite ?_ ?_
      | refine LeO.bind ?_ (fun _ => ?_)
set_option maxHeartbeats 8000000 in
set_option maxRecDepth 100000 in
theorem coppiceref4_common.calls (k : Nat) (A0 : Option Addr) (c0 : Nat) (l0 : List (S38)) (r : Int) (w : World) (hr0 : Kd.C k38 w A0 l0.length l0) (hc0 : l0.length ≤ c0) (h : coppiceref4_common.f k l0 = some r) :
    Calls Try.prog 48 #[.slice A0 l0.length c0] w fun e w' => e = .returned (.int .i64 r) ∧ Drawn0 w w' := by
  have HR0 := Aside0.mk hr0
  have HC0 := Aside0.mk hc0
  clear hr0 hc0
  have H : (if (l0.length : Int) = 0 then (some 0) else (if 0 < (l0.length : Int) then (coppiceref4_common.l0 k l0 (((rd_T38 l0 0).f0).length : Int) 1) else (none))) = some r := h
  clear h
  by_cases c2 : (l0.length : Int) = 0
  · rw [if_pos c2] at H
    have c2b0 : ((l0.length : Int) == 0) = true := beq_iff_eq.mpr c2
    have c2b1 : ((l0.length : Int) != 0) = false := bne_eq_false_iff_eq.mpr c2
    clear c2
    obtain rfl := Option.some.inj H
    go_enter Try.func48, Try.ntmps48
    go_wp2
    repeat (go_quiet (fail); try go_wp2)
    go_ret
    exact ⟨by first | rfl | (simp; done) | (simp [*]; done), by repeat (first | exact Drawn0.refl _ | apply Drawn0.step)⟩
  · rw [if_neg c2] at H
    have c2b0 : ((l0.length : Int) == 0) = false := beq_eq_false_iff_ne.mpr c2
    have c2b1 : ((l0.length : Int) != 0) = true := bne_iff_ne.mpr c2
    have c2b2 : ¬ (l0 = []) := fun h_ => c2 (by rw [h_]; rfl)
    by_cases c3 : 0 < (l0.length : Int)
    · rw [if_pos c3] at H
      have c3b0 : decide (0 < (l0.length : Int)) = true := decide_eq_true c3
      have c3b1 : decide (0 < l0.length) = true := decide_eq_true (by omega)
      clear c3
      have H' := Aside0.mk H
      clear H
      have p187 : 0 ≤ (0 : Int) := (by omega)
      have q187 : 0 < (l0.length : Int) := of_decide_eq_true (by first | (with_reducible assumption) | assumption)
      obtain ⟨ad187, A187_0, c187_0, A187_1, c187_1, e187, hx187_0, hx187_1, hx187_2, hx187_3, hl187_0, hi187_0, hl187_1, hi187_1⟩ := at_T38 HR0.out 0 p187 q187
      cases e187
      have qi187 : (0 < l0.length) = True := eq_true (by omega)
      (try rw [show ((0 : Int)).toNat = 0 from rfl] at hx187_0)
      (try rw [show 0 * 4 = 0 from rfl] at hx187_0)
      (try rw [Addr.add_zero'] at hx187_0)
      (try rw [show ((0 : Int)).toNat = 0 from rfl] at hx187_1)
      (try rw [show 0 * 4 = 0 from rfl] at hx187_1)
      (try rw [Addr.add_zero'] at hx187_1)
      (try rw [show ((0 : Int)).toNat = 0 from rfl] at hx187_2)
      (try rw [show 0 * 4 = 0 from rfl] at hx187_2)
      (try rw [Addr.add_zero'] at hx187_2)
      (try rw [show ((0 : Int)).toNat = 0 from rfl] at hx187_3)
      (try rw [show 0 * 4 = 0 from rfl] at hx187_3)
      (try rw [Addr.add_zero'] at hx187_3)
      have HR187_0 := Aside0.mk hi187_0
      have HC187_0 := Aside0.mk hl187_0
      clear hi187_0 hl187_0
      have HR187_1 := Aside0.mk hi187_1
      have HC187_1 := Aside0.mk hl187_1
      clear hi187_1 hl187_1
      replace p187 := eq_true p187
      replace q187 := eq_true q187
      go_enter Try.func48, Try.ntmps48
      go_wp2
      repeat (go_quiet (fail); try go_wp2)
      go_loopg [3, 4] k (fun kq v3 v4 w' => ∃ (x3_1 : Int) (x4_1 : Int), v3 = .int .i64 x3_1 ∧ v4 = .int .i64 x4_1 ∧ Aside0 (coppiceref4_common.l0 kq l0 x3_1 x4_1 = some r) ∧ Aside0 (kq ≤ k) ∧ Drawn0 w w')
      case atStart => exact ⟨((((rd_T38 l0 0).f0).length : Int)), (1), (by first | rfl | (simp; done) | (simp [*]; done)), (by first | rfl | (simp; done) | (simp [*]; done)), H', ⟨Nat.le_refl _⟩, by repeat (first | exact Drawn0.refl _ | apply Drawn0.step)⟩
      case round =>
        clear H'
        try clear c1
        try clear p1
        try clear q1
        try clear hx1
        try clear qi1
        try clear c2
        try clear c2b0
        try clear c2b1
        try clear c2b2
        try clear p2
        try clear c3
        try clear c3b0
        try clear c3b1
        try clear hx187_0
        try clear hx187_1
        try clear hx187_2
        try clear hx187_3
        try clear p187
        try clear q187
        obtain ⟨x3_1, x4_1, rfl, rfl, HA, HK1, ⟨m1, rfl⟩⟩ := hrel
        cases gk with
        | zero => exact absurd HA.out (by simp [coppiceref4_common.l0])
        | succ k1 =>
          have H := HA.out
          clear HA
          simp only [coppiceref4_common.l0] at H
          by_cases c4 : x4_1 < (l0.length : Int)
          · rw [if_pos c4] at H
            have c4b0 : decide (x4_1 < (l0.length : Int)) = true := decide_eq_true c4
            clear c4
            have H' := Aside0.mk H
            clear H
            go_wp2
            repeat (go_quiet (fail); try go_wp2)
            go_loopg [5] k1 (fun kq v5 w' => ∃ (x5_2 : Int), v5 = .int .i64 x5_2 ∧ Aside0 (coppiceref4_common.l1 kq l0 x3_1 x4_1 x5_2 = some r) ∧ Aside0 (kq ≤ k1) ∧ Drawn0 w w')
            case atStart => exact ⟨(0), (by first | rfl | (simp; done) | (simp [*]; done)), H', ⟨Nat.le_refl _⟩, by repeat (first | exact Drawn0.refl _ | apply Drawn0.step)⟩
            case round =>
              clear H'
              try clear c1
              try clear p1
              try clear q1
              try clear hx1
              try clear qi1
              try clear c2
              try clear c2b0
              try clear c2b1
              try clear c2b2
              try clear p2
              try clear c3
              try clear c3b0
              try clear c3b1
              try clear c4
              try clear c4b0
              try clear hx187_0
              try clear hx187_1
              try clear hx187_2
              try clear hx187_3
              try clear p1
              try clear p187
              try clear p2
              try clear q1
              try clear q187
              obtain ⟨x5_2, rfl, HA, HK2, ⟨m2, rfl⟩⟩ := hrel
              cases gk with
              | zero => exact absurd HA.out (by simp [coppiceref4_common.l1])
              | succ k2 =>
                have H := HA.out
                clear HA
                simp only [coppiceref4_common.l1] at H
                by_cases c5 : x5_2 < x3_1
                · rw [if_pos c5] at H
                  have c5b0 : decide (x5_2 < x3_1) = true := decide_eq_true c5
                  clear c5
                  by_cases c6 : 0 ≤ x4_1
                  · rw [if_pos c6] at H
                    have c6b0 : decide (0 ≤ x4_1) = true := decide_eq_true c6
                    clear c6
                    by_cases c7 : x4_1 < (l0.length : Int)
                    · rw [if_pos c7] at H
                      have c7b0 : decide (x4_1 < (l0.length : Int)) = true := decide_eq_true c7
                      clear c7
                      by_cases c8 : x5_2 < (((rd_T38 l0 x4_1).f0).length : Int)
                      · rw [if_pos c8] at H
                        have c8b0 : decide (x5_2 < (((rd_T38 l0 x4_1).f0).length : Int)) = true := decide_eq_true c8
                        clear c8
                        by_cases c9 : 0 ≤ x5_2
                        · rw [if_pos c9] at H
                          have c9b0 : decide (0 ≤ x5_2) = true := decide_eq_true c9
                          clear c9
                          by_cases c10 : 0 < (l0.length : Int)
                          · rw [if_pos c10] at H
                            have c10b0 : decide (0 < (l0.length : Int)) = true := decide_eq_true c10
                            have c10b1 : decide (0 < l0.length) = true := decide_eq_true (by omega)
                            clear c10
                            by_cases c11 : x5_2 < (((rd_T38 l0 0).f0).length : Int)
                            · rw [if_pos c11] at H
                              have c11b0 : decide (x5_2 < (((rd_T38 l0 0).f0).length : Int)) = true := decide_eq_true c11
                              clear c11
                              by_cases c12 : (rd ((rd_T38 l0 x4_1).f0) x5_2) = (rd ((rd_T38 l0 0).f0) x5_2)
                              · rw [if_pos c12] at H
                                have c12b0 : ((rd ((rd_T38 l0 x4_1).f0) x5_2) == (rd ((rd_T38 l0 0).f0) x5_2)) = true := beq_iff_eq.mpr c12
                                have c12b1 : ((rd ((rd_T38 l0 x4_1).f0) x5_2) != (rd ((rd_T38 l0 0).f0) x5_2)) = false := bne_eq_false_iff_eq.mpr c12
                                clear c12
                                have H' := Aside0.mk H
                                clear H
                                have p188 : 0 ≤ (x4_1 : Int) := of_decide_eq_true (by first | (with_reducible assumption) | assumption)
                                have q188 : x4_1 < (l0.length : Int) := of_decide_eq_true (by first | (with_reducible assumption) | assumption)
                                obtain ⟨ad188, A188_0, c188_0, A188_1, c188_1, e188, hx188_0, hx188_1, hx188_2, hx188_3, hl188_0, hi188_0, hl188_1, hi188_1⟩ := at_T38 HR0.out x4_1 p188 q188
                                obtain rfl : ad187 = ad188 := (by injection e188)
                                have HR188_0 := Aside0.mk hi188_0
                                have HC188_0 := Aside0.mk hl188_0
                                clear hi188_0 hl188_0
                                have HR188_1 := Aside0.mk hi188_1
                                have HC188_1 := Aside0.mk hl188_1
                                clear hi188_1 hl188_1
                                replace p188 := eq_true p188
                                replace q188 := eq_true q188
                                have p189 : 0 ≤ (x4_1 : Int) := of_decide_eq_true (by first | (with_reducible assumption) | assumption)
                                have q189 : x4_1 < (l0.length : Int) := of_decide_eq_true (by first | (with_reducible assumption) | assumption)
                                obtain ⟨ad189, A189_0, c189_0, A189_1, c189_1, e189, hx189_0, hx189_1, hx189_2, hx189_3, hl189_0, hi189_0, hl189_1, hi189_1⟩ := at_T38 HR0.out x4_1 p189 q189
                                obtain rfl : ad187 = ad189 := (by injection e189)
                                have HR189_0 := Aside0.mk hi189_0
                                have HC189_0 := Aside0.mk hl189_0
                                clear hi189_0 hl189_0
                                have HR189_1 := Aside0.mk hi189_1
                                have HC189_1 := Aside0.mk hl189_1
                                clear hi189_1 hl189_1
                                replace p189 := eq_true p189
                                replace q189 := eq_true q189
                                have ea_ := Option.some.inj (hx188_0.symm.trans hx189_0)
                                injection ea_ with ea_ en_ ec_
                                subst ea_
                                subst ec_
                                clear en_
                                have ea_ := Option.some.inj (hx188_1.symm.trans hx189_1)
                                injection ea_ with ea_ en_ ec_
                                subst ea_
                                subst ec_
                                clear en_
                                have p190 : 0 ≤ (x5_2 : Int) := of_decide_eq_true (by first | (with_reducible assumption) | assumption)
                                have q190 : x5_2 < (((rd_T38 l0 x4_1).f0).length : Int) := of_decide_eq_true (by first | (with_reducible assumption) | assumption)
                                obtain ⟨ad190, e190, hx190_0⟩ := Kd.at_int HR189_0.out x5_2 p190 q190
                                cases e190
                                replace p190 := eq_true p190
                                replace q190 := eq_true q190
                                have p191 : 0 ≤ (0 : Int) := (by omega)
                                have q191 : 0 < (l0.length : Int) := of_decide_eq_true (by first | (with_reducible assumption) | assumption)
                                obtain ⟨ad191, A191_0, c191_0, A191_1, c191_1, e191, hx191_0, hx191_1, hx191_2, hx191_3, hl191_0, hi191_0, hl191_1, hi191_1⟩ := at_T38 HR0.out 0 p191 q191
                                obtain rfl : ad187 = ad191 := (by injection e191)
                                have qi191 : (0 < l0.length) = True := eq_true (by omega)
                                (try rw [show ((0 : Int)).toNat = 0 from rfl] at hx191_0)
                                (try rw [show 0 * 4 = 0 from rfl] at hx191_0)
                                (try rw [Addr.add_zero'] at hx191_0)
                                (try rw [show ((0 : Int)).toNat = 0 from rfl] at hx191_1)
                                (try rw [show 0 * 4 = 0 from rfl] at hx191_1)
                                (try rw [Addr.add_zero'] at hx191_1)
                                (try rw [show ((0 : Int)).toNat = 0 from rfl] at hx191_2)
                                (try rw [show 0 * 4 = 0 from rfl] at hx191_2)
                                (try rw [Addr.add_zero'] at hx191_2)
                                (try rw [show ((0 : Int)).toNat = 0 from rfl] at hx191_3)
                                (try rw [show 0 * 4 = 0 from rfl] at hx191_3)
                                (try rw [Addr.add_zero'] at hx191_3)
                                have HR191_0 := Aside0.mk hi191_0
                                have HC191_0 := Aside0.mk hl191_0
                                clear hi191_0 hl191_0
                                have HR191_1 := Aside0.mk hi191_1
                                have HC191_1 := Aside0.mk hl191_1
                                clear hi191_1 hl191_1
                                replace p191 := eq_true p191
                                replace q191 := eq_true q191
                                have p192 : 0 ≤ (x5_2 : Int) := of_decide_eq_true (by first | (with_reducible assumption) | assumption)
                                have q192 : x5_2 < (((rd_T38 l0 0).f0).length : Int) := of_decide_eq_true (by first | (with_reducible assumption) | assumption)
                                obtain ⟨ad192, e192, hx192_0⟩ := Kd.at_int HR191_0.out x5_2 p192 q192
                                cases e192
                                replace p192 := eq_true p192
                                replace q192 := eq_true q192
                                go_wp2
                                repeat (go_quiet (fail); try go_wp2)
                                go_roundg k2
                                case measure => have := HK1.out; have := HK2.out; omega
                                case rel => exact ⟨(wrap64 (x5_2 + 1)), (by first | rfl | (simp; done) | (simp [*]; done)), H', ⟨by have := HK1.out; have := HK2.out; omega⟩, by repeat (first | exact Drawn0.refl _ | apply Drawn0.step)⟩
                              · rw [if_neg c12] at H
                                have c12b0 : ((rd ((rd_T38 l0 x4_1).f0) x5_2) == (rd ((rd_T38 l0 0).f0) x5_2)) = false := beq_eq_false_iff_ne.mpr c12
                                have c12b1 : ((rd ((rd_T38 l0 x4_1).f0) x5_2) != (rd ((rd_T38 l0 0).f0) x5_2)) = true := bne_iff_ne.mpr c12
                                have H' := Aside0.mk H
                                clear H
                                have p188 : 0 ≤ (x4_1 : Int) := of_decide_eq_true (by first | (with_reducible assumption) | assumption)
                                have q188 : x4_1 < (l0.length : Int) := of_decide_eq_true (by first | (with_reducible assumption) | assumption)
                                obtain ⟨ad188, A188_0, c188_0, A188_1, c188_1, e188, hx188_0, hx188_1, hx188_2, hx188_3, hl188_0, hi188_0, hl188_1, hi188_1⟩ := at_T38 HR0.out x4_1 p188 q188
                                obtain rfl : ad187 = ad188 := (by injection e188)
                                have HR188_0 := Aside0.mk hi188_0
                                have HC188_0 := Aside0.mk hl188_0
                                clear hi188_0 hl188_0
                                have HR188_1 := Aside0.mk hi188_1
                                have HC188_1 := Aside0.mk hl188_1
                                clear hi188_1 hl188_1
                                replace p188 := eq_true p188
                                replace q188 := eq_true q188
                                have p189 : 0 ≤ (x4_1 : Int) := of_decide_eq_true (by first | (with_reducible assumption) | assumption)
                                have q189 : x4_1 < (l0.length : Int) := of_decide_eq_true (by first | (with_reducible assumption) | assumption)
                                obtain ⟨ad189, A189_0, c189_0, A189_1, c189_1, e189, hx189_0, hx189_1, hx189_2, hx189_3, hl189_0, hi189_0, hl189_1, hi189_1⟩ := at_T38 HR0.out x4_1 p189 q189
                                obtain rfl : ad187 = ad189 := (by injection e189)
                                have HR189_0 := Aside0.mk hi189_0
                                have HC189_0 := Aside0.mk hl189_0
                                clear hi189_0 hl189_0
                                have HR189_1 := Aside0.mk hi189_1
                                have HC189_1 := Aside0.mk hl189_1
                                clear hi189_1 hl189_1
                                replace p189 := eq_true p189
                                replace q189 := eq_true q189
                                have ea_ := Option.some.inj (hx188_0.symm.trans hx189_0)
                                injection ea_ with ea_ en_ ec_
                                subst ea_
                                subst ec_
                                clear en_
                                have ea_ := Option.some.inj (hx188_1.symm.trans hx189_1)
                                injection ea_ with ea_ en_ ec_
                                subst ea_
                                subst ec_
                                clear en_
                                have p190 : 0 ≤ (x5_2 : Int) := of_decide_eq_true (by first | (with_reducible assumption) | assumption)
                                have q190 : x5_2 < (((rd_T38 l0 x4_1).f0).length : Int) := of_decide_eq_true (by first | (with_reducible assumption) | assumption)
                                obtain ⟨ad190, e190, hx190_0⟩ := Kd.at_int HR189_0.out x5_2 p190 q190
                                cases e190
                                replace p190 := eq_true p190
                                replace q190 := eq_true q190
                                have p191 : 0 ≤ (0 : Int) := (by omega)
                                have q191 : 0 < (l0.length : Int) := of_decide_eq_true (by first | (with_reducible assumption) | assumption)
                                obtain ⟨ad191, A191_0, c191_0, A191_1, c191_1, e191, hx191_0, hx191_1, hx191_2, hx191_3, hl191_0, hi191_0, hl191_1, hi191_1⟩ := at_T38 HR0.out 0 p191 q191
                                obtain rfl : ad187 = ad191 := (by injection e191)
                                have qi191 : (0 < l0.length) = True := eq_true (by omega)
                                (try rw [show ((0 : Int)).toNat = 0 from rfl] at hx191_0)
                                (try rw [show 0 * 4 = 0 from rfl] at hx191_0)
                                (try rw [Addr.add_zero'] at hx191_0)
                                (try rw [show ((0 : Int)).toNat = 0 from rfl] at hx191_1)
                                (try rw [show 0 * 4 = 0 from rfl] at hx191_1)
                                (try rw [Addr.add_zero'] at hx191_1)
                                (try rw [show ((0 : Int)).toNat = 0 from rfl] at hx191_2)
                                (try rw [show 0 * 4 = 0 from rfl] at hx191_2)
                                (try rw [Addr.add_zero'] at hx191_2)
                                (try rw [show ((0 : Int)).toNat = 0 from rfl] at hx191_3)
                                (try rw [show 0 * 4 = 0 from rfl] at hx191_3)
                                (try rw [Addr.add_zero'] at hx191_3)
                                have HR191_0 := Aside0.mk hi191_0
                                have HC191_0 := Aside0.mk hl191_0
                                clear hi191_0 hl191_0
                                have HR191_1 := Aside0.mk hi191_1
                                have HC191_1 := Aside0.mk hl191_1
                                clear hi191_1 hl191_1
                                replace p191 := eq_true p191
                                replace q191 := eq_true q191
                                have p192 : 0 ≤ (x5_2 : Int) := of_decide_eq_true (by first | (with_reducible assumption) | assumption)
                                have q192 : x5_2 < (((rd_T38 l0 0).f0).length : Int) := of_decide_eq_true (by first | (with_reducible assumption) | assumption)
                                obtain ⟨ad192, e192, hx192_0⟩ := Kd.at_int HR191_0.out x5_2 p192 q192
                                cases e192
                                replace p192 := eq_true p192
                                replace q192 := eq_true q192
                                go_wp2
                                repeat (go_quiet (fail); try go_wp2)
                                go_roundg k2
                                case measure => have := HK1.out; have := HK2.out; omega
                                case rel => exact ⟨(x5_2), (wrap64 (x4_1 + 1)), (by first | rfl | (simp; done) | (simp [*]; done)), (by first | rfl | (simp; done) | (simp [*]; done)), H', ⟨by have := HK1.out; have := HK2.out; omega⟩, by repeat (first | exact Drawn0.refl _ | apply Drawn0.step)⟩
                            · rw [if_neg c11] at H
                              exact absurd H (by simp)
                          · rw [if_neg c10] at H
                            exact absurd H (by simp)
                        · rw [if_neg c9] at H
                          exact absurd H (by simp)
                      · rw [if_neg c8] at H
                        have c8b0 : decide (x5_2 < (((rd_T38 l0 x4_1).f0).length : Int)) = false := decide_eq_false c8
                        clear c8
                        have H' := Aside0.mk H
                        clear H
                        have p188 : 0 ≤ (x4_1 : Int) := of_decide_eq_true (by first | (with_reducible assumption) | assumption)
                        have q188 : x4_1 < (l0.length : Int) := of_decide_eq_true (by first | (with_reducible assumption) | assumption)
                        obtain ⟨ad188, A188_0, c188_0, A188_1, c188_1, e188, hx188_0, hx188_1, hx188_2, hx188_3, hl188_0, hi188_0, hl188_1, hi188_1⟩ := at_T38 HR0.out x4_1 p188 q188
                        obtain rfl : ad187 = ad188 := (by injection e188)
                        have HR188_0 := Aside0.mk hi188_0
                        have HC188_0 := Aside0.mk hl188_0
                        clear hi188_0 hl188_0
                        have HR188_1 := Aside0.mk hi188_1
                        have HC188_1 := Aside0.mk hl188_1
                        clear hi188_1 hl188_1
                        replace p188 := eq_true p188
                        replace q188 := eq_true q188
                        go_wp2
                        repeat (go_quiet (fail); try go_wp2)
                        go_roundg k2
                        case measure => have := HK1.out; have := HK2.out; omega
                        case rel => exact ⟨(x5_2), (wrap64 (x4_1 + 1)), (by first | rfl | (simp; done) | (simp [*]; done)), (by first | rfl | (simp; done) | (simp [*]; done)), H', ⟨by have := HK1.out; have := HK2.out; omega⟩, by repeat (first | exact Drawn0.refl _ | apply Drawn0.step)⟩
                    · rw [if_neg c7] at H
                      exact absurd H (by simp)
                  · rw [if_neg c6] at H
                    exact absurd H (by simp)
                · rw [if_neg c5] at H
                  have c5b0 : decide (x5_2 < x3_1) = false := decide_eq_false c5
                  clear c5
                  have H' := Aside0.mk H
                  clear H
                  go_wp2
                  repeat (go_quiet (fail); try go_wp2)
                  go_roundg k2
                  case measure => have := HK1.out; have := HK2.out; omega
                  case rel => exact ⟨(x5_2), (wrap64 (x4_1 + 1)), (by first | rfl | (simp; done) | (simp [*]; done)), (by first | rfl | (simp; done) | (simp [*]; done)), H', ⟨by have := HK1.out; have := HK2.out; omega⟩, by repeat (first | exact Drawn0.refl _ | apply Drawn0.step)⟩
          · rw [if_neg c4] at H
            have c4b0 : decide (x4_1 < (l0.length : Int)) = false := decide_eq_false c4
            clear c4
            obtain rfl := Option.some.inj H
            go_wp2
            repeat (go_quiet (fail); try go_wp2)
            go_ret
            exact ⟨by first | rfl | (simp; done) | (simp [*]; done), by repeat (first | exact Drawn0.refl _ | apply Drawn0.step)⟩
    · rw [if_neg c3] at H
      exact absurd H (by simp)

/-! ### coppiceref1_VLen: function 49 -/
def coppiceref1_VLen.l0 : Nat → Int → Int → Option (Int)
  | 0, _, _ => none
  | k + 1, x0, x3 => if x0 ≥ 128 then (coppiceref1_VLen.l0 k (IntKind.u64.wrap (Int.tdiv x0 128)) (wrap64 (x3 + 1))) else (some x3)
def coppiceref1_VLen.f (k : Nat) (a0 : Int) : Option (Int) := coppiceref1_VLen.l0 k a0 1
theorem coppiceref1_VLen.mono_l : ∀ k, (∀ y0 y1, LeO (coppiceref1_VLen.l0 k y0 y1) (coppiceref1_VLen.l0 (k + 1) y0 y1))
  | 0 => fun _ _ r h => by simp [coppiceref1_VLen.l0] at h
  | k + 1 => by
    have ih0 := coppiceref1_VLen.mono_l k
    · intro y0 y1
      unfold coppiceref1_VLen.l0
      repeat' first
      | (with_reducible exact ih0 _ _)
      | (with_reducible exact LeO.refl _)
      | (with_reducible exact LeO.none _)
      | (with_reducible refine LeO.ite ?_ ?_)
      | (with_reducible refine LeO.bind ?_ (fun _ => ?_))
      | exact ih0 _ _
      | exact LeO.none _
      | refine LeO.ite ?_ ?_
      | refine LeO.bind ?_ (fun _ => ?_)
theorem coppiceref1_VLen.mono : ∀ a0 k, LeO (coppiceref1_VLen.f k a0) (coppiceref1_VLen.f (k + 1) a0) := by
  intro a0 k
  have ih0 := coppiceref1_VLen.mono_l k
  unfold coppiceref1_VLen.f
  repeat' first
      | (with_reducible exact ih0 _ _)
      | (with_reducible exact LeO.refl _)
      | (with_reducible exact LeO.none _)
      | (with_reducible refine LeO.ite ?_ ?_)
      | (with_reducible refine LeO.bind ?_ (fun _ => ?_))
      | exact ih0 _ _
      | exact LeO.none _
      | refine LeO.ite ?_ ?_
      | refine LeO.bind ?_ (fun _ => ?_)
set_option maxHeartbeats 8000000 in
set_option maxRecDepth 100000 in
theorem coppiceref1_VLen.calls (k : Nat) (a0 : Int) (r : Int) (w : World) (h : coppiceref1_VLen.f k a0 = some r) :
    Calls Try.prog 49 #[.int .u64 a0] w fun e w' => e = .returned (.int .i64 r) ∧ Drawn0 w w' := by
  have H : (coppiceref1_VLen.l0 k a0 1) = some r := h
  clear h
  have H' := Aside0.mk H
  clear H
  go_enter Try.func49, Try.ntmps49
  go_wp2
  go_loopg [0, 3] k (fun kq v0 v3 w' => ∃ (x0_1 : Int) (x3_1 : Int), v0 = .int .u64 x0_1 ∧ v3 = .int .i64 x3_1 ∧ Aside0 (coppiceref1_VLen.l0 kq x0_1 x3_1 = some r) ∧ Aside0 (kq ≤ k) ∧ Drawn0 w w')
  case atStart => exact ⟨(a0), (1), (by first | rfl | (simp; done) | (simp [*]; done)), (by first | rfl | (simp; done) | (simp [*]; done)), H', ⟨Nat.le_refl _⟩, by repeat (first | exact Drawn0.refl _ | apply Drawn0.step)⟩
  case round =>
    clear H'
    obtain ⟨x0_1, x3_1, rfl, rfl, HA, HK1, ⟨m1, rfl⟩⟩ := hrel
    cases gk with
    | zero => exact absurd HA.out (by simp [coppiceref1_VLen.l0])
    | succ k1 =>
      have H := HA.out
      clear HA
      simp only [coppiceref1_VLen.l0] at H
      by_cases c2 : x0_1 ≥ 128
      · rw [if_pos c2] at H
        have c2b0 : decide (128 ≤ x0_1) = true := decide_eq_true c2
        clear c2
        have H' := Aside0.mk H
        clear H
        go_wp2
        go_roundg k1
        case measure => have := HK1.out; omega
        case rel => exact ⟨(IntKind.u64.wrap (Int.tdiv x0_1 128)), (wrap64 (x3_1 + 1)), (by first | rfl | (simp; done) | (simp [*]; done)), (by first | rfl | (simp; done) | (simp [*]; done)), H', ⟨by have := HK1.out; omega⟩, by repeat (first | exact Drawn0.refl _ | apply Drawn0.step)⟩
      · rw [if_neg c2] at H
        have c2b0 : decide (128 ≤ x0_1) = false := decide_eq_false c2
        clear c2
        obtain rfl := Option.some.inj H
        go_wp2
        go_ret
        exact ⟨by first | rfl | (simp; done) | (simp [*]; done), by repeat (first | exact Drawn0.refl _ | apply Drawn0.step)⟩

/-! ### coppiceref4_long: function 51 -/
def coppiceref4_long.f (a0 : Int) : Option (Int) := if a0 < 0 then (some 0) else (if a0 > 262144 then (some 262144) else (some a0))
set_option maxHeartbeats 8000000 in
set_option maxRecDepth 100000 in
theorem coppiceref4_long.calls (a0 : Int) (r : Int) (w : World) (h : coppiceref4_long.f a0 = some r) :
    Calls Try.prog 51 #[.int .i64 a0] w fun e w' => e = .returned (.int .i64 r) ∧ Drawn0 w w' := by
  have H : (if a0 < 0 then (some 0) else (if a0 > 262144 then (some 262144) else (some a0))) = some r := h
  clear h
  by_cases c2 : a0 < 0
  · rw [if_pos c2] at H
    have c2b0 : decide (a0 < 0) = true := decide_eq_true c2
    clear c2
    obtain rfl := Option.some.inj H
    go_enter Try.func51, Try.ntmps51
    go_wp2
    go_ret
    exact ⟨by first | rfl | (simp; done) | (simp [*]; done), by repeat (first | exact Drawn0.refl _ | apply Drawn0.step)⟩
  · rw [if_neg c2] at H
    have c2b0 : decide (a0 < 0) = false := decide_eq_false c2
    clear c2
    by_cases c3 : a0 > 262144
    · rw [if_pos c3] at H
      have c3b0 : decide (262144 < a0) = true := decide_eq_true c3
      clear c3
      obtain rfl := Option.some.inj H
      go_enter Try.func51, Try.ntmps51
      go_wp2
      go_ret
      exact ⟨by first | rfl | (simp; done) | (simp [*]; done), by repeat (first | exact Drawn0.refl _ | apply Drawn0.step)⟩
    · rw [if_neg c3] at H
      have c3b0 : decide (262144 < a0) = false := decide_eq_false c3
      clear c3
      obtain rfl := Option.some.inj H
      go_enter Try.func51, Try.ntmps51
      go_wp2
      go_ret
      exact ⟨by first | rfl | (simp; done) | (simp [*]; done), by repeat (first | exact Drawn0.refl _ | apply Drawn0.step)⟩

/-! ### coppiceref4_tag: function 50 -/
def coppiceref4_tag.f (a0 : Int) : Option (Int) := (coppiceref4_long.f a0).bind fun t193 => (if t193 > 512 then (some (IntKind.u64.wrap (wrap64 ((wrap64 (2 * t193)) + 1)))) else (some (IntKind.u64.wrap (wrap64 (2 * t193)))))
set_option maxHeartbeats 8000000 in
set_option maxRecDepth 100000 in
theorem coppiceref4_tag.calls (a0 : Int) (r : Int) (w : World) (h : coppiceref4_tag.f a0 = some r) :
    Calls Try.prog 50 #[.int .i64 a0] w fun e w' => e = .returned (.int .u64 r) ∧ Drawn0 w w' := by
  have H : ((coppiceref4_long.f a0).bind fun t193 => (if t193 > 512 then (some (IntKind.u64.wrap (wrap64 ((wrap64 (2 * t193)) + 1)))) else (some (IntKind.u64.wrap (wrap64 (2 * t193)))))) = some r := h
  clear h
  replace H := Option.bind_eq_some_iff.mp H
  obtain ⟨t193, A20, H⟩ := H
  replace H : (if t193 > 512 then (some (IntKind.u64.wrap (wrap64 ((wrap64 (2 * t193)) + 1)))) else (some (IntKind.u64.wrap (wrap64 (2 * t193))))) = some r := H
  have A2 := Aside0.mk A20
  clear A20
  by_cases c3 : t193 > 512
  · rw [if_pos c3] at H
    have c3b0 : decide (512 < t193) = true := decide_eq_true c3
    clear c3
    obtain rfl := Option.some.inj H
    go_enter Try.func50, Try.ntmps50
    go_wp2_with (first | ((with_reducible refine gate_callee (f := 51) rfl ?_); refine goesL_ (some 5) rfl rfl Try.func51 (by kernel_rfl) rfl #[.int .i64 a0] rfl (by (try simp only [List.map_toArray, List.map_cons, List.map_nil]); first | done | rfl | (simp only [List.length_drop, List.length_take]; rfl)) ?_; (with_reducible refine (coppiceref4_long.calls a0 t193 _ A2.out).mono ?_); rintro e w' ⟨rfl, ⟨nd, rfl⟩⟩; refine ⟨_, rfl, ?_⟩))
    go_ret
    exact ⟨by first | rfl | (simp; done) | (simp [*]; done), by repeat (first | exact Drawn0.refl _ | apply Drawn0.step)⟩
  · rw [if_neg c3] at H
    have c3b0 : decide (512 < t193) = false := decide_eq_false c3
    clear c3
    obtain rfl := Option.some.inj H
    go_enter Try.func50, Try.ntmps50
    go_wp2_with (first | ((with_reducible refine gate_callee (f := 51) rfl ?_); refine goesL_ (some 5) rfl rfl Try.func51 (by kernel_rfl) rfl #[.int .i64 a0] rfl (by (try simp only [List.map_toArray, List.map_cons, List.map_nil]); first | done | rfl | (simp only [List.length_drop, List.length_take]; rfl)) ?_; (with_reducible refine (coppiceref4_long.calls a0 t193 _ A2.out).mono ?_); rintro e w' ⟨rfl, ⟨nd, rfl⟩⟩; refine ⟨_, rfl, ?_⟩))
    go_ret
    exact ⟨by first | rfl | (simp; done) | (simp [*]; done), by repeat (first | exact Drawn0.refl _ | apply Drawn0.step)⟩

/-! ### coppiceref4_Size: function 28 -/
def coppiceref4_Size.l0 : Nat → List (S38) → Int → Int → Int → Option (Int)
  | 0, _, _, _, _ => none
  | k + 1, x0, x3, x4, x5 => if x5 < (x0.length : Int) then (if 0 ≤ x5 then ((coppiceref1_VLen.f k (IntKind.u64.wrap (wrap64 ((((rd_T38 x0 x5).f0).length : Int) - x3)))).bind fun t197 => ((coppiceref4_tag.f ((rd_T38 x0 x5).f2)).bind fun t199 => ((coppiceref1_VLen.f k t199).bind fun t200 => ((coppiceref4_long.f ((rd_T38 x0 x5).f2)).bind fun t202 => (if t202 > 512 then (coppiceref4_Size.l0 k x0 x3 (wrap64 ((wrap64 ((wrap64 ((wrap64 ((wrap64 (x4 + 2)) + t197)) + (wrap64 ((((rd_T38 x0 x5).f0).length : Int) - x3)))) + t200)) + 4)) (wrap64 (x5 + 1))) else (coppiceref4_Size.l0 k x0 x3 (wrap64 ((wrap64 ((wrap64 ((wrap64 ((wrap64 (x4 + 2)) + t197)) + (wrap64 ((((rd_T38 x0 x5).f0).length : Int) - x3)))) + t200)) + t202)) (wrap64 (x5 + 1)))))))) else (none)) else (some x4)
def coppiceref4_Size.f (k : Nat) (l0 : List (S38)) : Option (Int) := (coppiceref4_common.f k l0).bind fun t194 => ((coppiceref1_VLen.f k (IntKind.u64.wrap (t194))).bind fun t195 => (coppiceref4_Size.l0 k l0 t194 (wrap64 ((wrap64 (3 + t195)) + t194)) 0))
theorem coppiceref4_Size.mono_l : ∀ k, (∀ y0 y1 y2 y3, LeO (coppiceref4_Size.l0 k y0 y1 y2 y3) (coppiceref4_Size.l0 (k + 1) y0 y1 y2 y3))
  | 0 => fun _ _ _ _ r h => by simp [coppiceref4_Size.l0] at h
  | k + 1 => by
    have ih0 := coppiceref4_Size.mono_l k
    · intro y0 y1 y2 y3
      unfold coppiceref4_Size.l0
      repeat' first
      | (with_reducible exact ih0 _ _ _ _)
      | (with_reducible exact coppiceref1_VLen.mono _ _)
      | (with_reducible exact coppiceref4_common.mono _ _)
      | (with_reducible exact LeO.refl _)
      | (with_reducible exact LeO.none _)
      | (with_reducible refine LeO.ite ?_ ?_)
      | (with_reducible refine LeO.bind ?_ (fun _ => ?_))
      | exact ih0 _ _ _ _
      | exact coppiceref1_VLen.mono _ _
      | exact coppiceref4_common.mono _ _
      | exact LeO.none _
      | refine LeO.ite ?_ ?_
      | refine LeO.bind ?_ (fun _ => ?_)
theorem coppiceref4_Size.mono : ∀ a0 k, LeO (coppiceref4_Size.f k a0) (coppiceref4_Size.f (k + 1) a0) := by
  intro a0 k
  have ih0 := coppiceref4_Size.mono_l k
  unfold coppiceref4_Size.f
  repeat' first
      | (with_reducible exact ih0 _ _ _ _)
      | (with_reducible exact coppiceref1_VLen.mono _ _)
      | (with_reducible exact coppiceref4_common.mono _ _)
      | (with_reducible exact LeO.refl _)
      | (with_reducible exact LeO.none _)
      | (with_reducible refine LeO.ite ?_ ?_)
      | (with_reducible refine LeO.bind ?_ (fun _ => ?_))
      | exact ih0 _ _ _ _
      | exact coppiceref1_VLen.mono _ _
      | exact coppiceref4_common.mono _ _
      | exact LeO.none _
      | refine LeO.ite ?_ ?_
      | refine LeO.bind ?_ (fun _ => ?_)
set_option maxHeartbeats 8000000 in
set_option maxRecDepth 100000 in
theorem coppiceref4_Size.calls (k : Nat) (A0 : Option Addr) (c0 : Nat) (l0 : List (S38)) (r : Int) (w : World) (hr0 : Kd.C k38 w A0 l0.length l0) (hc0 : l0.length ≤ c0) (h : coppiceref4_Size.f k l0 = some r) :
    Calls Try.prog 28 #[.slice A0 l0.length c0] w fun e w' => e = .returned (.int .i64 r) ∧ Drawn0 w w' := by
  have HR0 := Aside0.mk hr0
  have HC0 := Aside0.mk hc0
  clear hr0 hc0
  have H : ((coppiceref4_common.f k l0).bind fun t194 => ((coppiceref1_VLen.f k (IntKind.u64.wrap (t194))).bind fun t195 => (coppiceref4_Size.l0 k l0 t194 (wrap64 ((wrap64 (3 + t195)) + t194)) 0))) = some r := h
  clear h
  replace H := Option.bind_eq_some_iff.mp H
  obtain ⟨t194, A20, H⟩ := H
  replace H : ((coppiceref1_VLen.f k (IntKind.u64.wrap (t194))).bind fun t195 => (coppiceref4_Size.l0 k l0 t194 (wrap64 ((wrap64 (3 + t195)) + t194)) 0)) = some r := H
  have A2 := Aside0.mk A20
  clear A20
  replace H := Option.bind_eq_some_iff.mp H
  obtain ⟨t195, A30, H⟩ := H
  replace H : (coppiceref4_Size.l0 k l0 t194 (wrap64 ((wrap64 (3 + t195)) + t194)) 0) = some r := H
  have A3 := Aside0.mk A30
  clear A30
  have H' := Aside0.mk H
  clear H
  go_enter Try.func28, Try.ntmps28
  go_wp2_with (first | (go_at_call 48; (with_reducible refine (coppiceref4_common.calls k _ _ l0 t194 _ ?side1 ?side2 A2.out).mono ?_); (case side1 => repeat (first | exact HR0.out | (with_reducible refine Kd.C_alloc ?_ _) | (with_reducible refine Kd.C_drewN ?_ _) | (with_reducible refine Kd.C_drew ?_))); (case side2 => exact HC0.out); rintro e w' ⟨rfl, ⟨nd, rfl⟩⟩; (try first | exact ⟨rfl, _, World.drewN_drewN _ _ _⟩ | exact ⟨rfl, _, Eq.trans (World.drewN_drewN _ _ _) (congrArg (World.drewN _) (Nat.add_assoc _ _ _))⟩)) | (go_at_call 49; (with_reducible refine (coppiceref1_VLen.calls k (IntKind.u64.wrap (t194)) t195 _ A3.out).mono ?_); rintro e w' ⟨rfl, ⟨nd, rfl⟩⟩; (try first | exact ⟨rfl, _, World.drewN_drewN _ _ _⟩ | exact ⟨rfl, _, Eq.trans (World.drewN_drewN _ _ _) (congrArg (World.drewN _) (Nat.add_assoc _ _ _))⟩)))
  repeat (go_quiet (first | (go_at_call 48; (with_reducible refine (coppiceref4_common.calls k _ _ l0 t194 _ ?side1 ?side2 A2.out).mono ?_); (case side1 => repeat (first | exact HR0.out | (with_reducible refine Kd.C_alloc ?_ _) | (with_reducible refine Kd.C_drewN ?_ _) | (with_reducible refine Kd.C_drew ?_))); (case side2 => exact HC0.out); rintro e w' ⟨rfl, ⟨nd, rfl⟩⟩; (try first | exact ⟨rfl, _, World.drewN_drewN _ _ _⟩ | exact ⟨rfl, _, Eq.trans (World.drewN_drewN _ _ _) (congrArg (World.drewN _) (Nat.add_assoc _ _ _))⟩)) | (go_at_call 49; (with_reducible refine (coppiceref1_VLen.calls k (IntKind.u64.wrap (t194)) t195 _ A3.out).mono ?_); rintro e w' ⟨rfl, ⟨nd, rfl⟩⟩; (try first | exact ⟨rfl, _, World.drewN_drewN _ _ _⟩ | exact ⟨rfl, _, Eq.trans (World.drewN_drewN _ _ _) (congrArg (World.drewN _) (Nat.add_assoc _ _ _))⟩))); try go_wp2_with (first | (go_at_call 48; (with_reducible refine (coppiceref4_common.calls k _ _ l0 t194 _ ?side1 ?side2 A2.out).mono ?_); (case side1 => repeat (first | exact HR0.out | (with_reducible refine Kd.C_alloc ?_ _) | (with_reducible refine Kd.C_drewN ?_ _) | (with_reducible refine Kd.C_drew ?_))); (case side2 => exact HC0.out); rintro e w' ⟨rfl, ⟨nd, rfl⟩⟩; (try first | exact ⟨rfl, _, World.drewN_drewN _ _ _⟩ | exact ⟨rfl, _, Eq.trans (World.drewN_drewN _ _ _) (congrArg (World.drewN _) (Nat.add_assoc _ _ _))⟩)) | (go_at_call 49; (with_reducible refine (coppiceref1_VLen.calls k (IntKind.u64.wrap (t194)) t195 _ A3.out).mono ?_); rintro e w' ⟨rfl, ⟨nd, rfl⟩⟩; (try first | exact ⟨rfl, _, World.drewN_drewN _ _ _⟩ | exact ⟨rfl, _, Eq.trans (World.drewN_drewN _ _ _) (congrArg (World.drewN _) (Nat.add_assoc _ _ _))⟩))))
  go_loopg [4, 5] k (fun kq v4 v5 w' => ∃ (x4_1 : Int) (x5_1 : Int), v4 = .int .i64 x4_1 ∧ v5 = .int .i64 x5_1 ∧ Aside0 (coppiceref4_Size.l0 kq l0 t194 x4_1 x5_1 = some r) ∧ Aside0 (kq ≤ k) ∧ Drawn0 w w')
  case atStart => exact ⟨(wrap64 ((wrap64 (3 + t195)) + t194)), (0), (by first | rfl | (simp; done) | (simp [*]; done)), (by first | rfl | (simp; done) | (simp [*]; done)), H', ⟨Nat.le_refl _⟩, by repeat (first | exact Drawn0.refl _ | apply Drawn0.step)⟩
  case round =>
    clear H'
    try clear c2
    try clear p2
    obtain ⟨x4_1, x5_1, rfl, rfl, HA, HK1, ⟨m1, rfl⟩⟩ := hrel
    cases gk with
    | zero => exact absurd HA.out (by simp [coppiceref4_Size.l0])
    | succ k1 =>
      have H := HA.out
      clear HA
      simp only [coppiceref4_Size.l0] at H
      by_cases c4 : x5_1 < (l0.length : Int)
      · rw [if_pos c4] at H
        have c4b0 : decide (x5_1 < (l0.length : Int)) = true := decide_eq_true c4
        clear c4
        by_cases c5 : 0 ≤ x5_1
        · rw [if_pos c5] at H
          have c5b0 : decide (0 ≤ x5_1) = true := decide_eq_true c5
          clear c5
          replace H := Option.bind_eq_some_iff.mp H
          obtain ⟨t197, A60, H⟩ := H
          replace H : ((coppiceref4_tag.f ((rd_T38 l0 x5_1).f2)).bind fun t199 => ((coppiceref1_VLen.f k1 t199).bind fun t200 => ((coppiceref4_long.f ((rd_T38 l0 x5_1).f2)).bind fun t202 => (if t202 > 512 then (coppiceref4_Size.l0 k1 l0 t194 (wrap64 ((wrap64 ((wrap64 ((wrap64 ((wrap64 (x4_1 + 2)) + t197)) + (wrap64 ((((rd_T38 l0 x5_1).f0).length : Int) - t194)))) + t200)) + 4)) (wrap64 (x5_1 + 1))) else (coppiceref4_Size.l0 k1 l0 t194 (wrap64 ((wrap64 ((wrap64 ((wrap64 ((wrap64 (x4_1 + 2)) + t197)) + (wrap64 ((((rd_T38 l0 x5_1).f0).length : Int) - t194)))) + t200)) + t202)) (wrap64 (x5_1 + 1))))))) = some r := H
          have A6 := Aside0.mk A60
          clear A60
          replace H := Option.bind_eq_some_iff.mp H
          obtain ⟨t199, A70, H⟩ := H
          replace H : ((coppiceref1_VLen.f k1 t199).bind fun t200 => ((coppiceref4_long.f ((rd_T38 l0 x5_1).f2)).bind fun t202 => (if t202 > 512 then (coppiceref4_Size.l0 k1 l0 t194 (wrap64 ((wrap64 ((wrap64 ((wrap64 ((wrap64 (x4_1 + 2)) + t197)) + (wrap64 ((((rd_T38 l0 x5_1).f0).length : Int) - t194)))) + t200)) + 4)) (wrap64 (x5_1 + 1))) else (coppiceref4_Size.l0 k1 l0 t194 (wrap64 ((wrap64 ((wrap64 ((wrap64 ((wrap64 (x4_1 + 2)) + t197)) + (wrap64 ((((rd_T38 l0 x5_1).f0).length : Int) - t194)))) + t200)) + t202)) (wrap64 (x5_1 + 1)))))) = some r := H
          have A7 := Aside0.mk A70
          clear A70
          replace H := Option.bind_eq_some_iff.mp H
          obtain ⟨t200, A80, H⟩ := H
          replace H : ((coppiceref4_long.f ((rd_T38 l0 x5_1).f2)).bind fun t202 => (if t202 > 512 then (coppiceref4_Size.l0 k1 l0 t194 (wrap64 ((wrap64 ((wrap64 ((wrap64 ((wrap64 (x4_1 + 2)) + t197)) + (wrap64 ((((rd_T38 l0 x5_1).f0).length : Int) - t194)))) + t200)) + 4)) (wrap64 (x5_1 + 1))) else (coppiceref4_Size.l0 k1 l0 t194 (wrap64 ((wrap64 ((wrap64 ((wrap64 ((wrap64 (x4_1 + 2)) + t197)) + (wrap64 ((((rd_T38 l0 x5_1).f0).length : Int) - t194)))) + t200)) + t202)) (wrap64 (x5_1 + 1))))) = some r := H
          have A8 := Aside0.mk A80
          clear A80
          replace H := Option.bind_eq_some_iff.mp H
          obtain ⟨t202, A90, H⟩ := H
          replace H : (if t202 > 512 then (coppiceref4_Size.l0 k1 l0 t194 (wrap64 ((wrap64 ((wrap64 ((wrap64 ((wrap64 (x4_1 + 2)) + t197)) + (wrap64 ((((rd_T38 l0 x5_1).f0).length : Int) - t194)))) + t200)) + 4)) (wrap64 (x5_1 + 1))) else (coppiceref4_Size.l0 k1 l0 t194 (wrap64 ((wrap64 ((wrap64 ((wrap64 ((wrap64 (x4_1 + 2)) + t197)) + (wrap64 ((((rd_T38 l0 x5_1).f0).length : Int) - t194)))) + t200)) + t202)) (wrap64 (x5_1 + 1)))) = some r := H
          have A9 := Aside0.mk A90
          clear A90
          by_cases c10 : t202 > 512
          · rw [if_pos c10] at H
            have c10b0 : decide (512 < t202) = true := decide_eq_true c10
            clear c10
            have H' := Aside0.mk H
            clear H
            have p196 : 0 ≤ (x5_1 : Int) := of_decide_eq_true (by first | (with_reducible assumption) | assumption)
            have q196 : x5_1 < (l0.length : Int) := of_decide_eq_true (by first | (with_reducible assumption) | assumption)
            obtain ⟨ad196, A196_0, c196_0, A196_1, c196_1, e196, hx196_0, hx196_1, hx196_2, hx196_3, hl196_0, hi196_0, hl196_1, hi196_1⟩ := at_T38 HR0.out x5_1 p196 q196
            cases e196
            have HR196_0 := Aside0.mk hi196_0
            have HC196_0 := Aside0.mk hl196_0
            clear hi196_0 hl196_0
            have HR196_1 := Aside0.mk hi196_1
            have HC196_1 := Aside0.mk hl196_1
            clear hi196_1 hl196_1
            replace p196 := eq_true p196
            replace q196 := eq_true q196
            go_wp2_with (first | (go_at_call 49; (with_reducible refine (coppiceref1_VLen.calls k1 (IntKind.u64.wrap (wrap64 ((((rd_T38 l0 x5_1).f0).length : Int) - t194))) t197 _ A6.out).mono ?_); rintro e w' ⟨rfl, ⟨nd, rfl⟩⟩; (try first | exact ⟨rfl, _, World.drewN_drewN _ _ _⟩ | exact ⟨rfl, _, Eq.trans (World.drewN_drewN _ _ _) (congrArg (World.drewN _) (Nat.add_assoc _ _ _))⟩); have p198 : 0 ≤ (x5_1 : Int) := of_decide_eq_true (by first | (with_reducible assumption) | assumption); have q198 : x5_1 < (l0.length : Int) := of_decide_eq_true (by first | (with_reducible assumption) | assumption); obtain ⟨ad198, A198_0, c198_0, A198_1, c198_1, e198, hx198_0, hx198_1, hx198_2, hx198_3, hl198_0, hi198_0, hl198_1, hi198_1⟩ := at_T38 HR0.out x5_1 p198 q198; obtain rfl : ad196 = ad198 := (by injection e198); have HR198_0 := Aside0.mk hi198_0; have HC198_0 := Aside0.mk hl198_0; clear hi198_0 hl198_0; have HR198_1 := Aside0.mk hi198_1; have HC198_1 := Aside0.mk hl198_1; clear hi198_1 hl198_1; replace p198 := eq_true p198; replace q198 := eq_true q198; have ea_ := Option.some.inj (hx196_0.symm.trans hx198_0); injection ea_ with ea_ en_ ec_; subst ea_; subst ec_; clear en_; have ea_ := Option.some.inj (hx196_1.symm.trans hx198_1); injection ea_ with ea_ en_ ec_; subst ea_; subst ec_; clear en_) | (go_at_call 50; (with_reducible refine (coppiceref4_tag.calls ((rd_T38 l0 x5_1).f2) t199 _ A7.out).mono ?_); rintro e w' ⟨rfl, ⟨nd, rfl⟩⟩; (try first | exact ⟨rfl, _, World.drewN_drewN _ _ _⟩ | exact ⟨rfl, _, Eq.trans (World.drewN_drewN _ _ _) (congrArg (World.drewN _) (Nat.add_assoc _ _ _))⟩)) | (go_at_call 49; (with_reducible refine (coppiceref1_VLen.calls k1 t199 t200 _ A8.out).mono ?_); rintro e w' ⟨rfl, ⟨nd, rfl⟩⟩; (try first | exact ⟨rfl, _, World.drewN_drewN _ _ _⟩ | exact ⟨rfl, _, Eq.trans (World.drewN_drewN _ _ _) (congrArg (World.drewN _) (Nat.add_assoc _ _ _))⟩); have p201 : 0 ≤ (x5_1 : Int) := of_decide_eq_true (by first | (with_reducible assumption) | assumption); have q201 : x5_1 < (l0.length : Int) := of_decide_eq_true (by first | (with_reducible assumption) | assumption); obtain ⟨ad201, A201_0, c201_0, A201_1, c201_1, e201, hx201_0, hx201_1, hx201_2, hx201_3, hl201_0, hi201_0, hl201_1, hi201_1⟩ := at_T38 HR0.out x5_1 p201 q201; obtain rfl : ad196 = ad201 := (by injection e201); have HR201_0 := Aside0.mk hi201_0; have HC201_0 := Aside0.mk hl201_0; clear hi201_0 hl201_0; have HR201_1 := Aside0.mk hi201_1; have HC201_1 := Aside0.mk hl201_1; clear hi201_1 hl201_1; replace p201 := eq_true p201; replace q201 := eq_true q201; have ea_ := Option.some.inj (hx196_0.symm.trans hx201_0); injection ea_ with ea_ en_ ec_; subst ea_; subst ec_; clear en_; have ea_ := Option.some.inj (hx196_1.symm.trans hx201_1); injection ea_ with ea_ en_ ec_; subst ea_; subst ec_; clear en_) | (go_at_call 51; (with_reducible refine (coppiceref4_long.calls ((rd_T38 l0 x5_1).f2) t202 _ A9.out).mono ?_); rintro e w' ⟨rfl, ⟨nd, rfl⟩⟩; (try first | exact ⟨rfl, _, World.drewN_drewN _ _ _⟩ | exact ⟨rfl, _, Eq.trans (World.drewN_drewN _ _ _) (congrArg (World.drewN _) (Nat.add_assoc _ _ _))⟩)))
            repeat (go_quiet (first | (go_at_call 49; (with_reducible refine (coppiceref1_VLen.calls k1 (IntKind.u64.wrap (wrap64 ((((rd_T38 l0 x5_1).f0).length : Int) - t194))) t197 _ A6.out).mono ?_); rintro e w' ⟨rfl, ⟨nd, rfl⟩⟩; (try first | exact ⟨rfl, _, World.drewN_drewN _ _ _⟩ | exact ⟨rfl, _, Eq.trans (World.drewN_drewN _ _ _) (congrArg (World.drewN _) (Nat.add_assoc _ _ _))⟩); have p198 : 0 ≤ (x5_1 : Int) := of_decide_eq_true (by first | (with_reducible assumption) | assumption); have q198 : x5_1 < (l0.length : Int) := of_decide_eq_true (by first | (with_reducible assumption) | assumption); obtain ⟨ad198, A198_0, c198_0, A198_1, c198_1, e198, hx198_0, hx198_1, hx198_2, hx198_3, hl198_0, hi198_0, hl198_1, hi198_1⟩ := at_T38 HR0.out x5_1 p198 q198; obtain rfl : ad196 = ad198 := (by injection e198); have HR198_0 := Aside0.mk hi198_0; have HC198_0 := Aside0.mk hl198_0; clear hi198_0 hl198_0; have HR198_1 := Aside0.mk hi198_1; have HC198_1 := Aside0.mk hl198_1; clear hi198_1 hl198_1; replace p198 := eq_true p198; replace q198 := eq_true q198; have ea_ := Option.some.inj (hx196_0.symm.trans hx198_0); injection ea_ with ea_ en_ ec_; subst ea_; subst ec_; clear en_; have ea_ := Option.some.inj (hx196_1.symm.trans hx198_1); injection ea_ with ea_ en_ ec_; subst ea_; subst ec_; clear en_) | (go_at_call 50; (with_reducible refine (coppiceref4_tag.calls ((rd_T38 l0 x5_1).f2) t199 _ A7.out).mono ?_); rintro e w' ⟨rfl, ⟨nd, rfl⟩⟩; (try first | exact ⟨rfl, _, World.drewN_drewN _ _ _⟩ | exact ⟨rfl, _, Eq.trans (World.drewN_drewN _ _ _) (congrArg (World.drewN _) (Nat.add_assoc _ _ _))⟩)) | (go_at_call 49; (with_reducible refine (coppiceref1_VLen.calls k1 t199 t200 _ A8.out).mono ?_); rintro e w' ⟨rfl, ⟨nd, rfl⟩⟩; (try first | exact ⟨rfl, _, World.drewN_drewN _ _ _⟩ | exact ⟨rfl, _, Eq.trans (World.drewN_drewN _ _ _) (congrArg (World.drewN _) (Nat.add_assoc _ _ _))⟩); have p201 : 0 ≤ (x5_1 : Int) := of_decide_eq_true (by first | (with_reducible assumption) | assumption); have q201 : x5_1 < (l0.length : Int) := of_decide_eq_true (by first | (with_reducible assumption) | assumption); obtain ⟨ad201, A201_0, c201_0, A201_1, c201_1, e201, hx201_0, hx201_1, hx201_2, hx201_3, hl201_0, hi201_0, hl201_1, hi201_1⟩ := at_T38 HR0.out x5_1 p201 q201; obtain rfl : ad196 = ad201 := (by injection e201); have HR201_0 := Aside0.mk hi201_0; have HC201_0 := Aside0.mk hl201_0; clear hi201_0 hl201_0; have HR201_1 := Aside0.mk hi201_1; have HC201_1 := Aside0.mk hl201_1; clear hi201_1 hl201_1; replace p201 := eq_true p201; replace q201 := eq_true q201; have ea_ := Option.some.inj (hx196_0.symm.trans hx201_0); injection ea_ with ea_ en_ ec_; subst ea_; subst ec_; clear en_; have ea_ := Option.some.inj (hx196_1.symm.trans hx201_1); injection ea_ with ea_ en_ ec_; subst ea_; subst ec_; clear en_) | (go_at_call 51; (with_reducible refine (coppiceref4_long.calls ((rd_T38 l0 x5_1).f2) t202 _ A9.out).mono ?_); rintro e w' ⟨rfl, ⟨nd, rfl⟩⟩; (try first | exact ⟨rfl, _, World.drewN_drewN _ _ _⟩ | exact ⟨rfl, _, Eq.trans (World.drewN_drewN _ _ _) (congrArg (World.drewN _) (Nat.add_assoc _ _ _))⟩))); try go_wp2_with (first | (go_at_call 49; (with_reducible refine (coppiceref1_VLen.calls k1 (IntKind.u64.wrap (wrap64 ((((rd_T38 l0 x5_1).f0).length : Int) - t194))) t197 _ A6.out).mono ?_); rintro e w' ⟨rfl, ⟨nd, rfl⟩⟩; (try first | exact ⟨rfl, _, World.drewN_drewN _ _ _⟩ | exact ⟨rfl, _, Eq.trans (World.drewN_drewN _ _ _) (congrArg (World.drewN _) (Nat.add_assoc _ _ _))⟩); have p198 : 0 ≤ (x5_1 : Int) := of_decide_eq_true (by first | (with_reducible assumption) | assumption); have q198 : x5_1 < (l0.length : Int) := of_decide_eq_true (by first | (with_reducible assumption) | assumption); obtain ⟨ad198, A198_0, c198_0, A198_1, c198_1, e198, hx198_0, hx198_1, hx198_2, hx198_3, hl198_0, hi198_0, hl198_1, hi198_1⟩ := at_T38 HR0.out x5_1 p198 q198; obtain rfl : ad196 = ad198 := (by injection e198); have HR198_0 := Aside0.mk hi198_0; have HC198_0 := Aside0.mk hl198_0; clear hi198_0 hl198_0; have HR198_1 := Aside0.mk hi198_1; have HC198_1 := Aside0.mk hl198_1; clear hi198_1 hl198_1; replace p198 := eq_true p198; replace q198 := eq_true q198; have ea_ := Option.some.inj (hx196_0.symm.trans hx198_0); injection ea_ with ea_ en_ ec_; subst ea_; subst ec_; clear en_; have ea_ := Option.some.inj (hx196_1.symm.trans hx198_1); injection ea_ with ea_ en_ ec_; subst ea_; subst ec_; clear en_) | (go_at_call 50; (with_reducible refine (coppiceref4_tag.calls ((rd_T38 l0 x5_1).f2) t199 _ A7.out).mono ?_); rintro e w' ⟨rfl, ⟨nd, rfl⟩⟩; (try first | exact ⟨rfl, _, World.drewN_drewN _ _ _⟩ | exact ⟨rfl, _, Eq.trans (World.drewN_drewN _ _ _) (congrArg (World.drewN _) (Nat.add_assoc _ _ _))⟩)) | (go_at_call 49; (with_reducible refine (coppiceref1_VLen.calls k1 t199 t200 _ A8.out).mono ?_); rintro e w' ⟨rfl, ⟨nd, rfl⟩⟩; (try first | exact ⟨rfl, _, World.drewN_drewN _ _ _⟩ | exact ⟨rfl, _, Eq.trans (World.drewN_drewN _ _ _) (congrArg (World.drewN _) (Nat.add_assoc _ _ _))⟩); have p201 : 0 ≤ (x5_1 : Int) := of_decide_eq_true (by first | (with_reducible assumption) | assumption); have q201 : x5_1 < (l0.length : Int) := of_decide_eq_true (by first | (with_reducible assumption) | assumption); obtain ⟨ad201, A201_0, c201_0, A201_1, c201_1, e201, hx201_0, hx201_1, hx201_2, hx201_3, hl201_0, hi201_0, hl201_1, hi201_1⟩ := at_T38 HR0.out x5_1 p201 q201; obtain rfl : ad196 = ad201 := (by injection e201); have HR201_0 := Aside0.mk hi201_0; have HC201_0 := Aside0.mk hl201_0; clear hi201_0 hl201_0; have HR201_1 := Aside0.mk hi201_1; have HC201_1 := Aside0.mk hl201_1; clear hi201_1 hl201_1; replace p201 := eq_true p201; replace q201 := eq_true q201; have ea_ := Option.some.inj (hx196_0.symm.trans hx201_0); injection ea_ with ea_ en_ ec_; subst ea_; subst ec_; clear en_; have ea_ := Option.some.inj (hx196_1.symm.trans hx201_1); injection ea_ with ea_ en_ ec_; subst ea_; subst ec_; clear en_) | (go_at_call 51; (with_reducible refine (coppiceref4_long.calls ((rd_T38 l0 x5_1).f2) t202 _ A9.out).mono ?_); rintro e w' ⟨rfl, ⟨nd, rfl⟩⟩; (try first | exact ⟨rfl, _, World.drewN_drewN _ _ _⟩ | exact ⟨rfl, _, Eq.trans (World.drewN_drewN _ _ _) (congrArg (World.drewN _) (Nat.add_assoc _ _ _))⟩))))
            go_roundg k1
            case measure => have := HK1.out; omega
            case rel => exact ⟨(wrap64 ((wrap64 ((wrap64 ((wrap64 ((wrap64 (x4_1 + 2)) + t197)) + (wrap64 ((((rd_T38 l0 x5_1).f0).length : Int) - t194)))) + t200)) + 4)), (wrap64 (x5_1 + 1)), (by first | rfl | (simp; done) | (simp [*]; done)), (by first | rfl | (simp; done) | (simp [*]; done)), H', ⟨by have := HK1.out; omega⟩, by repeat (first | exact Drawn0.refl _ | apply Drawn0.step)⟩
          · rw [if_neg c10] at H
            have c10b0 : decide (512 < t202) = false := decide_eq_false c10
            clear c10
            have H' := Aside0.mk H
            clear H
            have p196 : 0 ≤ (x5_1 : Int) := of_decide_eq_true (by first | (with_reducible assumption) | assumption)
            have q196 : x5_1 < (l0.length : Int) := of_decide_eq_true (by first | (with_reducible assumption) | assumption)
            obtain ⟨ad196, A196_0, c196_0, A196_1, c196_1, e196, hx196_0, hx196_1, hx196_2, hx196_3, hl196_0, hi196_0, hl196_1, hi196_1⟩ := at_T38 HR0.out x5_1 p196 q196
            cases e196
            have HR196_0 := Aside0.mk hi196_0
            have HC196_0 := Aside0.mk hl196_0
            clear hi196_0 hl196_0
            have HR196_1 := Aside0.mk hi196_1
            have HC196_1 := Aside0.mk hl196_1
            clear hi196_1 hl196_1
            replace p196 := eq_true p196
            replace q196 := eq_true q196
            go_wp2_with (first | (go_at_call 49; (with_reducible refine (coppiceref1_VLen.calls k1 (IntKind.u64.wrap (wrap64 ((((rd_T38 l0 x5_1).f0).length : Int) - t194))) t197 _ A6.out).mono ?_); rintro e w' ⟨rfl, ⟨nd, rfl⟩⟩; (try first | exact ⟨rfl, _, World.drewN_drewN _ _ _⟩ | exact ⟨rfl, _, Eq.trans (World.drewN_drewN _ _ _) (congrArg (World.drewN _) (Nat.add_assoc _ _ _))⟩); have p198 : 0 ≤ (x5_1 : Int) := of_decide_eq_true (by first | (with_reducible assumption) | assumption); have q198 : x5_1 < (l0.length : Int) := of_decide_eq_true (by first | (with_reducible assumption) | assumption); obtain ⟨ad198, A198_0, c198_0, A198_1, c198_1, e198, hx198_0, hx198_1, hx198_2, hx198_3, hl198_0, hi198_0, hl198_1, hi198_1⟩ := at_T38 HR0.out x5_1 p198 q198; obtain rfl : ad196 = ad198 := (by injection e198); have HR198_0 := Aside0.mk hi198_0; have HC198_0 := Aside0.mk hl198_0; clear hi198_0 hl198_0; have HR198_1 := Aside0.mk hi198_1; have HC198_1 := Aside0.mk hl198_1; clear hi198_1 hl198_1; replace p198 := eq_true p198; replace q198 := eq_true q198; have ea_ := Option.some.inj (hx196_0.symm.trans hx198_0); injection ea_ with ea_ en_ ec_; subst ea_; subst ec_; clear en_; have ea_ := Option.some.inj (hx196_1.symm.trans hx198_1); injection ea_ with ea_ en_ ec_; subst ea_; subst ec_; clear en_) | (go_at_call 50; (with_reducible refine (coppiceref4_tag.calls ((rd_T38 l0 x5_1).f2) t199 _ A7.out).mono ?_); rintro e w' ⟨rfl, ⟨nd, rfl⟩⟩; (try first | exact ⟨rfl, _, World.drewN_drewN _ _ _⟩ | exact ⟨rfl, _, Eq.trans (World.drewN_drewN _ _ _) (congrArg (World.drewN _) (Nat.add_assoc _ _ _))⟩)) | (go_at_call 49; (with_reducible refine (coppiceref1_VLen.calls k1 t199 t200 _ A8.out).mono ?_); rintro e w' ⟨rfl, ⟨nd, rfl⟩⟩; (try first | exact ⟨rfl, _, World.drewN_drewN _ _ _⟩ | exact ⟨rfl, _, Eq.trans (World.drewN_drewN _ _ _) (congrArg (World.drewN _) (Nat.add_assoc _ _ _))⟩); have p201 : 0 ≤ (x5_1 : Int) := of_decide_eq_true (by first | (with_reducible assumption) | assumption); have q201 : x5_1 < (l0.length : Int) := of_decide_eq_true (by first | (with_reducible assumption) | assumption); obtain ⟨ad201, A201_0, c201_0, A201_1, c201_1, e201, hx201_0, hx201_1, hx201_2, hx201_3, hl201_0, hi201_0, hl201_1, hi201_1⟩ := at_T38 HR0.out x5_1 p201 q201; obtain rfl : ad196 = ad201 := (by injection e201); have HR201_0 := Aside0.mk hi201_0; have HC201_0 := Aside0.mk hl201_0; clear hi201_0 hl201_0; have HR201_1 := Aside0.mk hi201_1; have HC201_1 := Aside0.mk hl201_1; clear hi201_1 hl201_1; replace p201 := eq_true p201; replace q201 := eq_true q201; have ea_ := Option.some.inj (hx196_0.symm.trans hx201_0); injection ea_ with ea_ en_ ec_; subst ea_; subst ec_; clear en_; have ea_ := Option.some.inj (hx196_1.symm.trans hx201_1); injection ea_ with ea_ en_ ec_; subst ea_; subst ec_; clear en_) | (go_at_call 51; (with_reducible refine (coppiceref4_long.calls ((rd_T38 l0 x5_1).f2) t202 _ A9.out).mono ?_); rintro e w' ⟨rfl, ⟨nd, rfl⟩⟩; (try first | exact ⟨rfl, _, World.drewN_drewN _ _ _⟩ | exact ⟨rfl, _, Eq.trans (World.drewN_drewN _ _ _) (congrArg (World.drewN _) (Nat.add_assoc _ _ _))⟩); have p203 : 0 ≤ (x5_1 : Int) := of_decide_eq_true (by first | (with_reducible assumption) | assumption); have q203 : x5_1 < (l0.length : Int) := of_decide_eq_true (by first | (with_reducible assumption) | assumption); obtain ⟨ad203, A203_0, c203_0, A203_1, c203_1, e203, hx203_0, hx203_1, hx203_2, hx203_3, hl203_0, hi203_0, hl203_1, hi203_1⟩ := at_T38 HR0.out x5_1 p203 q203; obtain rfl : ad196 = ad203 := (by injection e203); have HR203_0 := Aside0.mk hi203_0; have HC203_0 := Aside0.mk hl203_0; clear hi203_0 hl203_0; have HR203_1 := Aside0.mk hi203_1; have HC203_1 := Aside0.mk hl203_1; clear hi203_1 hl203_1; replace p203 := eq_true p203; replace q203 := eq_true q203; have ea_ := Option.some.inj (hx196_0.symm.trans hx203_0); injection ea_ with ea_ en_ ec_; subst ea_; subst ec_; clear en_; have ea_ := Option.some.inj (hx196_1.symm.trans hx203_1); injection ea_ with ea_ en_ ec_; subst ea_; subst ec_; clear en_))
            repeat (go_quiet (first | (go_at_call 49; (with_reducible refine (coppiceref1_VLen.calls k1 (IntKind.u64.wrap (wrap64 ((((rd_T38 l0 x5_1).f0).length : Int) - t194))) t197 _ A6.out).mono ?_); rintro e w' ⟨rfl, ⟨nd, rfl⟩⟩; (try first | exact ⟨rfl, _, World.drewN_drewN _ _ _⟩ | exact ⟨rfl, _, Eq.trans (World.drewN_drewN _ _ _) (congrArg (World.drewN _) (Nat.add_assoc _ _ _))⟩); have p198 : 0 ≤ (x5_1 : Int) := of_decide_eq_true (by first | (with_reducible assumption) | assumption); have q198 : x5_1 < (l0.length : Int) := of_decide_eq_true (by first | (with_reducible assumption) | assumption); obtain ⟨ad198, A198_0, c198_0, A198_1, c198_1, e198, hx198_0, hx198_1, hx198_2, hx198_3, hl198_0, hi198_0, hl198_1, hi198_1⟩ := at_T38 HR0.out x5_1 p198 q198; obtain rfl : ad196 = ad198 := (by injection e198); have HR198_0 := Aside0.mk hi198_0; have HC198_0 := Aside0.mk hl198_0; clear hi198_0 hl198_0; have HR198_1 := Aside0.mk hi198_1; have HC198_1 := Aside0.mk hl198_1; clear hi198_1 hl198_1; replace p198 := eq_true p198; replace q198 := eq_true q198; have ea_ := Option.some.inj (hx196_0.symm.trans hx198_0); injection ea_ with ea_ en_ ec_; subst ea_; subst ec_; clear en_; have ea_ := Option.some.inj (hx196_1.symm.trans hx198_1); injection ea_ with ea_ en_ ec_; subst ea_; subst ec_; clear en_) | (go_at_call 50; (with_reducible refine (coppiceref4_tag.calls ((rd_T38 l0 x5_1).f2) t199 _ A7.out).mono ?_); rintro e w' ⟨rfl, ⟨nd, rfl⟩⟩; (try first | exact ⟨rfl, _, World.drewN_drewN _ _ _⟩ | exact ⟨rfl, _, Eq.trans (World.drewN_drewN _ _ _) (congrArg (World.drewN _) (Nat.add_assoc _ _ _))⟩)) | (go_at_call 49; (with_reducible refine (coppiceref1_VLen.calls k1 t199 t200 _ A8.out).mono ?_); rintro e w' ⟨rfl, ⟨nd, rfl⟩⟩; (try first | exact ⟨rfl, _, World.drewN_drewN _ _ _⟩ | exact ⟨rfl, _, Eq.trans (World.drewN_drewN _ _ _) (congrArg (World.drewN _) (Nat.add_assoc _ _ _))⟩); have p201 : 0 ≤ (x5_1 : Int) := of_decide_eq_true (by first | (with_reducible assumption) | assumption); have q201 : x5_1 < (l0.length : Int) := of_decide_eq_true (by first | (with_reducible assumption) | assumption); obtain ⟨ad201, A201_0, c201_0, A201_1, c201_1, e201, hx201_0, hx201_1, hx201_2, hx201_3, hl201_0, hi201_0, hl201_1, hi201_1⟩ := at_T38 HR0.out x5_1 p201 q201; obtain rfl : ad196 = ad201 := (by injection e201); have HR201_0 := Aside0.mk hi201_0; have HC201_0 := Aside0.mk hl201_0; clear hi201_0 hl201_0; have HR201_1 := Aside0.mk hi201_1; have HC201_1 := Aside0.mk hl201_1; clear hi201_1 hl201_1; replace p201 := eq_true p201; replace q201 := eq_true q201; have ea_ := Option.some.inj (hx196_0.symm.trans hx201_0); injection ea_ with ea_ en_ ec_; subst ea_; subst ec_; clear en_; have ea_ := Option.some.inj (hx196_1.symm.trans hx201_1); injection ea_ with ea_ en_ ec_; subst ea_; subst ec_; clear en_) | (go_at_call 51; (with_reducible refine (coppiceref4_long.calls ((rd_T38 l0 x5_1).f2) t202 _ A9.out).mono ?_); rintro e w' ⟨rfl, ⟨nd, rfl⟩⟩; (try first | exact ⟨rfl, _, World.drewN_drewN _ _ _⟩ | exact ⟨rfl, _, Eq.trans (World.drewN_drewN _ _ _) (congrArg (World.drewN _) (Nat.add_assoc _ _ _))⟩); have p203 : 0 ≤ (x5_1 : Int) := of_decide_eq_true (by first | (with_reducible assumption) | assumption); have q203 : x5_1 < (l0.length : Int) := of_decide_eq_true (by first | (with_reducible assumption) | assumption); obtain ⟨ad203, A203_0, c203_0, A203_1, c203_1, e203, hx203_0, hx203_1, hx203_2, hx203_3, hl203_0, hi203_0, hl203_1, hi203_1⟩ := at_T38 HR0.out x5_1 p203 q203; obtain rfl : ad196 = ad203 := (by injection e203); have HR203_0 := Aside0.mk hi203_0; have HC203_0 := Aside0.mk hl203_0; clear hi203_0 hl203_0; have HR203_1 := Aside0.mk hi203_1; have HC203_1 := Aside0.mk hl203_1; clear hi203_1 hl203_1; replace p203 := eq_true p203; replace q203 := eq_true q203; have ea_ := Option.some.inj (hx196_0.symm.trans hx203_0); injection ea_ with ea_ en_ ec_; subst ea_; subst ec_; clear en_; have ea_ := Option.some.inj (hx196_1.symm.trans hx203_1); injection ea_ with ea_ en_ ec_; subst ea_; subst ec_; clear en_)); try go_wp2_with (first | (go_at_call 49; (with_reducible refine (coppiceref1_VLen.calls k1 (IntKind.u64.wrap (wrap64 ((((rd_T38 l0 x5_1).f0).length : Int) - t194))) t197 _ A6.out).mono ?_); rintro e w' ⟨rfl, ⟨nd, rfl⟩⟩; (try first | exact ⟨rfl, _, World.drewN_drewN _ _ _⟩ | exact ⟨rfl, _, Eq.trans (World.drewN_drewN _ _ _) (congrArg (World.drewN _) (Nat.add_assoc _ _ _))⟩); have p198 : 0 ≤ (x5_1 : Int) := of_decide_eq_true (by first | (with_reducible assumption) | assumption); have q198 : x5_1 < (l0.length : Int) := of_decide_eq_true (by first | (with_reducible assumption) | assumption); obtain ⟨ad198, A198_0, c198_0, A198_1, c198_1, e198, hx198_0, hx198_1, hx198_2, hx198_3, hl198_0, hi198_0, hl198_1, hi198_1⟩ := at_T38 HR0.out x5_1 p198 q198; obtain rfl : ad196 = ad198 := (by injection e198); have HR198_0 := Aside0.mk hi198_0; have HC198_0 := Aside0.mk hl198_0; clear hi198_0 hl198_0; have HR198_1 := Aside0.mk hi198_1; have HC198_1 := Aside0.mk hl198_1; clear hi198_1 hl198_1; replace p198 := eq_true p198; replace q198 := eq_true q198; have ea_ := Option.some.inj (hx196_0.symm.trans hx198_0); injection ea_ with ea_ en_ ec_; subst ea_; subst ec_; clear en_; have ea_ := Option.some.inj (hx196_1.symm.trans hx198_1); injection ea_ with ea_ en_ ec_; subst ea_; subst ec_; clear en_) | (go_at_call 50; (with_reducible refine (coppiceref4_tag.calls ((rd_T38 l0 x5_1).f2) t199 _ A7.out).mono ?_); rintro e w' ⟨rfl, ⟨nd, rfl⟩⟩; (try first | exact ⟨rfl, _, World.drewN_drewN _ _ _⟩ | exact ⟨rfl, _, Eq.trans (World.drewN_drewN _ _ _) (congrArg (World.drewN _) (Nat.add_assoc _ _ _))⟩)) | (go_at_call 49; (with_reducible refine (coppiceref1_VLen.calls k1 t199 t200 _ A8.out).mono ?_); rintro e w' ⟨rfl, ⟨nd, rfl⟩⟩; (try first | exact ⟨rfl, _, World.drewN_drewN _ _ _⟩ | exact ⟨rfl, _, Eq.trans (World.drewN_drewN _ _ _) (congrArg (World.drewN _) (Nat.add_assoc _ _ _))⟩); have p201 : 0 ≤ (x5_1 : Int) := of_decide_eq_true (by first | (with_reducible assumption) | assumption); have q201 : x5_1 < (l0.length : Int) := of_decide_eq_true (by first | (with_reducible assumption) | assumption); obtain ⟨ad201, A201_0, c201_0, A201_1, c201_1, e201, hx201_0, hx201_1, hx201_2, hx201_3, hl201_0, hi201_0, hl201_1, hi201_1⟩ := at_T38 HR0.out x5_1 p201 q201; obtain rfl : ad196 = ad201 := (by injection e201); have HR201_0 := Aside0.mk hi201_0; have HC201_0 := Aside0.mk hl201_0; clear hi201_0 hl201_0; have HR201_1 := Aside0.mk hi201_1; have HC201_1 := Aside0.mk hl201_1; clear hi201_1 hl201_1; replace p201 := eq_true p201; replace q201 := eq_true q201; have ea_ := Option.some.inj (hx196_0.symm.trans hx201_0); injection ea_ with ea_ en_ ec_; subst ea_; subst ec_; clear en_; have ea_ := Option.some.inj (hx196_1.symm.trans hx201_1); injection ea_ with ea_ en_ ec_; subst ea_; subst ec_; clear en_) | (go_at_call 51; (with_reducible refine (coppiceref4_long.calls ((rd_T38 l0 x5_1).f2) t202 _ A9.out).mono ?_); rintro e w' ⟨rfl, ⟨nd, rfl⟩⟩; (try first | exact ⟨rfl, _, World.drewN_drewN _ _ _⟩ | exact ⟨rfl, _, Eq.trans (World.drewN_drewN _ _ _) (congrArg (World.drewN _) (Nat.add_assoc _ _ _))⟩); have p203 : 0 ≤ (x5_1 : Int) := of_decide_eq_true (by first | (with_reducible assumption) | assumption); have q203 : x5_1 < (l0.length : Int) := of_decide_eq_true (by first | (with_reducible assumption) | assumption); obtain ⟨ad203, A203_0, c203_0, A203_1, c203_1, e203, hx203_0, hx203_1, hx203_2, hx203_3, hl203_0, hi203_0, hl203_1, hi203_1⟩ := at_T38 HR0.out x5_1 p203 q203; obtain rfl : ad196 = ad203 := (by injection e203); have HR203_0 := Aside0.mk hi203_0; have HC203_0 := Aside0.mk hl203_0; clear hi203_0 hl203_0; have HR203_1 := Aside0.mk hi203_1; have HC203_1 := Aside0.mk hl203_1; clear hi203_1 hl203_1; replace p203 := eq_true p203; replace q203 := eq_true q203; have ea_ := Option.some.inj (hx196_0.symm.trans hx203_0); injection ea_ with ea_ en_ ec_; subst ea_; subst ec_; clear en_; have ea_ := Option.some.inj (hx196_1.symm.trans hx203_1); injection ea_ with ea_ en_ ec_; subst ea_; subst ec_; clear en_)))
            go_roundg k1
            case measure => have := HK1.out; omega
            case rel => exact ⟨(wrap64 ((wrap64 ((wrap64 ((wrap64 ((wrap64 (x4_1 + 2)) + t197)) + (wrap64 ((((rd_T38 l0 x5_1).f0).length : Int) - t194)))) + t200)) + t202)), (wrap64 (x5_1 + 1)), (by first | rfl | (simp; done) | (simp [*]; done)), (by first | rfl | (simp; done) | (simp [*]; done)), H', ⟨by have := HK1.out; omega⟩, by repeat (first | exact Drawn0.refl _ | apply Drawn0.step)⟩
        · rw [if_neg c5] at H
          exact absurd H (by simp)
      · rw [if_neg c4] at H
        have c4b0 : decide (x5_1 < (l0.length : Int)) = false := decide_eq_false c4
        clear c4
        obtain rfl := Option.some.inj H
        go_wp2
        repeat (go_quiet (fail); try go_wp2)
        go_ret
        exact ⟨by first | rfl | (simp; done) | (simp [*]; done), by repeat (first | exact Drawn0.refl _ | apply Drawn0.step)⟩

end Go.Proofs.Yteaiefkadmlabaa.P
