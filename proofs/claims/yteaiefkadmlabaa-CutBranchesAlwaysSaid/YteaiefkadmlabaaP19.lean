/- Machine steps of the program, written by a program of this session out of the translation. -/
import Derived.Test.YteaiefkadmlabaaP0
import Derived.Test.YteaiefkadmlabaaP13
import Derived.Test.YteaiefkadmlabaaP14
import Derived.Test.YteaiefkadmlabaaP15
import Derived.Test.YteaiefkadmlabaaP18
import Derived.Test.YteaiefkadmlabaaP7
import Derived.Test.YteaiefkadmlabaaHBranch
import Derived.Test.YteaiefkadmlabaaHFirst
namespace Go.Proofs.Yteaiefkadmlabaa.P
open Go.RowKit Go.Proofs.YteaiefkadmlabaaW.PrintWords Go.Proofs.YteaiefkadmlabaaW.PrintLast Go.Proofs.YteaiefkadmlabaaW.PrintMore
attribute [local go_sem] max2_int min2_int max_two min_two max_three min_three max_four min_four   -- for this text's walks alone
set_option linter.unusedVariables false
set_option linter.unusedSimpArgs false

set_option maxHeartbeats 8000000 in
set_option maxRecDepth 100000 in
theorem coppicelaw9_CutBranchesAlways.calls (k : Nat) (P0_ : Nat → Prop) (A0 : Option Addr) (c0 : Nat) (l0 : List (List Int)) (P1_ : Nat → Prop) (A1 : Option Addr) (c1 : Nat) (l1 : List Int) (r : Bool) (w : World) (hs0 : Kd.V (Kd.slice 5 (Kd.int .u8)) 32 w w.heap.size (fun k_ => P0_ k_) (.slice A0 l0.length c0) l0) (hs1 : Kd.V (Kd.int .u8) 5 w w.heap.size (fun k_ => P1_ k_) (.slice A1 l1.length c1) l1) (h : coppicelaw9_CutBranchesAlways.f k l0 l1 = some r) :
    Calls Try.prog 9 #[.slice A0 l0.length c0, .slice A1 l1.length c1] w fun e w' => e = .returned (.bool r) ∧ Below w.heap.size w w' := by
  have HO0 := Aside0.mk (show Kd.V (Kd.slice 5 (Kd.int .u8)) 32 w w.heap.size (fun k_ => ((P0_ k_ ∨ P1_ k_) ∨ w.heap.size ≤ k_)) (.slice A0 l0.length c0) l0 from Kd.V_mono hs0 (fun k_ hk => .inl (.inl hk)))
  have HO1 := Aside0.mk (show Kd.V (Kd.int .u8) 5 w w.heap.size (fun k_ => ((P0_ k_ ∨ P1_ k_) ∨ w.heap.size ≤ k_)) (.slice A1 l1.length c1) l1 from Kd.V_mono hs1 (fun k_ hk => .inl (.inr hk)))
  have HB := Aside0.mk (Below.refl w.heap.size w)
  have H : ((coppicelaw9_first.f).bind fun t368 => ((coppiceref3_Valid.f l1).bind fun t369 => (if (l0.length : Int) > 400 then (coppicelaw9_CutBranchesAlways.j0 k l0 l1 t368 true) else (if t369 = true then ((coppiceref5_Size.f k l0).bind fun t370 => (coppicelaw9_CutBranchesAlways.j0 k l0 l1 t368 (decide (t370 > 4092)))) else (coppicelaw9_CutBranchesAlways.j0 k l0 l1 t368 true))))) = some r := h
  clear h
  replace H := Option.bind_eq_some_iff.mp H
  obtain ⟨t368, A30, H⟩ := H
  replace H : ((coppiceref3_Valid.f l1).bind fun t369 => (if (l0.length : Int) > 400 then (coppicelaw9_CutBranchesAlways.j0 k l0 l1 t368 true) else (if t369 = true then ((coppiceref5_Size.f k l0).bind fun t370 => (coppicelaw9_CutBranchesAlways.j0 k l0 l1 t368 (decide (t370 > 4092)))) else (coppicelaw9_CutBranchesAlways.j0 k l0 l1 t368 true)))) = some r := H
  have A3 := Aside0.mk A30
  clear A30
  replace H := Option.bind_eq_some_iff.mp H
  obtain ⟨t369, A40, H⟩ := H
  replace H : (if (l0.length : Int) > 400 then (coppicelaw9_CutBranchesAlways.j0 k l0 l1 t368 true) else (if t369 = true then ((coppiceref5_Size.f k l0).bind fun t370 => (coppicelaw9_CutBranchesAlways.j0 k l0 l1 t368 (decide (t370 > 4092)))) else (coppicelaw9_CutBranchesAlways.j0 k l0 l1 t368 true))) = some r := H
  have A4 := Aside0.mk A40
  clear A40
  have HC5 := Aside0.mk H
  clear H
  go_enter Try.func9, Try.ntmps9
  go_upto_region 3 with (first | ((with_reducible refine gate_callee (f := 11) rfl ?_); refine goesL_ (some 15) rfl rfl Try.func11 (by kernel_rfl) rfl #[] rfl (by (try simp only [List.map_toArray, List.map_cons, List.map_nil]); first | done | rfl | (simp only [List.length_drop, List.length_take]; rfl)) ?_; (with_reducible refine (coppicelaw9_first.calls  t368 _ A3.out).mono ?_); rintro e w6 ⟨rfl, hb⟩; refine ⟨_, rfl, ?_⟩; have n0_ := Aside0.mk (Kd.V_below (by (with_reducible repeat (first | apply Kd.V_alloc | apply Kd.V_drewN | apply Kd.V_drew)); exact HO0.out) hb); have n1_ := Aside0.mk (Kd.V_below (by (with_reducible repeat (first | apply Kd.V_alloc | apply Kd.V_drewN | apply Kd.V_drew)); exact HO1.out) hb); have n2_ := Aside0.mk (below_step (by repeat (first | (with_reducible first | exact HB.out | apply below_alloc | apply pw_below_drewN | apply below_drew1) | exact HB.out)) hb); clear HO0; clear HO1; clear HB; have HO0 := n0_; have HO1 := n1_; have HB := n2_; clear n0_ n1_ n2_; (try clear hb); (try clear hb2); (try clear hk); (try clear hi)) | ((with_reducible refine gate_callee (f := 29) rfl ?_); refine goesL_ (some 17) rfl rfl Try.func29 (by kernel_rfl) rfl #[.slice A1 l1.length c1] rfl (by (try simp only [List.map_toArray, List.map_cons, List.map_nil]); first | done | rfl | (simp only [List.length_drop, List.length_take]; rfl)) ?_; (with_reducible refine (coppiceref3_Valid.calls _ _ l1 t369 _ ?side1 ?side2 A4.out).mono ?_); (case side1 => repeat (first | exact (Kd.V_reads' HO1.out).2.2 | (with_reducible refine Kd.C_alloc ?_ _) | (with_reducible refine Kd.C_drewN ?_ _) | (with_reducible refine Kd.C_drew ?_))); (case side2 => exact (Kd.V_reads' HO1.out).2.1); rintro e w' ⟨rfl, ⟨nd, rfl⟩⟩; refine ⟨_, rfl, ?_⟩))
  (try simp only [Act.put, List.setIfInBounds_toArray, List.set_cons_zero, List.set_cons_succ])
  go_cut [29] (fun v29 wc => ∃ (kq : Nat) (x29_4 : Bool), v29 = .bool x29_4 ∧ Aside0 (coppicelaw9_CutBranchesAlways.j0 kq l0 l1 t368 x29_4 = some r) ∧ Aside0 (kq ≤ k) ∧ Aside0 (Kd.V (Kd.slice 5 (Kd.int .u8)) 32 wc w.heap.size (fun k_ => ((P0_ k_ ∨ P1_ k_) ∨ w.heap.size ≤ k_)) (.slice A0 l0.length c0) l0) ∧ Aside0 (Kd.V (Kd.int .u8) 5 wc w.heap.size (fun k_ => ((P0_ k_ ∨ P1_ k_) ∨ w.heap.size ≤ k_)) (.slice A1 l1.length c1) l1) ∧ Aside0 (Below w.heap.size w wc))
  case first =>
    have H := HC5.out
    clear HC5
    by_cases c7 : (l0.length : Int) > 400
    · rw [if_pos c7] at H
      have c7b0 : decide (400 < (l0.length : Int)) = true := decide_eq_true c7
      have c7b1 : decide (400 < l0.length) = true := decide_eq_true (by omega)
      clear c7
      (first | rw [c7b0] | (simp only [i64_w, i32_w]; rw [c7b0]) | skip)
      have H' := Aside0.mk H
      clear H
      go_wp2
      go_meet
      case rel => exact ⟨_, (true), (by first | rfl | (simp; done) | (simp [*]; done)), H', ⟨by first | omega | exact Nat.le_refl _⟩, ⟨by (with_reducible repeat (first | apply Kd.V_alloc | apply Kd.V_drewN | apply Kd.V_drew)); exact HO0.out⟩, ⟨by (with_reducible repeat (first | apply Kd.V_alloc | apply Kd.V_drewN | apply Kd.V_drew)); exact HO1.out⟩, ⟨by repeat (first | (with_reducible first | exact HB.out | apply below_alloc | apply pw_below_drewN | apply below_drew1) | exact HB.out)⟩⟩
    · rw [if_neg c7] at H
      have c7b0 : decide (400 < (l0.length : Int)) = false := decide_eq_false c7
      have c7b1 : decide (400 < l0.length) = false := decide_eq_false (by omega)
      clear c7
      (first | rw [c7b0] | (simp only [i64_w, i32_w]; rw [c7b0]) | skip)
      by_cases c8 : t369 = true
      · subst c8
        have H1 : ((coppiceref5_Size.f k l0).bind fun t370 => (coppicelaw9_CutBranchesAlways.j0 k l0 l1 t368 (decide (t370 > 4092)))) = some r := by rw [if_pos rfl] at H; exact H
        clear H
        have H := H1
        clear H1
        replace H := Option.bind_eq_some_iff.mp H
        obtain ⟨t370, A90, H⟩ := H
        replace H : (coppicelaw9_CutBranchesAlways.j0 k l0 l1 t368 (decide (t370 > 4092))) = some r := H
        have A9 := Aside0.mk A90
        clear A90
        have H' := Aside0.mk H
        clear H
        go_wp2_with (first | (go_at_call 30; (with_reducible refine (coppiceref5_Size.calls k _ _ l0 t370 _ ?side1 ?side2 A9.out).mono ?_); (case side1 => repeat (first | exact (Kd.V_reads' HO0.out).2.2 | (with_reducible refine Kd.C_alloc ?_ _) | (with_reducible refine Kd.C_drewN ?_ _) | (with_reducible refine Kd.C_drew ?_))); (case side2 => exact (Kd.V_reads' HO0.out).2.1); rintro e w10 ⟨rfl, hb⟩; have n0_ := Aside0.mk (Kd.V_below (by (with_reducible repeat (first | apply Kd.V_alloc | apply Kd.V_drewN | apply Kd.V_drew)); exact HO0.out) hb); have n1_ := Aside0.mk (Kd.V_below (by (with_reducible repeat (first | apply Kd.V_alloc | apply Kd.V_drewN | apply Kd.V_drew)); exact HO1.out) hb); have n2_ := Aside0.mk (below_step (by repeat (first | (with_reducible first | exact HB.out | apply below_alloc | apply pw_below_drewN | apply below_drew1) | exact HB.out)) hb); clear HO0; clear HO1; clear HB; have HO0 := n0_; have HO1 := n1_; have HB := n2_; clear n0_ n1_ n2_; (try clear hb); (try clear hb2); (try clear hk); (try clear hi)))
        go_meet
        case rel => exact ⟨_, (decide (t370 > 4092)), (by first | rfl | (simp; done) | (simp [*]; done)), H', ⟨by first | omega | exact Nat.le_refl _⟩, ⟨by (with_reducible repeat (first | apply Kd.V_alloc | apply Kd.V_drewN | apply Kd.V_drew)); exact HO0.out⟩, ⟨by (with_reducible repeat (first | apply Kd.V_alloc | apply Kd.V_drewN | apply Kd.V_drew)); exact HO1.out⟩, ⟨by repeat (first | (with_reducible first | exact HB.out | apply below_alloc | apply pw_below_drewN | apply below_drew1) | exact HB.out)⟩⟩
      · replace c8 := Bool.eq_false_iff.mpr c8
        subst c8
        have H1 : (coppicelaw9_CutBranchesAlways.j0 k l0 l1 t368 true) = some r := by rw [if_neg (show ¬ (false = true) by decide)] at H; exact H
        clear H
        have H := H1
        clear H1
        have H' := Aside0.mk H
        clear H
        go_wp2
        go_meet
        case rel => exact ⟨_, (true), (by first | rfl | (simp; done) | (simp [*]; done)), H', ⟨by first | omega | exact Nat.le_refl _⟩, ⟨by (with_reducible repeat (first | apply Kd.V_alloc | apply Kd.V_drewN | apply Kd.V_drew)); exact HO0.out⟩, ⟨by (with_reducible repeat (first | apply Kd.V_alloc | apply Kd.V_drewN | apply Kd.V_drew)); exact HO1.out⟩, ⟨by repeat (first | (with_reducible first | exact HB.out | apply below_alloc | apply pw_below_drewN | apply below_drew1) | exact HB.out)⟩⟩
  case rest =>
    clear HC5
    try clear c1
    try clear c2
    try clear p2
    try clear c7
    try clear c7b0
    try clear c7b1
    try clear c8
    try clear c9
    obtain ⟨kq, x29_4, rfl, HA, HJ4, HO_0, HO_1, HB⟩ := hcut
    cases kq with
    | zero => exact absurd HA.out (by simp [coppicelaw9_CutBranchesAlways.j0])
    | succ kj4 =>
      have H := HA.out
      clear HA
      simp only [coppicelaw9_CutBranchesAlways.j0] at H
      by_cases c11 : x29_4 = true
      · subst c11
        have H1 : (some t368) = some r := by rw [if_pos rfl] at H; exact H
        clear H
        have H := H1
        clear H1
        obtain rfl := Option.some.inj H
        go_wp2
        go_ret
        exact ⟨by first | rfl | (simp [errW_none, errW_some] <;> rfl) | (simp [*, errW_none, errW_some] <;> rfl), by repeat (first | (with_reducible first | exact HB.out | apply below_alloc | apply pw_below_drewN | apply below_drew1) | exact HB.out)⟩
      · replace c11 := Bool.eq_false_iff.mpr c11
        subst c11
        have H1 : (coppicelaw9_CutBranchesAlways.l0 kj4 l0 l1 t368 ([] : List (List Int)) false 0) = some r := by rw [if_neg (show ¬ (false = true) by decide)] at H; exact H
        clear H
        have H := H1
        clear H1
        have H' := Aside0.mk H
        clear H
        go_wp2
        go_loopg [7, 8, 9] kj4 (fun kq v7 v8 v9 w' => ∃ (x7_2 : List (List Int)) (x8_2 : Bool) (x9_2 : Int), v8 = .bool x8_2 ∧ v9 = .int .i64 x9_2 ∧ Aside0 (coppicelaw9_CutBranchesAlways.l0 kq l0 l1 t368 x7_2 x8_2 x9_2 = some r) ∧ Aside0 (kq ≤ kj4) ∧ Aside0 (Kd.V (Kd.slice 5 (Kd.int .u8)) 32 w' w.heap.size (fun k_ => ((P0_ k_ ∨ P1_ k_) ∨ w.heap.size ≤ k_) ∧ some k_ ≠ (v7 : Value).ownBlock) (.slice A0 l0.length c0) l0) ∧ Aside0 (Kd.V (Kd.int .u8) 5 w' w.heap.size (fun k_ => ((P0_ k_ ∨ P1_ k_) ∨ w.heap.size ≤ k_) ∧ some k_ ≠ (v7 : Value).ownBlock) (.slice A1 l1.length c1) l1) ∧ Aside0 (Kd.N (Kd.slice 5 (Kd.int .u8)) 32 w' w.heap.size (fun k_ => ((P0_ k_ ∨ P1_ k_) ∨ w.heap.size ≤ k_)) v7 x7_2) ∧ Aside0 (Below w.heap.size w w'))
        case atStart => exact ⟨(([] : List (List Int))), (false), (0), (by first | rfl | (simp; done) | (simp [*]; done)), (by first | rfl | (simp; done) | (simp [*]; done)), H', ⟨Nat.le_refl _⟩, ⟨by (with_reducible repeat (first | apply Kd.V_alloc | apply Kd.V_drewN | apply Kd.V_drew)); exact Kd.V_mono HO_0.out (fun _ hk => ⟨hk, (by simp [Value.ownBlock])⟩)⟩, ⟨by (with_reducible repeat (first | apply Kd.V_alloc | apply Kd.V_drewN | apply Kd.V_drew)); exact Kd.V_mono HO_1.out (fun _ hk => ⟨hk, (by simp [Value.ownBlock])⟩)⟩, ⟨by first | exact Kd.S_nil _ _ _ _ _ | exact Kd.N_nil _ _ _ _ _ | exact Kd.V_nil _ _ _ _ _ | exact Kd.Q_nil _ _ _ _ _ | exact Kd.R_nil _ _ _ _ _⟩, ⟨by repeat (first | (with_reducible first | exact HB.out | apply below_alloc | apply pw_below_drewN | apply below_drew1) | exact HB.out)⟩⟩
        case round =>
          clear H'
          try clear c1
          try clear c2
          try clear p2
          try clear c7
          try clear c7b0
          try clear c7b1
          try clear c8
          try clear c9
          try clear c11
          try clear p2
          obtain ⟨x7_2, x8_2, x9_2, rfl, rfl, HA, HK2, HO_0, HO_1, HO_7, HB⟩ := hrel
          cases gk with
          | zero => exact absurd HA.out (by simp [coppicelaw9_CutBranchesAlways.l0])
          | succ k2 =>
            have H := HA.out
            clear HA
            simp only [coppicelaw9_CutBranchesAlways.l0] at H
            by_cases c12 : x9_2 < (l0.length : Int)
            · rw [if_pos c12] at H
              have c12b0 : decide (x9_2 < (l0.length : Int)) = true := decide_eq_true c12
              clear c12
              by_cases c13 : 0 ≤ x9_2
              · rw [if_pos c13] at H
                have c13b0 : decide (0 ≤ x9_2) = true := decide_eq_true c13
                clear c13
                replace H := Option.bind_eq_some_iff.mp H
                obtain ⟨t372, A140, H⟩ := H
                replace H : (if t372 = true then (if x9_2 > 0 then (if 0 ≤ (wrap64 (x9_2 - 1)) then (if (wrap64 (x9_2 - 1)) < (l0.length : Int) then ((coppiceref3_Compare.f k2 (rd_L1 l0 (wrap64 (x9_2 - 1))) (rd_L1 l0 x9_2)).bind fun t375 => (if t375 ≥ 0 then (coppicelaw9_CutBranchesAlways.j2 k2 l0 l1 t368 x7_2 x8_2 x9_2 true) else ((coppiceref3_Compare.f k2 (rd_L1 l0 x9_2) l1).bind fun t377 => (coppicelaw9_CutBranchesAlways.j2 k2 l0 l1 t368 x7_2 x8_2 x9_2 (t377 == 0))))) else (none)) else (none)) else ((coppiceref3_Compare.f k2 (rd_L1 l0 x9_2) l1).bind fun t379 => (coppicelaw9_CutBranchesAlways.j2 k2 l0 l1 t368 x7_2 x8_2 x9_2 (t379 == 0)))) else (coppicelaw9_CutBranchesAlways.j2 k2 l0 l1 t368 x7_2 x8_2 x9_2 true)) = some r := H
                have A14 := Aside0.mk A140
                clear A140
                have HC15 := Aside0.mk H
                clear H
                have p371 : 0 ≤ (x9_2 : Int) := of_decide_eq_true (by first | (with_reducible assumption) | assumption)
                have q371 : x9_2 < (l0.length : Int) := of_decide_eq_true (by first | (with_reducible assumption) | assumption)
                obtain ⟨ad371, A371_0, c371_0, e371, hx371_0, hl371_0, hi371_0⟩ := at_L1 (Kd.V_reads' HO_0.out).2.2 x9_2 p371 q371
                cases e371
                obtain ⟨ce371, hce371, hMe371, hcc371⟩ := Kd.V_get HO_0.out [] x9_2 p371 (by first | exact q371 | exact of_decide_eq_true (by first | (with_reducible assumption) | assumption) | (have e_ := (Kd.V_reads' HO_0.out).1; omega))
                obtain ⟨ua371_0, uc371_0, rfl, ul371_0, ge371_0⟩ := Kd.FK_slice_open hMe371
                have hv371_0 := hcc371 0 _ rfl
                rw [Nat.add_zero, show ((Kd.slice 5 (Kd.int .u8))).sz = 1 from rfl, Nat.mul_one] at hv371_0
                replace hv371_0 := Option.some.inj (hv371_0.symm.trans hx371_0)
                injection hv371_0 with hva_ hvn_ hvc_
                rw [hva_] at ge371_0
                rw [hvc_] at ul371_0
                have HL371_0 := Aside0.mk (show Kd.V (Kd.int .u8) 5 _ w.heap.size _ _ (rd_L1 l0 x9_2) from Kd.V_mk ul371_0 ge371_0)
                clear hva_ hvn_ hvc_ ge371_0 ul371_0
                clear hcc371 hce371
                have HR371_0 := Aside0.mk hi371_0
                have HC371_0 := Aside0.mk hl371_0
                clear hi371_0 hl371_0
                replace p371 := eq_true p371
                replace q371 := eq_true q371
                go_upto_region 11 with (first | ((with_reducible refine gate_callee (f := 29) rfl ?_); refine goesL_ (some 41) rfl rfl Try.func29 (by kernel_rfl) rfl #[.slice A371_0 (rd_L1 l0 x9_2).length c371_0] rfl (by (try simp only [List.map_toArray, List.map_cons, List.map_nil]); first | done | rfl | (simp only [List.length_drop, List.length_take]; rfl)) ?_; (with_reducible refine (coppiceref3_Valid.calls _ _ (rd_L1 l0 x9_2) t372 _ ?side1 ?side2 A14.out).mono ?_); (case side1 => repeat (first | exact (by repeat (first | (with_reducible exact HR371_0.out) | (with_reducible refine Kd.C_alloc ?_ _) | (with_reducible refine Kd.C_drewN ?_ _) | (with_reducible refine Kd.C_drew ?_) | exact HR371_0.out)) | (with_reducible refine Kd.C_alloc ?_ _) | (with_reducible refine Kd.C_drewN ?_ _) | (with_reducible refine Kd.C_drew ?_))); (case side2 => exact HC371_0.out); rintro e w' ⟨rfl, ⟨nd, rfl⟩⟩; refine ⟨_, rfl, ?_⟩))
                (try simp only [Act.put, List.setIfInBounds_toArray, List.set_cons_zero, List.set_cons_succ])
                go_cut [69] (fun v69 wc => ∃ (kq : Nat) (x69_14 : Bool), v69 = .bool x69_14 ∧ Aside0 (coppicelaw9_CutBranchesAlways.j2 kq l0 l1 t368 x7_2 x8_2 x9_2 x69_14 = some r) ∧ Aside0 (kq ≤ k2) ∧ Aside0 (Kd.V (Kd.slice 5 (Kd.int .u8)) 32 wc w.heap.size (fun k_ => ((P0_ k_ ∨ P1_ k_) ∨ w.heap.size ≤ k_) ∧ some k_ ≠ (u7 : Value).ownBlock) (.slice (some ad371) l0.length c0) l0) ∧ Aside0 (Kd.V (Kd.int .u8) 5 wc w.heap.size (fun k_ => ((P0_ k_ ∨ P1_ k_) ∨ w.heap.size ≤ k_) ∧ some k_ ≠ (u7 : Value).ownBlock) (.slice A1 l1.length c1) l1) ∧ Aside0 (Kd.N (Kd.slice 5 (Kd.int .u8)) 32 wc w.heap.size (fun k_ => ((P0_ k_ ∨ P1_ k_) ∨ w.heap.size ≤ k_)) u7 x7_2) ∧ Aside0 (Kd.C (Kd.int .u8) wc A371_0 (rd_L1 l0 x9_2).length (rd_L1 l0 x9_2)) ∧ Aside0 (Below w.heap.size w wc))
                case first =>
                  have H := HC15.out
                  clear HC15
                  by_cases c16 : t372 = true
                  · subst c16
                    have H1 : (if x9_2 > 0 then (if 0 ≤ (wrap64 (x9_2 - 1)) then (if (wrap64 (x9_2 - 1)) < (l0.length : Int) then ((coppiceref3_Compare.f k2 (rd_L1 l0 (wrap64 (x9_2 - 1))) (rd_L1 l0 x9_2)).bind fun t375 => (if t375 ≥ 0 then (coppicelaw9_CutBranchesAlways.j2 k2 l0 l1 t368 x7_2 x8_2 x9_2 true) else ((coppiceref3_Compare.f k2 (rd_L1 l0 x9_2) l1).bind fun t377 => (coppicelaw9_CutBranchesAlways.j2 k2 l0 l1 t368 x7_2 x8_2 x9_2 (t377 == 0))))) else (none)) else (none)) else ((coppiceref3_Compare.f k2 (rd_L1 l0 x9_2) l1).bind fun t379 => (coppicelaw9_CutBranchesAlways.j2 k2 l0 l1 t368 x7_2 x8_2 x9_2 (t379 == 0)))) = some r := by rw [if_pos rfl] at H; exact H
                    clear H
                    have H := H1
                    clear H1
                    by_cases c17 : x9_2 > 0
                    · rw [if_pos c17] at H
                      have c17b0 : decide (0 < x9_2) = true := decide_eq_true c17
                      clear c17
                      (first | rw [c17b0] | (simp only [i64_w, i32_w]; rw [c17b0]) | skip)
                      obtain ⟨ji18, hji18⟩ : ∃ j_ : Int, (wrap64 (x9_2 - 1)) = j_ := ⟨_, rfl⟩
                      replace H : (if 0 ≤ (ji18) then (if (ji18) < (l0.length : Int) then ((coppiceref3_Compare.f k2 (rd_L1 l0 (ji18)) (rd_L1 l0 x9_2)).bind fun t375 => (if t375 ≥ 0 then (coppicelaw9_CutBranchesAlways.j2 k2 l0 l1 t368 x7_2 x8_2 x9_2 true) else ((coppiceref3_Compare.f k2 (rd_L1 l0 x9_2) l1).bind fun t377 => (coppicelaw9_CutBranchesAlways.j2 k2 l0 l1 t368 x7_2 x8_2 x9_2 (t377 == 0))))) else (none)) else (none)) = some r := by first | (rw [hji18] at H; exact H) | (simp only [hji18] at H ⊢; exact H)
                      have hji18w : (IntKind.i64.wrap (x9_2 - 1)) = ji18 := (i64_w _).trans hji18
                      by_cases c19 : 0 ≤ (ji18)
                      · rw [if_pos c19] at H
                        have c19b0 : decide (0 ≤ (ji18)) = true := decide_eq_true c19
                        clear c19
                        by_cases c20 : (ji18) < (l0.length : Int)
                        · rw [if_pos c20] at H
                          have c20b0 : decide ((ji18) < (l0.length : Int)) = true := decide_eq_true c20
                          clear c20
                          replace H := Option.bind_eq_some_iff.mp H
                          obtain ⟨t375, A210, H⟩ := H
                          replace H : (if t375 ≥ 0 then (coppicelaw9_CutBranchesAlways.j2 k2 l0 l1 t368 x7_2 x8_2 x9_2 true) else ((coppiceref3_Compare.f k2 (rd_L1 l0 x9_2) l1).bind fun t377 => (coppicelaw9_CutBranchesAlways.j2 k2 l0 l1 t368 x7_2 x8_2 x9_2 (t377 == 0)))) = some r := H
                          have A21 := Aside0.mk A210
                          clear A210
                          by_cases c22 : t375 ≥ 0
                          · rw [if_pos c22] at H
                            have c22b0 : decide (0 ≤ t375) = true := decide_eq_true c22
                            clear c22
                            have H' := Aside0.mk H
                            clear H
                            try go_wp2
                            replace HO_0 := Aside0.mk (Kd.V_drewN HO_0.out nd)
                            replace HO_1 := Aside0.mk (Kd.V_drewN HO_1.out nd)
                            replace HO_7 := Aside0.mk (Kd.N_drewN HO_7.out nd)
                            replace HL371_0 := Aside0.mk (Kd.V_drewN HL371_0.out nd)
                            replace HR371_0 := Aside0.mk (Kd.C_drewN HR371_0.out nd)
                            replace HB := Aside0.mk (pw_below_drewN HB.out nd)
                            generalize wr.drewN nd = wr0_ at HO_0 HO_1 HO_7 HL371_0 HR371_0 HB ⊢
                            have n0_ := Aside0.mk (Kd.V_drew HO_0.out)
                            have n1_ := Aside0.mk (Kd.V_drew HO_1.out)
                            have n2_ := Aside0.mk (Kd.N_drew HO_7.out)
                            have n3_ := Aside0.mk (Kd.V_drew HL371_0.out)
                            have n4_ := Aside0.mk (Kd.C_drew HR371_0.out)
                            have n5_ := Aside0.mk (below_drew1 HB.out)
                            clear HO_0
                            clear HO_1
                            clear HO_7
                            clear HL371_0
                            clear HR371_0
                            clear HB
                            have HO_0 := n0_
                            have HO_1 := n1_
                            have HO_7 := n2_
                            have HL371_0 := n3_
                            have HR371_0 := n4_
                            have HB := n5_
                            clear n0_ n1_ n2_ n3_ n4_ n5_
                            have p373 : 0 ≤ ((ji18) : Int) := of_decide_eq_true (by first | (with_reducible assumption) | assumption)
                            have q373 : (ji18) < (l0.length : Int) := of_decide_eq_true (by first | (with_reducible assumption) | assumption)
                            obtain ⟨ad373, A373_0, c373_0, e373, hx373_0, hl373_0, hi373_0⟩ := at_L1 (Kd.V_reads' HO_0.out).2.2 (ji18) p373 q373
                            obtain rfl : ad371 = ad373 := (by injection e373)
                            obtain ⟨ce373, hce373, hMe373, hcc373⟩ := Kd.V_get HO_0.out [] (ji18) p373 (by first | exact q373 | exact of_decide_eq_true (by first | (with_reducible assumption) | assumption) | (have e_ := (Kd.V_reads' HO_0.out).1; omega))
                            obtain ⟨ua373_0, uc373_0, rfl, ul373_0, ge373_0⟩ := Kd.FK_slice_open hMe373
                            have hv373_0 := hcc373 0 _ rfl
                            rw [Nat.add_zero, show ((Kd.slice 5 (Kd.int .u8))).sz = 1 from rfl, Nat.mul_one] at hv373_0
                            replace hv373_0 := Option.some.inj (hv373_0.symm.trans hx373_0)
                            injection hv373_0 with hva_ hvn_ hvc_
                            rw [hva_] at ge373_0
                            rw [hvc_] at ul373_0
                            have HL373_0 := Aside0.mk (show Kd.V (Kd.int .u8) 5 _ w.heap.size _ _ (rd_L1 l0 (ji18)) from Kd.V_mk ul373_0 ge373_0)
                            clear hva_ hvn_ hvc_ ge373_0 ul373_0
                            clear hcc373 hce373
                            have HR373_0 := Aside0.mk hi373_0
                            have HC373_0 := Aside0.mk hl373_0
                            clear hi373_0 hl373_0
                            replace p373 := eq_true p373
                            replace q373 := eq_true q373
                            have p374 : 0 ≤ (x9_2 : Int) := of_decide_eq_true (by first | (with_reducible assumption) | assumption)
                            have q374 : x9_2 < (l0.length : Int) := of_decide_eq_true (by first | (with_reducible assumption) | assumption)
                            obtain ⟨ad374, A374_0, c374_0, e374, hx374_0, hl374_0, hi374_0⟩ := at_L1 (Kd.V_reads' HO_0.out).2.2 x9_2 p374 q374
                            obtain rfl : ad371 = ad374 := (by injection e374)
                            obtain ⟨ce374, hce374, hMe374, hcc374⟩ := Kd.V_get HO_0.out [] x9_2 p374 (by first | exact q374 | exact of_decide_eq_true (by first | (with_reducible assumption) | assumption) | (have e_ := (Kd.V_reads' HO_0.out).1; omega))
                            obtain ⟨ua374_0, uc374_0, rfl, ul374_0, ge374_0⟩ := Kd.FK_slice_open hMe374
                            have hv374_0 := hcc374 0 _ rfl
                            rw [Nat.add_zero, show ((Kd.slice 5 (Kd.int .u8))).sz = 1 from rfl, Nat.mul_one] at hv374_0
                            replace hv374_0 := Option.some.inj (hv374_0.symm.trans hx374_0)
                            injection hv374_0 with hva_ hvn_ hvc_
                            rw [hva_] at ge374_0
                            rw [hvc_] at ul374_0
                            have HL374_0 := Aside0.mk (show Kd.V (Kd.int .u8) 5 _ w.heap.size _ _ (rd_L1 l0 x9_2) from Kd.V_mk ul374_0 ge374_0)
                            clear hva_ hvn_ hvc_ ge374_0 ul374_0
                            clear hcc374 hce374
                            have HR374_0 := Aside0.mk hi374_0
                            have HC374_0 := Aside0.mk hl374_0
                            clear hi374_0 hl374_0
                            replace p374 := eq_true p374
                            replace q374 := eq_true q374
                            refine start_ (n := 28) (S := fun w' => w'.cell? (ad371.add ((ji18)).toNat) = some (.slice A373_0 (rd_L1 l0 (ji18)).length c373_0) ∧ w'.cell? (ad371.add (x9_2).toNat) = some (.slice A374_0 (rd_L1 l0 x9_2).length c374_0)) (ds := []) #[false, false, false, false, false, false, false, false, false, false, false, false, false, false, false, false, false, false, false, false, false, false, false, false, false, false, false, false] (by kernel_rfl) rfl rfl ⟨hx373_0, hx374_0⟩ (fun hHeld => ?_); refine with_tabW coppicelaw9_CutBranchesAlways.tab11 coppicelaw9_CutBranchesAlways.bits11 (fun HT_ HW_ => ?_)
                            generalize wr0_.drew = w23 at HO_0 HO_1 HO_7 HL371_0 HR371_0 HB HL373_0 HL374_0 HR373_0 HR374_0 hx373_0 hx374_0 hHeld ⊢
                            refine pure_ (i := 0) (N := some 42) (v := ?_) (a' := ?_) #[true, false, false, false, false, false, false, false, false, false, false, false, false, false, false, false, false, false, false, false, false, false, false, false, false, false, false, false] rfl rfl (any_of HT_.out (by kernel_rfl)) (fun _ _ _ h => h) (Or.inl ⟨by rfl, ?_⟩) ?_ ?_
                            rotate_left
                            · intro w'
                              go_simp
                              with_reducible rfl
                            rotate_left
                            · simp only [Act.put, List.setIfInBounds_toArray, List.set_cons_zero, List.set_cons_succ, i64_w, i32_w]
                              rfl
                            refine pure_ (i := 1) (N := some 43) (v := ?_) (a' := ?_) #[true, true, false, false, false, false, false, false, false, false, false, false, false, false, false, false, false, false, false, false, false, false, false, false, false, false, false, false] rfl rfl (any_of HT_.out (by kernel_rfl)) (fun _ _ _ h => h) (Or.inl ⟨by rfl, ?_⟩) ?_ ?_
                            rotate_left
                            · intro w'
                              go_simp
                              with_reducible rfl
                            rotate_left
                            · simp only [Act.put, List.setIfInBounds_toArray, List.set_cons_zero, List.set_cons_succ, i64_w, i32_w]
                              rfl
                            refine pure_ (i := 2) (N := some 44) (v := ?_) (a' := ?_) #[true, true, true, false, false, false, false, false, false, false, false, false, false, false, false, false, false, false, false, false, false, false, false, false, false, false, false, false] rfl rfl (any_of HT_.out (by kernel_rfl)) (fun _ _ _ h => h) (Or.inl ⟨by rfl, ?_⟩) ?_ ?_
                            rotate_left
                            · intro w'
                              go_simp
                              with_reducible rfl
                            rotate_left
                            · simp only [Act.put, List.setIfInBounds_toArray, List.set_cons_zero, List.set_cons_succ, i64_w, i32_w]
                              rfl
                            refine pure_ (i := 3) (N := some 45) (v := ?_) (a' := ?_) #[true, true, true, true, false, false, false, false, false, false, false, false, false, false, false, false, false, false, false, false, false, false, false, false, false, false, false, false] rfl rfl (any_of HT_.out (by kernel_rfl)) (fun _ _ _ h => h) (Or.inl ⟨by rfl, ?_⟩) ?_ ?_
                            rotate_left
                            · intro w'
                              go_simp
                              with_reducible rfl
                            rotate_left
                            · simp only [Act.put, List.setIfInBounds_toArray, List.set_cons_zero, List.set_cons_succ, i64_w, i32_w]
                              rfl
                            refine pure_ (i := 4) (N := some 46) (v := ?_) (a' := ?_) #[true, true, true, true, true, false, false, false, false, false, false, false, false, false, false, false, false, false, false, false, false, false, false, false, false, false, false, false] rfl rfl (any_of HT_.out (by kernel_rfl)) (fun _ _ _ h => h) (Or.inl ⟨by rfl, ?_⟩) ?_ ?_
                            rotate_left
                            · intro w'
                              go_simp
                              with_reducible rfl
                            rotate_left
                            · simp only [Act.put, List.setIfInBounds_toArray, List.set_cons_zero, List.set_cons_succ, i64_w, i32_w]
                              rfl
                            refine pure_ (i := 5) (N := some 47) (v := ?_) (a' := ?_) #[true, true, true, true, true, true, false, false, false, false, false, false, false, false, false, false, false, false, false, false, false, false, false, false, false, false, false, false] rfl rfl (any_of HT_.out (by kernel_rfl)) (fun _ _ _ h => h) (Or.inl ⟨by rfl, ?_⟩) ?_ ?_
                            rotate_left
                            · intro w'
                              go_simp
                              with_reducible rfl
                            rotate_left
                            · simp only [Act.put, List.setIfInBounds_toArray, List.set_cons_zero, List.set_cons_succ, i64_w, i32_w]
                              rfl
                            refine pure_ (i := 6) (N := some 48) (v := ?_) (a' := ?_) #[true, true, true, true, true, true, true, false, false, false, false, false, false, false, false, false, false, false, false, false, false, false, false, false, false, false, false, false] rfl rfl (any_of HT_.out (by kernel_rfl)) (fun _ _ _ h => h) (Or.inl ⟨by rfl, ?_⟩) ?_ ?_
                            rotate_left
                            · intro w'
                              go_simp
                              with_reducible rfl
                            rotate_left
                            · simp only [Act.put, List.setIfInBounds_toArray, List.set_cons_zero, List.set_cons_succ, i64_w, i32_w]
                              rfl
                            refine pure_ (i := 7) (N := some 49) (v := ?_) (a' := ?_) #[true, true, true, true, true, true, true, true, false, false, false, false, false, false, false, false, false, false, false, false, false, false, false, false, false, false, false, false] rfl rfl (any_of HT_.out (by kernel_rfl)) (fun _ _ _ h => h) (Or.inl ⟨by rfl, ?_⟩) ?_ ?_
                            rotate_left
                            · intro w'
                              go_simp
                              with_reducible rfl
                            rotate_left
                            · simp only [Act.put, List.setIfInBounds_toArray, List.set_cons_zero, List.set_cons_succ, i64_w, i32_w]
                              rfl
                            refine pure_ (i := 8) (N := some 50) (v := ?_) (a' := ?_) #[true, true, true, true, true, true, true, true, true, false, false, false, false, false, false, false, false, false, false, false, false, false, false, false, false, false, false, false] rfl rfl (any_of HT_.out (by kernel_rfl)) (fun _ _ _ h => h) (Or.inl ⟨by rfl, ?_⟩) ?_ ?_
                            rotate_left
                            · intro w'
                              go_simp
                              with_reducible rfl
                            rotate_left
                            · simp only [Act.put, List.setIfInBounds_toArray, List.set_cons_zero, List.set_cons_succ, i64_w, i32_w]
                              rfl
                            refine pure_ (i := 9) (N := some 51) (v := ?_) (a' := ?_) #[true, true, true, true, true, true, true, true, true, true, false, false, false, false, false, false, false, false, false, false, false, false, false, false, false, false, false, false] rfl rfl (any_of HT_.out (by kernel_rfl)) (fun _ _ _ h => h) (Or.inl ⟨by rfl, ?_⟩) ?_ ?_
                            rotate_left
                            · intro w'
                              go_simp
                              with_reducible rfl
                            rotate_left
                            · simp only [Act.put, List.setIfInBounds_toArray, List.set_cons_zero, List.set_cons_succ, i64_w, i32_w]
                              rfl
                            refine pure_ (i := 11) (N := some 53) (v := ?_) (a' := ?_) #[true, true, true, true, true, true, true, true, true, true, false, true, false, false, false, false, false, false, false, false, false, false, false, false, false, false, false, false] rfl rfl (any_of HT_.out (by kernel_rfl)) (fun _ _ _ h => h) (Or.inl ⟨by rfl, ?_⟩) ?_ ?_
                            rotate_left
                            · intro w'
                              go_simp
                              with_reducible rfl
                            rotate_left
                            · simp only [Act.put, List.setIfInBounds_toArray, List.set_cons_zero, List.set_cons_succ, i64_w, i32_w]
                              rfl
                            refine pure_ (i := 12) (N := some 54) (v := ?_) (a' := ?_) #[true, true, true, true, true, true, true, true, true, true, false, true, true, false, false, false, false, false, false, false, false, false, false, false, false, false, false, false] rfl rfl (any_of HT_.out (by kernel_rfl)) (fun _ _ _ h => h) (Or.inl ⟨by rfl, ?_⟩) ?_ ?_
                            rotate_left
                            · intro w'
                              go_simp
                              with_reducible rfl
                            rotate_left
                            · simp only [Act.put, List.setIfInBounds_toArray, List.set_cons_zero, List.set_cons_succ, i64_w, i32_w]
                              rfl
                            refine pure_ (i := 13) (N := some 55) (v := ?_) (a' := ?_) #[true, true, true, true, true, true, true, true, true, true, false, true, true, true, false, false, false, false, false, false, false, false, false, false, false, false, false, false] rfl rfl (any_of HT_.out (by kernel_rfl)) (fun _ _ _ h => h) (Or.inl ⟨by rfl, ?_⟩) ?_ ?_
                            rotate_left
                            · intro w'
                              go_simp
                              with_reducible rfl
                            rotate_left
                            · simp only [Act.put, List.setIfInBounds_toArray, List.set_cons_zero, List.set_cons_succ, i64_w, i32_w]
                              rfl
                            refine take_ (i := 10) (N := some 52) (v := ?_) (a' := ?_) #[true, true, true, true, true, true, true, true, true, true, true, true, true, true, false, false, false, false, false, false, false, false, false, false, false, false, false, false] rfl rfl (take_ofW HT_.out HW_.out (by kernel_rfl)) (fun _ _ _ h => h) (Or.inl ⟨by rfl, ?_⟩) hHeld ?_ ?_
                            rotate_left
                            · rintro w' ⟨s0, s1⟩
                              go_simp
                              with_reducible rfl
                            rotate_left
                            · simp only [Act.put, List.setIfInBounds_toArray, List.set_cons_zero, List.set_cons_succ, i64_w, i32_w]
                              rfl
                            refine take_ (i := 14) (N := some 56) (v := ?_) (a' := ?_) #[true, true, true, true, true, true, true, true, true, true, true, true, true, true, true, false, false, false, false, false, false, false, false, false, false, false, false, false] rfl rfl (take_ofW HT_.out HW_.out (by kernel_rfl)) (fun _ _ _ h => h) (Or.inl ⟨by rfl, ?_⟩) hHeld ?_ ?_
                            rotate_left
                            · rintro w' ⟨s0, s1⟩
                              go_simp
                              with_reducible rfl
                            rotate_left
                            · simp only [Act.put, List.setIfInBounds_toArray, List.set_cons_zero, List.set_cons_succ, i64_w, i32_w]
                              rfl
                            refine one_ (i := 15) (N := some 57) #[true, true, true, true, true, true, true, true, true, true, true, true, true, true, true, true, false, false, false, false, false, false, false, false, false, false, false, false] rfl rfl (one_of HT_.out (by kernel_rfl)) (by decide) (fun K hK => ?_)
                            refine goes_ Try.func31 (by kernel_rfl) rfl #[.slice A373_0 (rd_L1 l0 (ji18)).length c373_0, .slice A374_0 (rd_L1 l0 x9_2).length c374_0] (by rfl) rfl rfl (by (try simp only [List.map_toArray, List.map_cons, List.map_nil]); first | done | (simp only [hji18]; rfl) | rfl | (simp only [List.length_drop, List.length_take]; rfl)) ?_
                            with_reducible refine (coppiceref3_Compare.calls k2 _ _ (rd_L1 l0 (ji18)) _ _ (rd_L1 l0 x9_2) t375 _ ?side1 ?side2 ?side3 ?side4 A21.out).mono ?_
                            (case side1 => repeat (first | exact (by repeat (first | (with_reducible exact HR373_0.out) | (with_reducible refine Kd.C_alloc ?_ _) | (with_reducible refine Kd.C_drewN ?_ _) | (with_reducible refine Kd.C_drew ?_) | exact HR373_0.out)) | (with_reducible refine Kd.C_alloc ?_ _) | (with_reducible refine Kd.C_drewN ?_ _) | (with_reducible refine Kd.C_drew ?_)))
                            (case side2 => exact HC373_0.out)
                            (case side3 => repeat (first | exact (by repeat (first | (with_reducible exact HR374_0.out) | (with_reducible refine Kd.C_alloc ?_ _) | (with_reducible refine Kd.C_drewN ?_ _) | (with_reducible refine Kd.C_drew ?_) | exact HR374_0.out)) | (with_reducible refine Kd.C_alloc ?_ _) | (with_reducible refine Kd.C_drewN ?_ _) | (with_reducible refine Kd.C_drew ?_)))
                            (case side4 => exact HC374_0.out)
                            rintro e w' ⟨rfl, ⟨nd, rfl⟩⟩
                            refine ⟨_, rfl, ?_⟩
                            refine hK.out _ _ ⟨hHeld.1, hHeld.2⟩ (fun hHeld => ?_)
                            clear hK K
                            refine norm_ (a' := ?_) ?_ ?_
                            rotate_left
                            · show Act.put _ (some 57) _ = _
                              simp only [Act.put, List.setIfInBounds_toArray, List.set_cons_zero, List.set_cons_succ, i64_w, i32_w]
                              rfl
                            refine pure_ (i := 16) (N := some 58) (v := ?_) (a' := ?_) #[true, true, true, true, true, true, true, true, true, true, true, true, true, true, true, true, true, false, false, false, false, false, false, false, false, false, false, false] rfl rfl (any_of HT_.out (by kernel_rfl)) (fun _ _ _ h => h) (Or.inl ⟨by rfl, ?_⟩) ?_ ?_
                            rotate_left
                            · intro w'
                              go_simp
                              with_reducible rfl
                            rotate_left
                            · simp only [Act.put, List.setIfInBounds_toArray, List.set_cons_zero, List.set_cons_succ, i64_w, i32_w]
                              rfl
                            refine pure_ (i := 17) (N := some 59) (v := ?_) (a' := ?_) #[true, true, true, true, true, true, true, true, true, true, true, true, true, true, true, true, true, true, false, false, false, false, false, false, false, false, false, false] rfl rfl (any_of HT_.out (by kernel_rfl)) (fun _ _ _ h => h) (Or.inl ⟨by rfl, ?_⟩) ?_ ?_
                            rotate_left
                            · intro w'
                              go_simp
                              with_reducible rfl
                            rotate_left
                            · simp only [Act.put, List.setIfInBounds_toArray, List.set_cons_zero, List.set_cons_succ, i64_w, i32_w]
                              rfl
                            refine pure_ (i := 18) (N := some 60) (v := ?_) (a' := ?_) #[true, true, true, true, true, true, true, true, true, true, true, true, true, true, true, true, true, true, true, false, false, false, false, false, false, false, false, false] rfl rfl (any_of HT_.out (by kernel_rfl)) (fun _ _ _ h => h) (Or.inl ⟨by rfl, ?_⟩) ?_ ?_
                            rotate_left
                            · intro w'
                              go_simp
                              with_reducible rfl
                            rotate_left
                            · simp only [Act.put, List.setIfInBounds_toArray, List.set_cons_zero, List.set_cons_succ, i64_w, i32_w]
                              rfl
                            refine pure_ (i := 19) (N := some 61) (v := ?_) (a' := ?_) #[true, true, true, true, true, true, true, true, true, true, true, true, true, true, true, true, true, true, true, true, false, false, false, false, false, false, false, false] rfl rfl (any_of HT_.out (by kernel_rfl)) (fun _ _ _ h => h) (Or.inl ⟨by rfl, ?_⟩) ?_ ?_
                            rotate_left
                            · intro w'
                              go_simp
                              with_reducible rfl
                            rotate_left
                            · simp only [Act.put, List.setIfInBounds_toArray, List.set_cons_zero, List.set_cons_succ, i64_w, i32_w]
                              rfl
                            refine pure_ (i := 20) (N := some 62) (v := undef) (a' := ?_) #[true, true, true, true, true, true, true, true, true, true, true, true, true, true, true, true, true, true, true, true, true, false, false, false, false, false, false, false] rfl rfl (any_of HT_.out (by kernel_rfl)) (fun _ _ _ h => h) (Or.inr ⟨by rfl, rfl⟩) ?_ ?_
                            rotate_left
                            · simp only [Act.put, List.setIfInBounds_toArray, List.set_cons_zero, List.set_cons_succ, i64_w, i32_w]
                              rfl
                            refine pure_ (i := 21) (N := some 63) (v := undef) (a' := ?_) #[true, true, true, true, true, true, true, true, true, true, true, true, true, true, true, true, true, true, true, true, true, true, false, false, false, false, false, false] rfl rfl (any_of HT_.out (by kernel_rfl)) (fun _ _ _ h => h) (Or.inr ⟨by rfl, rfl⟩) ?_ ?_
                            rotate_left
                            · simp only [Act.put, List.setIfInBounds_toArray, List.set_cons_zero, List.set_cons_succ, i64_w, i32_w]
                              rfl
                            refine pure_ (i := 22) (N := some 64) (v := undef) (a' := ?_) #[true, true, true, true, true, true, true, true, true, true, true, true, true, true, true, true, true, true, true, true, true, true, true, false, false, false, false, false] rfl rfl (any_of HT_.out (by kernel_rfl)) (fun _ _ _ h => h) (Or.inr ⟨by rfl, rfl⟩) ?_ ?_
                            rotate_left
                            · simp only [Act.put, List.setIfInBounds_toArray, List.set_cons_zero, List.set_cons_succ, i64_w, i32_w]
                              rfl
                            refine pure_ (i := 23) (N := some 65) (v := undef) (a' := ?_) #[true, true, true, true, true, true, true, true, true, true, true, true, true, true, true, true, true, true, true, true, true, true, true, true, false, false, false, false] rfl rfl (any_of HT_.out (by kernel_rfl)) (fun _ _ _ h => h) (Or.inr ⟨by rfl, rfl⟩) ?_ ?_
                            rotate_left
                            · simp only [Act.put, List.setIfInBounds_toArray, List.set_cons_zero, List.set_cons_succ, i64_w, i32_w]
                              rfl
                            refine pure_ (i := 24) (N := some 66) (v := undef) (a' := ?_) #[true, true, true, true, true, true, true, true, true, true, true, true, true, true, true, true, true, true, true, true, true, true, true, true, true, false, false, false] rfl rfl (any_of HT_.out (by kernel_rfl)) (fun _ _ _ h => h) (Or.inr ⟨by rfl, rfl⟩) ?_ ?_
                            rotate_left
                            · simp only [Act.put, List.setIfInBounds_toArray, List.set_cons_zero, List.set_cons_succ, i64_w, i32_w]
                              rfl
                            refine pure_ (i := 25) (N := some 67) (v := undef) (a' := ?_) #[true, true, true, true, true, true, true, true, true, true, true, true, true, true, true, true, true, true, true, true, true, true, true, true, true, true, false, false] rfl rfl (any_of HT_.out (by kernel_rfl)) (fun _ _ _ h => h) (Or.inr ⟨by rfl, rfl⟩) ?_ ?_
                            rotate_left
                            · simp only [Act.put, List.setIfInBounds_toArray, List.set_cons_zero, List.set_cons_succ, i64_w, i32_w]
                              rfl
                            refine pure_ (i := 26) (N := some 68) (v := undef) (a' := ?_) #[true, true, true, true, true, true, true, true, true, true, true, true, true, true, true, true, true, true, true, true, true, true, true, true, true, true, true, false] rfl rfl (any_of HT_.out (by kernel_rfl)) (fun _ _ _ h => h) (Or.inr ⟨by rfl, rfl⟩) ?_ ?_
                            rotate_left
                            · simp only [Act.put, List.setIfInBounds_toArray, List.set_cons_zero, List.set_cons_succ, i64_w, i32_w]
                              rfl
                            refine pure_ (i := 27) (N := some 69) (v := ?_) (a' := ?_) #[true, true, true, true, true, true, true, true, true, true, true, true, true, true, true, true, true, true, true, true, true, true, true, true, true, true, true, true] rfl rfl (any_of HT_.out (by kernel_rfl)) (fun _ _ _ h => h) (Or.inl ⟨by rfl, ?_⟩) ?_ ?_
                            rotate_left
                            · intro w'
                              go_simp
                              with_reducible rfl
                            rotate_left
                            · simp only [Act.put, List.setIfInBounds_toArray, List.set_cons_zero, List.set_cons_succ, i64_w, i32_w]
                              rfl
                            refine done_ (done_of HT_.out (by kernel_rfl)) ?_
                            try go_wp2
                            go_meet
                            case rel => exact ⟨_, (true), (by first | rfl | (simp; done) | (simp [*]; done)), H', ⟨by have := HJ4.out; have := HK2.out; first | omega | exact Nat.le_refl _⟩, ⟨by (with_reducible repeat (first | apply Kd.V_alloc | apply Kd.V_drewN | apply Kd.V_drew)); exact HO_0.out⟩, ⟨by (with_reducible repeat (first | apply Kd.V_alloc | apply Kd.V_drewN | apply Kd.V_drew)); exact HO_1.out⟩, ⟨by (with_reducible repeat (first | apply Kd.N_alloc | apply Kd.N_drewN | apply Kd.N_drew)); exact HO_7.out⟩, ⟨by repeat (first | (with_reducible exact HR371_0.out) | (with_reducible refine Kd.C_alloc ?_ _) | (with_reducible refine Kd.C_drewN ?_ _) | (with_reducible refine Kd.C_drew ?_) | exact HR371_0.out)⟩, ⟨by repeat (first | (with_reducible first | exact HB.out | apply below_alloc | apply pw_below_drewN | apply below_drew1) | exact HB.out)⟩⟩
                          · rw [if_neg c22] at H
                            have c22b0 : decide (0 ≤ t375) = false := decide_eq_false c22
                            clear c22
                            replace H := Option.bind_eq_some_iff.mp H
                            obtain ⟨t377, A240, H⟩ := H
                            replace H : (coppicelaw9_CutBranchesAlways.j2 k2 l0 l1 t368 x7_2 x8_2 x9_2 (t377 == 0)) = some r := H
                            have A24 := Aside0.mk A240
                            clear A240
                            have H' := Aside0.mk H
                            clear H
                            try go_wp2
                            replace HO_0 := Aside0.mk (Kd.V_drewN HO_0.out nd)
                            replace HO_1 := Aside0.mk (Kd.V_drewN HO_1.out nd)
                            replace HO_7 := Aside0.mk (Kd.N_drewN HO_7.out nd)
                            replace HL371_0 := Aside0.mk (Kd.V_drewN HL371_0.out nd)
                            replace HR371_0 := Aside0.mk (Kd.C_drewN HR371_0.out nd)
                            replace HB := Aside0.mk (pw_below_drewN HB.out nd)
                            generalize wr.drewN nd = wr0_ at HO_0 HO_1 HO_7 HL371_0 HR371_0 HB ⊢
                            have n0_ := Aside0.mk (Kd.V_drew HO_0.out)
                            have n1_ := Aside0.mk (Kd.V_drew HO_1.out)
                            have n2_ := Aside0.mk (Kd.N_drew HO_7.out)
                            have n3_ := Aside0.mk (Kd.V_drew HL371_0.out)
                            have n4_ := Aside0.mk (Kd.C_drew HR371_0.out)
                            have n5_ := Aside0.mk (below_drew1 HB.out)
                            clear HO_0
                            clear HO_1
                            clear HO_7
                            clear HL371_0
                            clear HR371_0
                            clear HB
                            have HO_0 := n0_
                            have HO_1 := n1_
                            have HO_7 := n2_
                            have HL371_0 := n3_
                            have HR371_0 := n4_
                            have HB := n5_
                            clear n0_ n1_ n2_ n3_ n4_ n5_
                            have p373 : 0 ≤ ((ji18) : Int) := of_decide_eq_true (by first | (with_reducible assumption) | assumption)
                            have q373 : (ji18) < (l0.length : Int) := of_decide_eq_true (by first | (with_reducible assumption) | assumption)
                            obtain ⟨ad373, A373_0, c373_0, e373, hx373_0, hl373_0, hi373_0⟩ := at_L1 (Kd.V_reads' HO_0.out).2.2 (ji18) p373 q373
                            obtain rfl : ad371 = ad373 := (by injection e373)
                            obtain ⟨ce373, hce373, hMe373, hcc373⟩ := Kd.V_get HO_0.out [] (ji18) p373 (by first | exact q373 | exact of_decide_eq_true (by first | (with_reducible assumption) | assumption) | (have e_ := (Kd.V_reads' HO_0.out).1; omega))
                            obtain ⟨ua373_0, uc373_0, rfl, ul373_0, ge373_0⟩ := Kd.FK_slice_open hMe373
                            have hv373_0 := hcc373 0 _ rfl
                            rw [Nat.add_zero, show ((Kd.slice 5 (Kd.int .u8))).sz = 1 from rfl, Nat.mul_one] at hv373_0
                            replace hv373_0 := Option.some.inj (hv373_0.symm.trans hx373_0)
                            injection hv373_0 with hva_ hvn_ hvc_
                            rw [hva_] at ge373_0
                            rw [hvc_] at ul373_0
                            have HL373_0 := Aside0.mk (show Kd.V (Kd.int .u8) 5 _ w.heap.size _ _ (rd_L1 l0 (ji18)) from Kd.V_mk ul373_0 ge373_0)
                            clear hva_ hvn_ hvc_ ge373_0 ul373_0
                            clear hcc373 hce373
                            have HR373_0 := Aside0.mk hi373_0
                            have HC373_0 := Aside0.mk hl373_0
                            clear hi373_0 hl373_0
                            replace p373 := eq_true p373
                            replace q373 := eq_true q373
                            have p374 : 0 ≤ (x9_2 : Int) := of_decide_eq_true (by first | (with_reducible assumption) | assumption)
                            have q374 : x9_2 < (l0.length : Int) := of_decide_eq_true (by first | (with_reducible assumption) | assumption)
                            obtain ⟨ad374, A374_0, c374_0, e374, hx374_0, hl374_0, hi374_0⟩ := at_L1 (Kd.V_reads' HO_0.out).2.2 x9_2 p374 q374
                            obtain rfl : ad371 = ad374 := (by injection e374)
                            obtain ⟨ce374, hce374, hMe374, hcc374⟩ := Kd.V_get HO_0.out [] x9_2 p374 (by first | exact q374 | exact of_decide_eq_true (by first | (with_reducible assumption) | assumption) | (have e_ := (Kd.V_reads' HO_0.out).1; omega))
                            obtain ⟨ua374_0, uc374_0, rfl, ul374_0, ge374_0⟩ := Kd.FK_slice_open hMe374
                            have hv374_0 := hcc374 0 _ rfl
                            rw [Nat.add_zero, show ((Kd.slice 5 (Kd.int .u8))).sz = 1 from rfl, Nat.mul_one] at hv374_0
                            replace hv374_0 := Option.some.inj (hv374_0.symm.trans hx374_0)
                            injection hv374_0 with hva_ hvn_ hvc_
                            rw [hva_] at ge374_0
                            rw [hvc_] at ul374_0
                            have HL374_0 := Aside0.mk (show Kd.V (Kd.int .u8) 5 _ w.heap.size _ _ (rd_L1 l0 x9_2) from Kd.V_mk ul374_0 ge374_0)
                            clear hva_ hvn_ hvc_ ge374_0 ul374_0
                            clear hcc374 hce374
                            have HR374_0 := Aside0.mk hi374_0
                            have HC374_0 := Aside0.mk hl374_0
                            clear hi374_0 hl374_0
                            replace p374 := eq_true p374
                            replace q374 := eq_true q374
                            have p376 : 0 ≤ (x9_2 : Int) := of_decide_eq_true (by first | (with_reducible assumption) | assumption)
                            have q376 : x9_2 < (l0.length : Int) := of_decide_eq_true (by first | (with_reducible assumption) | assumption)
                            obtain ⟨ad376, A376_0, c376_0, e376, hx376_0, hl376_0, hi376_0⟩ := at_L1 (Kd.V_reads' HO_0.out).2.2 x9_2 p376 q376
                            obtain rfl : ad371 = ad376 := (by injection e376)
                            obtain ⟨ce376, hce376, hMe376, hcc376⟩ := Kd.V_get HO_0.out [] x9_2 p376 (by first | exact q376 | exact of_decide_eq_true (by first | (with_reducible assumption) | assumption) | (have e_ := (Kd.V_reads' HO_0.out).1; omega))
                            obtain ⟨ua376_0, uc376_0, rfl, ul376_0, ge376_0⟩ := Kd.FK_slice_open hMe376
                            have hv376_0 := hcc376 0 _ rfl
                            rw [Nat.add_zero, show ((Kd.slice 5 (Kd.int .u8))).sz = 1 from rfl, Nat.mul_one] at hv376_0
                            replace hv376_0 := Option.some.inj (hv376_0.symm.trans hx376_0)
                            injection hv376_0 with hva_ hvn_ hvc_
                            rw [hva_] at ge376_0
                            rw [hvc_] at ul376_0
                            have HL376_0 := Aside0.mk (show Kd.V (Kd.int .u8) 5 _ w.heap.size _ _ (rd_L1 l0 x9_2) from Kd.V_mk ul376_0 ge376_0)
                            clear hva_ hvn_ hvc_ ge376_0 ul376_0
                            clear hcc376 hce376
                            have HR376_0 := Aside0.mk hi376_0
                            have HC376_0 := Aside0.mk hl376_0
                            clear hi376_0 hl376_0
                            replace p376 := eq_true p376
                            replace q376 := eq_true q376
                            have ea_ := Option.some.inj (hx374_0.symm.trans hx376_0)
                            injection ea_ with ea_ en_ ec_
                            subst ea_
                            subst ec_
                            clear en_
                            refine start_ (n := 28) (S := fun w' => w'.cell? (ad371.add ((ji18)).toNat) = some (.slice A373_0 (rd_L1 l0 (ji18)).length c373_0) ∧ w'.cell? (ad371.add (x9_2).toNat) = some (.slice A374_0 (rd_L1 l0 x9_2).length c374_0) ∧ w'.cell? (ad371.add (x9_2).toNat) = some (.slice A374_0 (rd_L1 l0 x9_2).length c374_0)) (ds := []) #[false, false, false, false, false, false, false, false, false, false, false, false, false, false, false, false, false, false, false, false, false, false, false, false, false, false, false, false] (by kernel_rfl) rfl rfl ⟨hx373_0, hx374_0, hx376_0⟩ (fun hHeld => ?_); refine with_tabW coppicelaw9_CutBranchesAlways.tab11 coppicelaw9_CutBranchesAlways.bits11 (fun HT_ HW_ => ?_)
                            generalize wr0_.drew = w25 at HO_0 HO_1 HO_7 HL371_0 HR371_0 HB HL373_0 HL374_0 HL376_0 HR373_0 HR374_0 HR376_0 hx373_0 hx374_0 hx376_0 hHeld ⊢
                            refine pure_ (i := 0) (N := some 42) (v := ?_) (a' := ?_) #[true, false, false, false, false, false, false, false, false, false, false, false, false, false, false, false, false, false, false, false, false, false, false, false, false, false, false, false] rfl rfl (any_of HT_.out (by kernel_rfl)) (fun _ _ _ h => h) (Or.inl ⟨by rfl, ?_⟩) ?_ ?_
                            rotate_left
                            · intro w'
                              go_simp
                              with_reducible rfl
                            rotate_left
                            · simp only [Act.put, List.setIfInBounds_toArray, List.set_cons_zero, List.set_cons_succ, i64_w, i32_w]
                              rfl
                            refine pure_ (i := 1) (N := some 43) (v := ?_) (a' := ?_) #[true, true, false, false, false, false, false, false, false, false, false, false, false, false, false, false, false, false, false, false, false, false, false, false, false, false, false, false] rfl rfl (any_of HT_.out (by kernel_rfl)) (fun _ _ _ h => h) (Or.inl ⟨by rfl, ?_⟩) ?_ ?_
                            rotate_left
                            · intro w'
                              go_simp
                              with_reducible rfl
                            rotate_left
                            · simp only [Act.put, List.setIfInBounds_toArray, List.set_cons_zero, List.set_cons_succ, i64_w, i32_w]
                              rfl
                            refine pure_ (i := 2) (N := some 44) (v := ?_) (a' := ?_) #[true, true, true, false, false, false, false, false, false, false, false, false, false, false, false, false, false, false, false, false, false, false, false, false, false, false, false, false] rfl rfl (any_of HT_.out (by kernel_rfl)) (fun _ _ _ h => h) (Or.inl ⟨by rfl, ?_⟩) ?_ ?_
                            rotate_left
                            · intro w'
                              go_simp
                              with_reducible rfl
                            rotate_left
                            · simp only [Act.put, List.setIfInBounds_toArray, List.set_cons_zero, List.set_cons_succ, i64_w, i32_w]
                              rfl
                            refine pure_ (i := 3) (N := some 45) (v := ?_) (a' := ?_) #[true, true, true, true, false, false, false, false, false, false, false, false, false, false, false, false, false, false, false, false, false, false, false, false, false, false, false, false] rfl rfl (any_of HT_.out (by kernel_rfl)) (fun _ _ _ h => h) (Or.inl ⟨by rfl, ?_⟩) ?_ ?_
                            rotate_left
                            · intro w'
                              go_simp
                              with_reducible rfl
                            rotate_left
                            · simp only [Act.put, List.setIfInBounds_toArray, List.set_cons_zero, List.set_cons_succ, i64_w, i32_w]
                              rfl
                            refine pure_ (i := 4) (N := some 46) (v := ?_) (a' := ?_) #[true, true, true, true, true, false, false, false, false, false, false, false, false, false, false, false, false, false, false, false, false, false, false, false, false, false, false, false] rfl rfl (any_of HT_.out (by kernel_rfl)) (fun _ _ _ h => h) (Or.inl ⟨by rfl, ?_⟩) ?_ ?_
                            rotate_left
                            · intro w'
                              go_simp
                              with_reducible rfl
                            rotate_left
                            · simp only [Act.put, List.setIfInBounds_toArray, List.set_cons_zero, List.set_cons_succ, i64_w, i32_w]
                              rfl
                            refine pure_ (i := 5) (N := some 47) (v := ?_) (a' := ?_) #[true, true, true, true, true, true, false, false, false, false, false, false, false, false, false, false, false, false, false, false, false, false, false, false, false, false, false, false] rfl rfl (any_of HT_.out (by kernel_rfl)) (fun _ _ _ h => h) (Or.inl ⟨by rfl, ?_⟩) ?_ ?_
                            rotate_left
                            · intro w'
                              go_simp
                              with_reducible rfl
                            rotate_left
                            · simp only [Act.put, List.setIfInBounds_toArray, List.set_cons_zero, List.set_cons_succ, i64_w, i32_w]
                              rfl
                            refine pure_ (i := 6) (N := some 48) (v := ?_) (a' := ?_) #[true, true, true, true, true, true, true, false, false, false, false, false, false, false, false, false, false, false, false, false, false, false, false, false, false, false, false, false] rfl rfl (any_of HT_.out (by kernel_rfl)) (fun _ _ _ h => h) (Or.inl ⟨by rfl, ?_⟩) ?_ ?_
                            rotate_left
                            · intro w'
                              go_simp
                              with_reducible rfl
                            rotate_left
                            · simp only [Act.put, List.setIfInBounds_toArray, List.set_cons_zero, List.set_cons_succ, i64_w, i32_w]
                              rfl
                            refine pure_ (i := 7) (N := some 49) (v := ?_) (a' := ?_) #[true, true, true, true, true, true, true, true, false, false, false, false, false, false, false, false, false, false, false, false, false, false, false, false, false, false, false, false] rfl rfl (any_of HT_.out (by kernel_rfl)) (fun _ _ _ h => h) (Or.inl ⟨by rfl, ?_⟩) ?_ ?_
                            rotate_left
                            · intro w'
                              go_simp
                              with_reducible rfl
                            rotate_left
                            · simp only [Act.put, List.setIfInBounds_toArray, List.set_cons_zero, List.set_cons_succ, i64_w, i32_w]
                              rfl
                            refine pure_ (i := 8) (N := some 50) (v := ?_) (a' := ?_) #[true, true, true, true, true, true, true, true, true, false, false, false, false, false, false, false, false, false, false, false, false, false, false, false, false, false, false, false] rfl rfl (any_of HT_.out (by kernel_rfl)) (fun _ _ _ h => h) (Or.inl ⟨by rfl, ?_⟩) ?_ ?_
                            rotate_left
                            · intro w'
                              go_simp
                              with_reducible rfl
                            rotate_left
                            · simp only [Act.put, List.setIfInBounds_toArray, List.set_cons_zero, List.set_cons_succ, i64_w, i32_w]
                              rfl
                            refine pure_ (i := 9) (N := some 51) (v := ?_) (a' := ?_) #[true, true, true, true, true, true, true, true, true, true, false, false, false, false, false, false, false, false, false, false, false, false, false, false, false, false, false, false] rfl rfl (any_of HT_.out (by kernel_rfl)) (fun _ _ _ h => h) (Or.inl ⟨by rfl, ?_⟩) ?_ ?_
                            rotate_left
                            · intro w'
                              go_simp
                              with_reducible rfl
                            rotate_left
                            · simp only [Act.put, List.setIfInBounds_toArray, List.set_cons_zero, List.set_cons_succ, i64_w, i32_w]
                              rfl
                            refine pure_ (i := 11) (N := some 53) (v := ?_) (a' := ?_) #[true, true, true, true, true, true, true, true, true, true, false, true, false, false, false, false, false, false, false, false, false, false, false, false, false, false, false, false] rfl rfl (any_of HT_.out (by kernel_rfl)) (fun _ _ _ h => h) (Or.inl ⟨by rfl, ?_⟩) ?_ ?_
                            rotate_left
                            · intro w'
                              go_simp
                              with_reducible rfl
                            rotate_left
                            · simp only [Act.put, List.setIfInBounds_toArray, List.set_cons_zero, List.set_cons_succ, i64_w, i32_w]
                              rfl
                            refine pure_ (i := 12) (N := some 54) (v := ?_) (a' := ?_) #[true, true, true, true, true, true, true, true, true, true, false, true, true, false, false, false, false, false, false, false, false, false, false, false, false, false, false, false] rfl rfl (any_of HT_.out (by kernel_rfl)) (fun _ _ _ h => h) (Or.inl ⟨by rfl, ?_⟩) ?_ ?_
                            rotate_left
                            · intro w'
                              go_simp
                              with_reducible rfl
                            rotate_left
                            · simp only [Act.put, List.setIfInBounds_toArray, List.set_cons_zero, List.set_cons_succ, i64_w, i32_w]
                              rfl
                            refine pure_ (i := 13) (N := some 55) (v := ?_) (a' := ?_) #[true, true, true, true, true, true, true, true, true, true, false, true, true, true, false, false, false, false, false, false, false, false, false, false, false, false, false, false] rfl rfl (any_of HT_.out (by kernel_rfl)) (fun _ _ _ h => h) (Or.inl ⟨by rfl, ?_⟩) ?_ ?_
                            rotate_left
                            · intro w'
                              go_simp
                              with_reducible rfl
                            rotate_left
                            · simp only [Act.put, List.setIfInBounds_toArray, List.set_cons_zero, List.set_cons_succ, i64_w, i32_w]
                              rfl
                            refine take_ (i := 10) (N := some 52) (v := ?_) (a' := ?_) #[true, true, true, true, true, true, true, true, true, true, true, true, true, true, false, false, false, false, false, false, false, false, false, false, false, false, false, false] rfl rfl (take_ofW HT_.out HW_.out (by kernel_rfl)) (fun _ _ _ h => h) (Or.inl ⟨by rfl, ?_⟩) hHeld ?_ ?_
                            rotate_left
                            · rintro w' ⟨s0, s1, s2⟩
                              go_simp
                              with_reducible rfl
                            rotate_left
                            · simp only [Act.put, List.setIfInBounds_toArray, List.set_cons_zero, List.set_cons_succ, i64_w, i32_w]
                              rfl
                            refine take_ (i := 14) (N := some 56) (v := ?_) (a' := ?_) #[true, true, true, true, true, true, true, true, true, true, true, true, true, true, true, false, false, false, false, false, false, false, false, false, false, false, false, false] rfl rfl (take_ofW HT_.out HW_.out (by kernel_rfl)) (fun _ _ _ h => h) (Or.inl ⟨by rfl, ?_⟩) hHeld ?_ ?_
                            rotate_left
                            · rintro w' ⟨s0, s1, s2⟩
                              go_simp
                              with_reducible rfl
                            rotate_left
                            · simp only [Act.put, List.setIfInBounds_toArray, List.set_cons_zero, List.set_cons_succ, i64_w, i32_w]
                              rfl
                            refine one_ (i := 15) (N := some 57) #[true, true, true, true, true, true, true, true, true, true, true, true, true, true, true, true, false, false, false, false, false, false, false, false, false, false, false, false] rfl rfl (one_of HT_.out (by kernel_rfl)) (by decide) (fun K hK => ?_)
                            refine goes_ Try.func31 (by kernel_rfl) rfl #[.slice A373_0 (rd_L1 l0 (ji18)).length c373_0, .slice A374_0 (rd_L1 l0 x9_2).length c374_0] (by rfl) rfl rfl (by (try simp only [List.map_toArray, List.map_cons, List.map_nil]); first | done | (simp only [hji18]; rfl) | rfl | (simp only [List.length_drop, List.length_take]; rfl)) ?_
                            with_reducible refine (coppiceref3_Compare.calls k2 _ _ (rd_L1 l0 (ji18)) _ _ (rd_L1 l0 x9_2) t375 _ ?side1 ?side2 ?side3 ?side4 A21.out).mono ?_
                            (case side1 => repeat (first | exact (by repeat (first | (with_reducible exact HR373_0.out) | (with_reducible refine Kd.C_alloc ?_ _) | (with_reducible refine Kd.C_drewN ?_ _) | (with_reducible refine Kd.C_drew ?_) | exact HR373_0.out)) | (with_reducible refine Kd.C_alloc ?_ _) | (with_reducible refine Kd.C_drewN ?_ _) | (with_reducible refine Kd.C_drew ?_)))
                            (case side2 => exact HC373_0.out)
                            (case side3 => repeat (first | exact (by repeat (first | (with_reducible exact HR374_0.out) | (with_reducible refine Kd.C_alloc ?_ _) | (with_reducible refine Kd.C_drewN ?_ _) | (with_reducible refine Kd.C_drew ?_) | exact HR374_0.out)) | (with_reducible refine Kd.C_alloc ?_ _) | (with_reducible refine Kd.C_drewN ?_ _) | (with_reducible refine Kd.C_drew ?_)))
                            (case side4 => exact HC374_0.out)
                            rintro e w' ⟨rfl, ⟨nd, rfl⟩⟩
                            refine ⟨_, rfl, ?_⟩
                            refine hK.out _ _ ⟨hHeld.1, hHeld.2.1, hHeld.2.2⟩ (fun hHeld => ?_)
                            clear hK K
                            refine norm_ (a' := ?_) ?_ ?_
                            rotate_left
                            · show Act.put _ (some 57) _ = _
                              simp only [Act.put, List.setIfInBounds_toArray, List.set_cons_zero, List.set_cons_succ, i64_w, i32_w]
                              rfl
                            refine pure_ (i := 16) (N := some 58) (v := ?_) (a' := ?_) #[true, true, true, true, true, true, true, true, true, true, true, true, true, true, true, true, true, false, false, false, false, false, false, false, false, false, false, false] rfl rfl (any_of HT_.out (by kernel_rfl)) (fun _ _ _ h => h) (Or.inl ⟨by rfl, ?_⟩) ?_ ?_
                            rotate_left
                            · intro w'
                              go_simp
                              with_reducible rfl
                            rotate_left
                            · simp only [Act.put, List.setIfInBounds_toArray, List.set_cons_zero, List.set_cons_succ, i64_w, i32_w]
                              rfl
                            refine pure_ (i := 17) (N := some 59) (v := ?_) (a' := ?_) #[true, true, true, true, true, true, true, true, true, true, true, true, true, true, true, true, true, true, false, false, false, false, false, false, false, false, false, false] rfl rfl (any_of HT_.out (by kernel_rfl)) (fun _ _ _ h => h) (Or.inl ⟨by rfl, ?_⟩) ?_ ?_
                            rotate_left
                            · intro w'
                              go_simp
                              with_reducible rfl
                            rotate_left
                            · simp only [Act.put, List.setIfInBounds_toArray, List.set_cons_zero, List.set_cons_succ, i64_w, i32_w]
                              rfl
                            refine pure_ (i := 18) (N := some 60) (v := ?_) (a' := ?_) #[true, true, true, true, true, true, true, true, true, true, true, true, true, true, true, true, true, true, true, false, false, false, false, false, false, false, false, false] rfl rfl (any_of HT_.out (by kernel_rfl)) (fun _ _ _ h => h) (Or.inl ⟨by rfl, ?_⟩) ?_ ?_
                            rotate_left
                            · intro w'
                              go_simp
                              with_reducible rfl
                            rotate_left
                            · simp only [Act.put, List.setIfInBounds_toArray, List.set_cons_zero, List.set_cons_succ, i64_w, i32_w]
                              rfl
                            refine pure_ (i := 19) (N := some 61) (v := ?_) (a' := ?_) #[true, true, true, true, true, true, true, true, true, true, true, true, true, true, true, true, true, true, true, true, false, false, false, false, false, false, false, false] rfl rfl (any_of HT_.out (by kernel_rfl)) (fun _ _ _ h => h) (Or.inl ⟨by rfl, ?_⟩) ?_ ?_
                            rotate_left
                            · intro w'
                              go_simp
                              with_reducible rfl
                            rotate_left
                            · simp only [Act.put, List.setIfInBounds_toArray, List.set_cons_zero, List.set_cons_succ, i64_w, i32_w]
                              rfl
                            refine pure_ (i := 20) (N := some 62) (v := ?_) (a' := ?_) #[true, true, true, true, true, true, true, true, true, true, true, true, true, true, true, true, true, true, true, true, true, false, false, false, false, false, false, false] rfl rfl (any_of HT_.out (by kernel_rfl)) (fun _ _ _ h => h) (Or.inl ⟨by rfl, ?_⟩) ?_ ?_
                            rotate_left
                            · intro w'
                              go_simp
                              with_reducible rfl
                            rotate_left
                            · simp only [Act.put, List.setIfInBounds_toArray, List.set_cons_zero, List.set_cons_succ, i64_w, i32_w]
                              rfl
                            refine pure_ (i := 21) (N := some 63) (v := ?_) (a' := ?_) #[true, true, true, true, true, true, true, true, true, true, true, true, true, true, true, true, true, true, true, true, true, true, false, false, false, false, false, false] rfl rfl (any_of HT_.out (by kernel_rfl)) (fun _ _ _ h => h) (Or.inl ⟨by rfl, ?_⟩) ?_ ?_
                            rotate_left
                            · intro w'
                              go_simp
                              with_reducible rfl
                            rotate_left
                            · simp only [Act.put, List.setIfInBounds_toArray, List.set_cons_zero, List.set_cons_succ, i64_w, i32_w]
                              rfl
                            refine pure_ (i := 22) (N := some 64) (v := ?_) (a' := ?_) #[true, true, true, true, true, true, true, true, true, true, true, true, true, true, true, true, true, true, true, true, true, true, true, false, false, false, false, false] rfl rfl (any_of HT_.out (by kernel_rfl)) (fun _ _ _ h => h) (Or.inl ⟨by rfl, ?_⟩) ?_ ?_
                            rotate_left
                            · intro w'
                              go_simp
                              with_reducible rfl
                            rotate_left
                            · simp only [Act.put, List.setIfInBounds_toArray, List.set_cons_zero, List.set_cons_succ, i64_w, i32_w]
                              rfl
                            refine pure_ (i := 24) (N := some 66) (v := ?_) (a' := ?_) #[true, true, true, true, true, true, true, true, true, true, true, true, true, true, true, true, true, true, true, true, true, true, true, false, true, false, false, false] rfl rfl (any_of HT_.out (by kernel_rfl)) (fun _ _ _ h => h) (Or.inl ⟨by rfl, ?_⟩) ?_ ?_
                            rotate_left
                            · intro w'
                              go_simp
                              with_reducible rfl
                            rotate_left
                            · simp only [Act.put, List.setIfInBounds_toArray, List.set_cons_zero, List.set_cons_succ, i64_w, i32_w]
                              rfl
                            refine take_ (i := 23) (N := some 65) (v := ?_) (a' := ?_) #[true, true, true, true, true, true, true, true, true, true, true, true, true, true, true, true, true, true, true, true, true, true, true, true, true, false, false, false] rfl rfl (take_ofW HT_.out HW_.out (by kernel_rfl)) (fun _ _ _ h => h) (Or.inl ⟨by rfl, ?_⟩) hHeld ?_ ?_
                            rotate_left
                            · rintro w' ⟨s0, s1, s2⟩
                              go_simp
                              with_reducible rfl
                            rotate_left
                            · simp only [Act.put, List.setIfInBounds_toArray, List.set_cons_zero, List.set_cons_succ, i64_w, i32_w]
                              rfl
                            refine one_ (i := 25) (N := some 67) #[true, true, true, true, true, true, true, true, true, true, true, true, true, true, true, true, true, true, true, true, true, true, true, true, true, true, false, false] rfl rfl (one_of HT_.out (by kernel_rfl)) (by decide) (fun K hK => ?_)
                            refine goes_ Try.func31 (by kernel_rfl) rfl #[.slice A374_0 (rd_L1 l0 x9_2).length c374_0, .slice A1 l1.length c1] (by rfl) rfl rfl (by (try simp only [List.map_toArray, List.map_cons, List.map_nil]); first | done | rfl | (simp only [List.length_drop, List.length_take]; rfl)) ?_
                            with_reducible refine (coppiceref3_Compare.calls k2 _ _ (rd_L1 l0 x9_2) _ _ l1 t377 _ ?side1 ?side2 ?side3 ?side4 A24.out).mono ?_
                            (case side1 => repeat (first | exact (by repeat (first | (with_reducible exact HR376_0.out) | (with_reducible refine Kd.C_alloc ?_ _) | (with_reducible refine Kd.C_drewN ?_ _) | (with_reducible refine Kd.C_drew ?_) | exact HR376_0.out)) | (with_reducible refine Kd.C_alloc ?_ _) | (with_reducible refine Kd.C_drewN ?_ _) | (with_reducible refine Kd.C_drew ?_)))
                            (case side2 => exact HC376_0.out)
                            (case side3 => repeat (first | exact (Kd.V_reads' HO_1.out).2.2 | (with_reducible refine Kd.C_alloc ?_ _) | (with_reducible refine Kd.C_drewN ?_ _) | (with_reducible refine Kd.C_drew ?_)))
                            (case side4 => exact (Kd.V_reads' HO_1.out).2.1)
                            rintro e w' ⟨rfl, ⟨nd, rfl⟩⟩
                            refine ⟨_, rfl, ?_⟩
                            refine hK.out _ _ ⟨hHeld.1, hHeld.2.1, hHeld.2.2⟩ (fun hHeld => ?_)
                            clear hK K
                            refine norm_ (a' := ?_) ?_ ?_
                            rotate_left
                            · show Act.put _ (some 67) _ = _
                              simp only [Act.put, List.setIfInBounds_toArray, List.set_cons_zero, List.set_cons_succ, i64_w, i32_w]
                              rfl
                            refine pure_ (i := 26) (N := some 68) (v := ?_) (a' := ?_) #[true, true, true, true, true, true, true, true, true, true, true, true, true, true, true, true, true, true, true, true, true, true, true, true, true, true, true, false] rfl rfl (any_of HT_.out (by kernel_rfl)) (fun _ _ _ h => h) (Or.inl ⟨by rfl, ?_⟩) ?_ ?_
                            rotate_left
                            · intro w'
                              go_simp
                              with_reducible rfl
                            rotate_left
                            · simp only [Act.put, List.setIfInBounds_toArray, List.set_cons_zero, List.set_cons_succ, i64_w, i32_w]
                              rfl
                            refine pure_ (i := 27) (N := some 69) (v := ?_) (a' := ?_) #[true, true, true, true, true, true, true, true, true, true, true, true, true, true, true, true, true, true, true, true, true, true, true, true, true, true, true, true] rfl rfl (any_of HT_.out (by kernel_rfl)) (fun _ _ _ h => h) (Or.inl ⟨by rfl, ?_⟩) ?_ ?_
                            rotate_left
                            · intro w'
                              go_simp
                              with_reducible rfl
                            rotate_left
                            · simp only [Act.put, List.setIfInBounds_toArray, List.set_cons_zero, List.set_cons_succ, i64_w, i32_w]
                              rfl
                            refine done_ (done_of HT_.out (by kernel_rfl)) ?_
                            try go_wp2
                            go_meet
                            case rel => exact ⟨_, ((t377 == 0)), (by first | rfl | (simp; done) | (simp [*]; done)), H', ⟨by have := HJ4.out; have := HK2.out; first | omega | exact Nat.le_refl _⟩, ⟨by (with_reducible repeat (first | apply Kd.V_alloc | apply Kd.V_drewN | apply Kd.V_drew)); exact HO_0.out⟩, ⟨by (with_reducible repeat (first | apply Kd.V_alloc | apply Kd.V_drewN | apply Kd.V_drew)); exact HO_1.out⟩, ⟨by (with_reducible repeat (first | apply Kd.N_alloc | apply Kd.N_drewN | apply Kd.N_drew)); exact HO_7.out⟩, ⟨by repeat (first | (with_reducible exact HR371_0.out) | (with_reducible refine Kd.C_alloc ?_ _) | (with_reducible refine Kd.C_drewN ?_ _) | (with_reducible refine Kd.C_drew ?_) | exact HR371_0.out)⟩, ⟨by repeat (first | (with_reducible first | exact HB.out | apply below_alloc | apply pw_below_drewN | apply below_drew1) | exact HB.out)⟩⟩
                        · rw [if_neg c20] at H
                          exact absurd H (by simp)
                      · rw [if_neg c19] at H
                        exact absurd H (by simp)
                    · rw [if_neg c17] at H
                      have c17b0 : decide (0 < x9_2) = false := decide_eq_false c17
                      clear c17
                      (first | rw [c17b0] | (simp only [i64_w, i32_w]; rw [c17b0]) | skip)
                      replace H := Option.bind_eq_some_iff.mp H
                      obtain ⟨t379, A260, H⟩ := H
                      replace H : (coppicelaw9_CutBranchesAlways.j2 k2 l0 l1 t368 x7_2 x8_2 x9_2 (t379 == 0)) = some r := H
                      have A26 := Aside0.mk A260
                      clear A260
                      have H' := Aside0.mk H
                      clear H
                      try go_wp2
                      replace HO_0 := Aside0.mk (Kd.V_drewN HO_0.out nd)
                      replace HO_1 := Aside0.mk (Kd.V_drewN HO_1.out nd)
                      replace HO_7 := Aside0.mk (Kd.N_drewN HO_7.out nd)
                      replace HL371_0 := Aside0.mk (Kd.V_drewN HL371_0.out nd)
                      replace HR371_0 := Aside0.mk (Kd.C_drewN HR371_0.out nd)
                      replace HB := Aside0.mk (pw_below_drewN HB.out nd)
                      generalize wr.drewN nd = wr0_ at HO_0 HO_1 HO_7 HL371_0 HR371_0 HB ⊢
                      have n0_ := Aside0.mk (Kd.V_drew HO_0.out)
                      have n1_ := Aside0.mk (Kd.V_drew HO_1.out)
                      have n2_ := Aside0.mk (Kd.N_drew HO_7.out)
                      have n3_ := Aside0.mk (Kd.V_drew HL371_0.out)
                      have n4_ := Aside0.mk (Kd.C_drew HR371_0.out)
                      have n5_ := Aside0.mk (below_drew1 HB.out)
                      clear HO_0
                      clear HO_1
                      clear HO_7
                      clear HL371_0
                      clear HR371_0
                      clear HB
                      have HO_0 := n0_
                      have HO_1 := n1_
                      have HO_7 := n2_
                      have HL371_0 := n3_
                      have HR371_0 := n4_
                      have HB := n5_
                      clear n0_ n1_ n2_ n3_ n4_ n5_
                      have p378 : 0 ≤ (x9_2 : Int) := of_decide_eq_true (by first | (with_reducible assumption) | assumption)
                      have q378 : x9_2 < (l0.length : Int) := of_decide_eq_true (by first | (with_reducible assumption) | assumption)
                      obtain ⟨ad378, A378_0, c378_0, e378, hx378_0, hl378_0, hi378_0⟩ := at_L1 (Kd.V_reads' HO_0.out).2.2 x9_2 p378 q378
                      obtain rfl : ad371 = ad378 := (by injection e378)
                      obtain ⟨ce378, hce378, hMe378, hcc378⟩ := Kd.V_get HO_0.out [] x9_2 p378 (by first | exact q378 | exact of_decide_eq_true (by first | (with_reducible assumption) | assumption) | (have e_ := (Kd.V_reads' HO_0.out).1; omega))
                      obtain ⟨ua378_0, uc378_0, rfl, ul378_0, ge378_0⟩ := Kd.FK_slice_open hMe378
                      have hv378_0 := hcc378 0 _ rfl
                      rw [Nat.add_zero, show ((Kd.slice 5 (Kd.int .u8))).sz = 1 from rfl, Nat.mul_one] at hv378_0
                      replace hv378_0 := Option.some.inj (hv378_0.symm.trans hx378_0)
                      injection hv378_0 with hva_ hvn_ hvc_
                      rw [hva_] at ge378_0
                      rw [hvc_] at ul378_0
                      have HL378_0 := Aside0.mk (show Kd.V (Kd.int .u8) 5 _ w.heap.size _ _ (rd_L1 l0 x9_2) from Kd.V_mk ul378_0 ge378_0)
                      clear hva_ hvn_ hvc_ ge378_0 ul378_0
                      clear hcc378 hce378
                      have HR378_0 := Aside0.mk hi378_0
                      have HC378_0 := Aside0.mk hl378_0
                      clear hi378_0 hl378_0
                      replace p378 := eq_true p378
                      replace q378 := eq_true q378
                      refine start_ (n := 28) (S := fun w' => w'.cell? (ad371.add (x9_2).toNat) = some (.slice A378_0 (rd_L1 l0 x9_2).length c378_0)) (ds := []) #[false, false, false, false, false, false, false, false, false, false, false, false, false, false, false, false, false, false, false, false, false, false, false, false, false, false, false, false] (by kernel_rfl) rfl rfl (hx378_0) (fun hHeld => ?_); refine with_tabW coppicelaw9_CutBranchesAlways.tab11 coppicelaw9_CutBranchesAlways.bits11 (fun HT_ HW_ => ?_)
                      generalize wr0_.drew = w27 at HO_0 HO_1 HO_7 HL371_0 HR371_0 HB HL378_0 HR378_0 hx378_0 hHeld ⊢
                      refine pure_ (i := 0) (N := some 42) (v := ?_) (a' := ?_) #[true, false, false, false, false, false, false, false, false, false, false, false, false, false, false, false, false, false, false, false, false, false, false, false, false, false, false, false] rfl rfl (any_of HT_.out (by kernel_rfl)) (fun _ _ _ h => h) (Or.inl ⟨by rfl, ?_⟩) ?_ ?_
                      rotate_left
                      · intro w'
                        go_simp
                        with_reducible rfl
                      rotate_left
                      · simp only [Act.put, List.setIfInBounds_toArray, List.set_cons_zero, List.set_cons_succ, i64_w, i32_w]
                        rfl
                      refine pure_ (i := 1) (N := some 43) (v := ?_) (a' := ?_) #[true, true, false, false, false, false, false, false, false, false, false, false, false, false, false, false, false, false, false, false, false, false, false, false, false, false, false, false] rfl rfl (any_of HT_.out (by kernel_rfl)) (fun _ _ _ h => h) (Or.inl ⟨by rfl, ?_⟩) ?_ ?_
                      rotate_left
                      · intro w'
                        go_simp
                        with_reducible rfl
                      rotate_left
                      · simp only [Act.put, List.setIfInBounds_toArray, List.set_cons_zero, List.set_cons_succ, i64_w, i32_w]
                        rfl
                      refine pure_ (i := 2) (N := some 44) (v := ?_) (a' := ?_) #[true, true, true, false, false, false, false, false, false, false, false, false, false, false, false, false, false, false, false, false, false, false, false, false, false, false, false, false] rfl rfl (any_of HT_.out (by kernel_rfl)) (fun _ _ _ h => h) (Or.inl ⟨by rfl, ?_⟩) ?_ ?_
                      rotate_left
                      · intro w'
                        go_simp
                        with_reducible rfl
                      rotate_left
                      · simp only [Act.put, List.setIfInBounds_toArray, List.set_cons_zero, List.set_cons_succ, i64_w, i32_w]
                        rfl
                      refine pure_ (i := 3) (N := some 45) (v := ?_) (a' := ?_) #[true, true, true, true, false, false, false, false, false, false, false, false, false, false, false, false, false, false, false, false, false, false, false, false, false, false, false, false] rfl rfl (any_of HT_.out (by kernel_rfl)) (fun _ _ _ h => h) (Or.inl ⟨by rfl, ?_⟩) ?_ ?_
                      rotate_left
                      · intro w'
                        go_simp
                        with_reducible rfl
                      rotate_left
                      · simp only [Act.put, List.setIfInBounds_toArray, List.set_cons_zero, List.set_cons_succ, i64_w, i32_w]
                        rfl
                      refine pure_ (i := 4) (N := some 46) (v := ?_) (a' := ?_) #[true, true, true, true, true, false, false, false, false, false, false, false, false, false, false, false, false, false, false, false, false, false, false, false, false, false, false, false] rfl rfl (any_of HT_.out (by kernel_rfl)) (fun _ _ _ h => h) (Or.inl ⟨by rfl, ?_⟩) ?_ ?_
                      rotate_left
                      · intro w'
                        go_simp
                        with_reducible rfl
                      rotate_left
                      · simp only [Act.put, List.setIfInBounds_toArray, List.set_cons_zero, List.set_cons_succ, i64_w, i32_w]
                        rfl
                      refine pure_ (i := 5) (N := some 47) (v := ?_) (a' := ?_) #[true, true, true, true, true, true, false, false, false, false, false, false, false, false, false, false, false, false, false, false, false, false, false, false, false, false, false, false] rfl rfl (any_of HT_.out (by kernel_rfl)) (fun _ _ _ h => h) (Or.inl ⟨by rfl, ?_⟩) ?_ ?_
                      rotate_left
                      · intro w'
                        go_simp
                        with_reducible rfl
                      rotate_left
                      · simp only [Act.put, List.setIfInBounds_toArray, List.set_cons_zero, List.set_cons_succ, i64_w, i32_w]
                        rfl
                      refine pure_ (i := 6) (N := some 48) (v := undef) (a' := ?_) #[true, true, true, true, true, true, true, false, false, false, false, false, false, false, false, false, false, false, false, false, false, false, false, false, false, false, false, false] rfl rfl (any_of HT_.out (by kernel_rfl)) (fun _ _ _ h => h) (Or.inr ⟨by rfl, rfl⟩) ?_ ?_
                      rotate_left
                      · simp only [Act.put, List.setIfInBounds_toArray, List.set_cons_zero, List.set_cons_succ, i64_w, i32_w]
                        rfl
                      refine pure_ (i := 7) (N := some 49) (v := undef) (a' := ?_) #[true, true, true, true, true, true, true, true, false, false, false, false, false, false, false, false, false, false, false, false, false, false, false, false, false, false, false, false] rfl rfl (any_of HT_.out (by kernel_rfl)) (fun _ _ _ h => h) (Or.inr ⟨by rfl, rfl⟩) ?_ ?_
                      rotate_left
                      · simp only [Act.put, List.setIfInBounds_toArray, List.set_cons_zero, List.set_cons_succ, i64_w, i32_w]
                        rfl
                      refine pure_ (i := 8) (N := some 50) (v := undef) (a' := ?_) #[true, true, true, true, true, true, true, true, true, false, false, false, false, false, false, false, false, false, false, false, false, false, false, false, false, false, false, false] rfl rfl (any_of HT_.out (by kernel_rfl)) (fun _ _ _ h => h) (Or.inr ⟨by rfl, rfl⟩) ?_ ?_
                      rotate_left
                      · simp only [Act.put, List.setIfInBounds_toArray, List.set_cons_zero, List.set_cons_succ, i64_w, i32_w]
                        rfl
                      refine pure_ (i := 9) (N := some 51) (v := undef) (a' := ?_) #[true, true, true, true, true, true, true, true, true, true, false, false, false, false, false, false, false, false, false, false, false, false, false, false, false, false, false, false] rfl rfl (any_of HT_.out (by kernel_rfl)) (fun _ _ _ h => h) (Or.inr ⟨by rfl, rfl⟩) ?_ ?_
                      rotate_left
                      · simp only [Act.put, List.setIfInBounds_toArray, List.set_cons_zero, List.set_cons_succ, i64_w, i32_w]
                        rfl
                      refine pure_ (i := 10) (N := some 52) (v := undef) (a' := ?_) #[true, true, true, true, true, true, true, true, true, true, true, false, false, false, false, false, false, false, false, false, false, false, false, false, false, false, false, false] rfl rfl (any_of HT_.out (by kernel_rfl)) (fun _ _ _ h => h) (Or.inr ⟨by rfl, rfl⟩) ?_ ?_
                      rotate_left
                      · simp only [Act.put, List.setIfInBounds_toArray, List.set_cons_zero, List.set_cons_succ, i64_w, i32_w]
                        rfl
                      refine pure_ (i := 11) (N := some 53) (v := undef) (a' := ?_) #[true, true, true, true, true, true, true, true, true, true, true, true, false, false, false, false, false, false, false, false, false, false, false, false, false, false, false, false] rfl rfl (any_of HT_.out (by kernel_rfl)) (fun _ _ _ h => h) (Or.inr ⟨by rfl, rfl⟩) ?_ ?_
                      rotate_left
                      · simp only [Act.put, List.setIfInBounds_toArray, List.set_cons_zero, List.set_cons_succ, i64_w, i32_w]
                        rfl
                      refine pure_ (i := 12) (N := some 54) (v := undef) (a' := ?_) #[true, true, true, true, true, true, true, true, true, true, true, true, true, false, false, false, false, false, false, false, false, false, false, false, false, false, false, false] rfl rfl (any_of HT_.out (by kernel_rfl)) (fun _ _ _ h => h) (Or.inr ⟨by rfl, rfl⟩) ?_ ?_
                      rotate_left
                      · simp only [Act.put, List.setIfInBounds_toArray, List.set_cons_zero, List.set_cons_succ, i64_w, i32_w]
                        rfl
                      refine pure_ (i := 13) (N := some 55) (v := undef) (a' := ?_) #[true, true, true, true, true, true, true, true, true, true, true, true, true, true, false, false, false, false, false, false, false, false, false, false, false, false, false, false] rfl rfl (any_of HT_.out (by kernel_rfl)) (fun _ _ _ h => h) (Or.inr ⟨by rfl, rfl⟩) ?_ ?_
                      rotate_left
                      · simp only [Act.put, List.setIfInBounds_toArray, List.set_cons_zero, List.set_cons_succ, i64_w, i32_w]
                        rfl
                      refine pure_ (i := 14) (N := some 56) (v := undef) (a' := ?_) #[true, true, true, true, true, true, true, true, true, true, true, true, true, true, true, false, false, false, false, false, false, false, false, false, false, false, false, false] rfl rfl (any_of HT_.out (by kernel_rfl)) (fun _ _ _ h => h) (Or.inr ⟨by rfl, rfl⟩) ?_ ?_
                      rotate_left
                      · simp only [Act.put, List.setIfInBounds_toArray, List.set_cons_zero, List.set_cons_succ, i64_w, i32_w]
                        rfl
                      refine pure_ (i := 15) (N := some 57) (v := undef) (a' := ?_) #[true, true, true, true, true, true, true, true, true, true, true, true, true, true, true, true, false, false, false, false, false, false, false, false, false, false, false, false] rfl rfl (any_of HT_.out (by kernel_rfl)) (fun _ _ _ h => h) (Or.inr ⟨by rfl, rfl⟩) ?_ ?_
                      rotate_left
                      · simp only [Act.put, List.setIfInBounds_toArray, List.set_cons_zero, List.set_cons_succ, i64_w, i32_w]
                        rfl
                      refine pure_ (i := 16) (N := some 58) (v := undef) (a' := ?_) #[true, true, true, true, true, true, true, true, true, true, true, true, true, true, true, true, true, false, false, false, false, false, false, false, false, false, false, false] rfl rfl (any_of HT_.out (by kernel_rfl)) (fun _ _ _ h => h) (Or.inr ⟨by rfl, rfl⟩) ?_ ?_
                      rotate_left
                      · simp only [Act.put, List.setIfInBounds_toArray, List.set_cons_zero, List.set_cons_succ, i64_w, i32_w]
                        rfl
                      refine pure_ (i := 17) (N := some 59) (v := ?_) (a' := ?_) #[true, true, true, true, true, true, true, true, true, true, true, true, true, true, true, true, true, true, false, false, false, false, false, false, false, false, false, false] rfl rfl (any_of HT_.out (by kernel_rfl)) (fun _ _ _ h => h) (Or.inl ⟨by rfl, ?_⟩) ?_ ?_
                      rotate_left
                      · intro w'
                        go_simp
                        with_reducible rfl
                      rotate_left
                      · simp only [Act.put, List.setIfInBounds_toArray, List.set_cons_zero, List.set_cons_succ, i64_w, i32_w]
                        rfl
                      refine pure_ (i := 18) (N := some 60) (v := ?_) (a' := ?_) #[true, true, true, true, true, true, true, true, true, true, true, true, true, true, true, true, true, true, true, false, false, false, false, false, false, false, false, false] rfl rfl (any_of HT_.out (by kernel_rfl)) (fun _ _ _ h => h) (Or.inl ⟨by rfl, ?_⟩) ?_ ?_
                      rotate_left
                      · intro w'
                        go_simp
                        with_reducible rfl
                      rotate_left
                      · simp only [Act.put, List.setIfInBounds_toArray, List.set_cons_zero, List.set_cons_succ, i64_w, i32_w]
                        rfl
                      refine pure_ (i := 19) (N := some 61) (v := ?_) (a' := ?_) #[true, true, true, true, true, true, true, true, true, true, true, true, true, true, true, true, true, true, true, true, false, false, false, false, false, false, false, false] rfl rfl (any_of HT_.out (by kernel_rfl)) (fun _ _ _ h => h) (Or.inl ⟨by rfl, ?_⟩) ?_ ?_
                      rotate_left
                      · intro w'
                        go_simp
                        with_reducible rfl
                      rotate_left
                      · simp only [Act.put, List.setIfInBounds_toArray, List.set_cons_zero, List.set_cons_succ, i64_w, i32_w]
                        rfl
                      refine pure_ (i := 20) (N := some 62) (v := ?_) (a' := ?_) #[true, true, true, true, true, true, true, true, true, true, true, true, true, true, true, true, true, true, true, true, true, false, false, false, false, false, false, false] rfl rfl (any_of HT_.out (by kernel_rfl)) (fun _ _ _ h => h) (Or.inl ⟨by rfl, ?_⟩) ?_ ?_
                      rotate_left
                      · intro w'
                        go_simp
                        with_reducible rfl
                      rotate_left
                      · simp only [Act.put, List.setIfInBounds_toArray, List.set_cons_zero, List.set_cons_succ, i64_w, i32_w]
                        rfl
                      refine pure_ (i := 21) (N := some 63) (v := ?_) (a' := ?_) #[true, true, true, true, true, true, true, true, true, true, true, true, true, true, true, true, true, true, true, true, true, true, false, false, false, false, false, false] rfl rfl (any_of HT_.out (by kernel_rfl)) (fun _ _ _ h => h) (Or.inl ⟨by rfl, ?_⟩) ?_ ?_
                      rotate_left
                      · intro w'
                        go_simp
                        with_reducible rfl
                      rotate_left
                      · simp only [Act.put, List.setIfInBounds_toArray, List.set_cons_zero, List.set_cons_succ, i64_w, i32_w]
                        rfl
                      refine pure_ (i := 22) (N := some 64) (v := ?_) (a' := ?_) #[true, true, true, true, true, true, true, true, true, true, true, true, true, true, true, true, true, true, true, true, true, true, true, false, false, false, false, false] rfl rfl (any_of HT_.out (by kernel_rfl)) (fun _ _ _ h => h) (Or.inl ⟨by rfl, ?_⟩) ?_ ?_
                      rotate_left
                      · intro w'
                        go_simp
                        with_reducible rfl
                      rotate_left
                      · simp only [Act.put, List.setIfInBounds_toArray, List.set_cons_zero, List.set_cons_succ, i64_w, i32_w]
                        rfl
                      refine pure_ (i := 24) (N := some 66) (v := ?_) (a' := ?_) #[true, true, true, true, true, true, true, true, true, true, true, true, true, true, true, true, true, true, true, true, true, true, true, false, true, false, false, false] rfl rfl (any_of HT_.out (by kernel_rfl)) (fun _ _ _ h => h) (Or.inl ⟨by rfl, ?_⟩) ?_ ?_
                      rotate_left
                      · intro w'
                        go_simp
                        with_reducible rfl
                      rotate_left
                      · simp only [Act.put, List.setIfInBounds_toArray, List.set_cons_zero, List.set_cons_succ, i64_w, i32_w]
                        rfl
                      refine take_ (i := 23) (N := some 65) (v := ?_) (a' := ?_) #[true, true, true, true, true, true, true, true, true, true, true, true, true, true, true, true, true, true, true, true, true, true, true, true, true, false, false, false] rfl rfl (take_ofW HT_.out HW_.out (by kernel_rfl)) (fun _ _ _ h => h) (Or.inl ⟨by rfl, ?_⟩) hHeld ?_ ?_
                      rotate_left
                      · intro w' s0
                        go_simp
                        with_reducible rfl
                      rotate_left
                      · simp only [Act.put, List.setIfInBounds_toArray, List.set_cons_zero, List.set_cons_succ, i64_w, i32_w]
                        rfl
                      refine one_ (i := 25) (N := some 67) #[true, true, true, true, true, true, true, true, true, true, true, true, true, true, true, true, true, true, true, true, true, true, true, true, true, true, false, false] rfl rfl (one_of HT_.out (by kernel_rfl)) (by decide) (fun K hK => ?_)
                      refine goes_ Try.func31 (by kernel_rfl) rfl #[.slice A378_0 (rd_L1 l0 x9_2).length c378_0, .slice A1 l1.length c1] (by rfl) rfl rfl (by (try simp only [List.map_toArray, List.map_cons, List.map_nil]); first | done | rfl | (simp only [List.length_drop, List.length_take]; rfl)) ?_
                      with_reducible refine (coppiceref3_Compare.calls k2 _ _ (rd_L1 l0 x9_2) _ _ l1 t379 _ ?side1 ?side2 ?side3 ?side4 A26.out).mono ?_
                      (case side1 => repeat (first | exact (by repeat (first | (with_reducible exact HR378_0.out) | (with_reducible refine Kd.C_alloc ?_ _) | (with_reducible refine Kd.C_drewN ?_ _) | (with_reducible refine Kd.C_drew ?_) | exact HR378_0.out)) | (with_reducible refine Kd.C_alloc ?_ _) | (with_reducible refine Kd.C_drewN ?_ _) | (with_reducible refine Kd.C_drew ?_)))
                      (case side2 => exact HC378_0.out)
                      (case side3 => repeat (first | exact (Kd.V_reads' HO_1.out).2.2 | (with_reducible refine Kd.C_alloc ?_ _) | (with_reducible refine Kd.C_drewN ?_ _) | (with_reducible refine Kd.C_drew ?_)))
                      (case side4 => exact (Kd.V_reads' HO_1.out).2.1)
                      rintro e w' ⟨rfl, ⟨nd, rfl⟩⟩
                      refine ⟨_, rfl, ?_⟩
                      refine hK.out _ _ (hHeld) (fun hHeld => ?_)
                      clear hK K
                      refine norm_ (a' := ?_) ?_ ?_
                      rotate_left
                      · show Act.put _ (some 67) _ = _
                        simp only [Act.put, List.setIfInBounds_toArray, List.set_cons_zero, List.set_cons_succ, i64_w, i32_w]
                        rfl
                      refine pure_ (i := 26) (N := some 68) (v := ?_) (a' := ?_) #[true, true, true, true, true, true, true, true, true, true, true, true, true, true, true, true, true, true, true, true, true, true, true, true, true, true, true, false] rfl rfl (any_of HT_.out (by kernel_rfl)) (fun _ _ _ h => h) (Or.inl ⟨by rfl, ?_⟩) ?_ ?_
                      rotate_left
                      · intro w'
                        go_simp
                        with_reducible rfl
                      rotate_left
                      · simp only [Act.put, List.setIfInBounds_toArray, List.set_cons_zero, List.set_cons_succ, i64_w, i32_w]
                        rfl
                      refine pure_ (i := 27) (N := some 69) (v := ?_) (a' := ?_) #[true, true, true, true, true, true, true, true, true, true, true, true, true, true, true, true, true, true, true, true, true, true, true, true, true, true, true, true] rfl rfl (any_of HT_.out (by kernel_rfl)) (fun _ _ _ h => h) (Or.inl ⟨by rfl, ?_⟩) ?_ ?_
                      rotate_left
                      · intro w'
                        go_simp
                        with_reducible rfl
                      rotate_left
                      · simp only [Act.put, List.setIfInBounds_toArray, List.set_cons_zero, List.set_cons_succ, i64_w, i32_w]
                        rfl
                      refine done_ (done_of HT_.out (by kernel_rfl)) ?_
                      try go_wp2
                      go_meet
                      case rel => exact ⟨_, ((t379 == 0)), (by first | rfl | (simp; done) | (simp [*]; done)), H', ⟨by have := HJ4.out; have := HK2.out; first | omega | exact Nat.le_refl _⟩, ⟨by (with_reducible repeat (first | apply Kd.V_alloc | apply Kd.V_drewN | apply Kd.V_drew)); exact HO_0.out⟩, ⟨by (with_reducible repeat (first | apply Kd.V_alloc | apply Kd.V_drewN | apply Kd.V_drew)); exact HO_1.out⟩, ⟨by (with_reducible repeat (first | apply Kd.N_alloc | apply Kd.N_drewN | apply Kd.N_drew)); exact HO_7.out⟩, ⟨by repeat (first | (with_reducible exact HR371_0.out) | (with_reducible refine Kd.C_alloc ?_ _) | (with_reducible refine Kd.C_drewN ?_ _) | (with_reducible refine Kd.C_drew ?_) | exact HR371_0.out)⟩, ⟨by repeat (first | (with_reducible first | exact HB.out | apply below_alloc | apply pw_below_drewN | apply below_drew1) | exact HB.out)⟩⟩
                  · replace c16 := Bool.eq_false_iff.mpr c16
                    subst c16
                    have H1 : (coppicelaw9_CutBranchesAlways.j2 k2 l0 l1 t368 x7_2 x8_2 x9_2 true) = some r := by rw [if_neg (show ¬ (false = true) by decide)] at H; exact H
                    clear H
                    have H := H1
                    clear H1
                    have H' := Aside0.mk H
                    clear H
                    try go_wp2
                    replace HO_0 := Aside0.mk (Kd.V_drewN HO_0.out nd)
                    replace HO_1 := Aside0.mk (Kd.V_drewN HO_1.out nd)
                    replace HO_7 := Aside0.mk (Kd.N_drewN HO_7.out nd)
                    replace HL371_0 := Aside0.mk (Kd.V_drewN HL371_0.out nd)
                    replace HR371_0 := Aside0.mk (Kd.C_drewN HR371_0.out nd)
                    replace HB := Aside0.mk (pw_below_drewN HB.out nd)
                    generalize wr.drewN nd = wr0_ at HO_0 HO_1 HO_7 HL371_0 HR371_0 HB ⊢
                    have n0_ := Aside0.mk (Kd.V_drew HO_0.out)
                    have n1_ := Aside0.mk (Kd.V_drew HO_1.out)
                    have n2_ := Aside0.mk (Kd.N_drew HO_7.out)
                    have n3_ := Aside0.mk (Kd.V_drew HL371_0.out)
                    have n4_ := Aside0.mk (Kd.C_drew HR371_0.out)
                    have n5_ := Aside0.mk (below_drew1 HB.out)
                    clear HO_0
                    clear HO_1
                    clear HO_7
                    clear HL371_0
                    clear HR371_0
                    clear HB
                    have HO_0 := n0_
                    have HO_1 := n1_
                    have HO_7 := n2_
                    have HL371_0 := n3_
                    have HR371_0 := n4_
                    have HB := n5_
                    clear n0_ n1_ n2_ n3_ n4_ n5_
                    refine start_ (n := 28) (S := fun w' => True) (ds := []) #[false, false, false, false, false, false, false, false, false, false, false, false, false, false, false, false, false, false, false, false, false, false, false, false, false, false, false, false] (by kernel_rfl) rfl rfl trivial (fun hHeld => ?_); refine with_tabW coppicelaw9_CutBranchesAlways.tab11 coppicelaw9_CutBranchesAlways.bits11 (fun HT_ HW_ => ?_)
                    generalize wr0_.drew = w28 at HO_0 HO_1 HO_7 HL371_0 HR371_0 HB hHeld ⊢
                    refine pure_ (i := 0) (N := some 42) (v := ?_) (a' := ?_) #[true, false, false, false, false, false, false, false, false, false, false, false, false, false, false, false, false, false, false, false, false, false, false, false, false, false, false, false] rfl rfl (any_of HT_.out (by kernel_rfl)) (fun _ _ _ h => h) (Or.inl ⟨by rfl, ?_⟩) ?_ ?_
                    rotate_left
                    · intro w'
                      go_simp
                      with_reducible rfl
                    rotate_left
                    · simp only [Act.put, List.setIfInBounds_toArray, List.set_cons_zero, List.set_cons_succ, i64_w, i32_w]
                      rfl
                    refine pure_ (i := 1) (N := some 43) (v := ?_) (a' := ?_) #[true, true, false, false, false, false, false, false, false, false, false, false, false, false, false, false, false, false, false, false, false, false, false, false, false, false, false, false] rfl rfl (any_of HT_.out (by kernel_rfl)) (fun _ _ _ h => h) (Or.inl ⟨by rfl, ?_⟩) ?_ ?_
                    rotate_left
                    · intro w'
                      go_simp
                      with_reducible rfl
                    rotate_left
                    · simp only [Act.put, List.setIfInBounds_toArray, List.set_cons_zero, List.set_cons_succ, i64_w, i32_w]
                      rfl
                    refine pure_ (i := 2) (N := some 44) (v := ?_) (a' := ?_) #[true, true, true, false, false, false, false, false, false, false, false, false, false, false, false, false, false, false, false, false, false, false, false, false, false, false, false, false] rfl rfl (any_of HT_.out (by kernel_rfl)) (fun _ _ _ h => h) (Or.inl ⟨by rfl, ?_⟩) ?_ ?_
                    rotate_left
                    · intro w'
                      go_simp
                      with_reducible rfl
                    rotate_left
                    · simp only [Act.put, List.setIfInBounds_toArray, List.set_cons_zero, List.set_cons_succ, i64_w, i32_w]
                      rfl
                    refine pure_ (i := 3) (N := some 45) (v := undef) (a' := ?_) #[true, true, true, true, false, false, false, false, false, false, false, false, false, false, false, false, false, false, false, false, false, false, false, false, false, false, false, false] rfl rfl (any_of HT_.out (by kernel_rfl)) (fun _ _ _ h => h) (Or.inr ⟨by rfl, rfl⟩) ?_ ?_
                    rotate_left
                    · simp only [Act.put, List.setIfInBounds_toArray, List.set_cons_zero, List.set_cons_succ, i64_w, i32_w]
                      rfl
                    refine pure_ (i := 4) (N := some 46) (v := undef) (a' := ?_) #[true, true, true, true, true, false, false, false, false, false, false, false, false, false, false, false, false, false, false, false, false, false, false, false, false, false, false, false] rfl rfl (any_of HT_.out (by kernel_rfl)) (fun _ _ _ h => h) (Or.inr ⟨by rfl, rfl⟩) ?_ ?_
                    rotate_left
                    · simp only [Act.put, List.setIfInBounds_toArray, List.set_cons_zero, List.set_cons_succ, i64_w, i32_w]
                      rfl
                    refine pure_ (i := 5) (N := some 47) (v := undef) (a' := ?_) #[true, true, true, true, true, true, false, false, false, false, false, false, false, false, false, false, false, false, false, false, false, false, false, false, false, false, false, false] rfl rfl (any_of HT_.out (by kernel_rfl)) (fun _ _ _ h => h) (Or.inr ⟨by rfl, rfl⟩) ?_ ?_
                    rotate_left
                    · simp only [Act.put, List.setIfInBounds_toArray, List.set_cons_zero, List.set_cons_succ, i64_w, i32_w]
                      rfl
                    refine pure_ (i := 6) (N := some 48) (v := undef) (a' := ?_) #[true, true, true, true, true, true, true, false, false, false, false, false, false, false, false, false, false, false, false, false, false, false, false, false, false, false, false, false] rfl rfl (any_of HT_.out (by kernel_rfl)) (fun _ _ _ h => h) (Or.inr ⟨by rfl, rfl⟩) ?_ ?_
                    rotate_left
                    · simp only [Act.put, List.setIfInBounds_toArray, List.set_cons_zero, List.set_cons_succ, i64_w, i32_w]
                      rfl
                    refine pure_ (i := 7) (N := some 49) (v := undef) (a' := ?_) #[true, true, true, true, true, true, true, true, false, false, false, false, false, false, false, false, false, false, false, false, false, false, false, false, false, false, false, false] rfl rfl (any_of HT_.out (by kernel_rfl)) (fun _ _ _ h => h) (Or.inr ⟨by rfl, rfl⟩) ?_ ?_
                    rotate_left
                    · simp only [Act.put, List.setIfInBounds_toArray, List.set_cons_zero, List.set_cons_succ, i64_w, i32_w]
                      rfl
                    refine pure_ (i := 8) (N := some 50) (v := undef) (a' := ?_) #[true, true, true, true, true, true, true, true, true, false, false, false, false, false, false, false, false, false, false, false, false, false, false, false, false, false, false, false] rfl rfl (any_of HT_.out (by kernel_rfl)) (fun _ _ _ h => h) (Or.inr ⟨by rfl, rfl⟩) ?_ ?_
                    rotate_left
                    · simp only [Act.put, List.setIfInBounds_toArray, List.set_cons_zero, List.set_cons_succ, i64_w, i32_w]
                      rfl
                    refine pure_ (i := 9) (N := some 51) (v := undef) (a' := ?_) #[true, true, true, true, true, true, true, true, true, true, false, false, false, false, false, false, false, false, false, false, false, false, false, false, false, false, false, false] rfl rfl (any_of HT_.out (by kernel_rfl)) (fun _ _ _ h => h) (Or.inr ⟨by rfl, rfl⟩) ?_ ?_
                    rotate_left
                    · simp only [Act.put, List.setIfInBounds_toArray, List.set_cons_zero, List.set_cons_succ, i64_w, i32_w]
                      rfl
                    refine pure_ (i := 10) (N := some 52) (v := undef) (a' := ?_) #[true, true, true, true, true, true, true, true, true, true, true, false, false, false, false, false, false, false, false, false, false, false, false, false, false, false, false, false] rfl rfl (any_of HT_.out (by kernel_rfl)) (fun _ _ _ h => h) (Or.inr ⟨by rfl, rfl⟩) ?_ ?_
                    rotate_left
                    · simp only [Act.put, List.setIfInBounds_toArray, List.set_cons_zero, List.set_cons_succ, i64_w, i32_w]
                      rfl
                    refine pure_ (i := 11) (N := some 53) (v := undef) (a' := ?_) #[true, true, true, true, true, true, true, true, true, true, true, true, false, false, false, false, false, false, false, false, false, false, false, false, false, false, false, false] rfl rfl (any_of HT_.out (by kernel_rfl)) (fun _ _ _ h => h) (Or.inr ⟨by rfl, rfl⟩) ?_ ?_
                    rotate_left
                    · simp only [Act.put, List.setIfInBounds_toArray, List.set_cons_zero, List.set_cons_succ, i64_w, i32_w]
                      rfl
                    refine pure_ (i := 12) (N := some 54) (v := undef) (a' := ?_) #[true, true, true, true, true, true, true, true, true, true, true, true, true, false, false, false, false, false, false, false, false, false, false, false, false, false, false, false] rfl rfl (any_of HT_.out (by kernel_rfl)) (fun _ _ _ h => h) (Or.inr ⟨by rfl, rfl⟩) ?_ ?_
                    rotate_left
                    · simp only [Act.put, List.setIfInBounds_toArray, List.set_cons_zero, List.set_cons_succ, i64_w, i32_w]
                      rfl
                    refine pure_ (i := 13) (N := some 55) (v := undef) (a' := ?_) #[true, true, true, true, true, true, true, true, true, true, true, true, true, true, false, false, false, false, false, false, false, false, false, false, false, false, false, false] rfl rfl (any_of HT_.out (by kernel_rfl)) (fun _ _ _ h => h) (Or.inr ⟨by rfl, rfl⟩) ?_ ?_
                    rotate_left
                    · simp only [Act.put, List.setIfInBounds_toArray, List.set_cons_zero, List.set_cons_succ, i64_w, i32_w]
                      rfl
                    refine pure_ (i := 14) (N := some 56) (v := undef) (a' := ?_) #[true, true, true, true, true, true, true, true, true, true, true, true, true, true, true, false, false, false, false, false, false, false, false, false, false, false, false, false] rfl rfl (any_of HT_.out (by kernel_rfl)) (fun _ _ _ h => h) (Or.inr ⟨by rfl, rfl⟩) ?_ ?_
                    rotate_left
                    · simp only [Act.put, List.setIfInBounds_toArray, List.set_cons_zero, List.set_cons_succ, i64_w, i32_w]
                      rfl
                    refine pure_ (i := 15) (N := some 57) (v := undef) (a' := ?_) #[true, true, true, true, true, true, true, true, true, true, true, true, true, true, true, true, false, false, false, false, false, false, false, false, false, false, false, false] rfl rfl (any_of HT_.out (by kernel_rfl)) (fun _ _ _ h => h) (Or.inr ⟨by rfl, rfl⟩) ?_ ?_
                    rotate_left
                    · simp only [Act.put, List.setIfInBounds_toArray, List.set_cons_zero, List.set_cons_succ, i64_w, i32_w]
                      rfl
                    refine pure_ (i := 16) (N := some 58) (v := undef) (a' := ?_) #[true, true, true, true, true, true, true, true, true, true, true, true, true, true, true, true, true, false, false, false, false, false, false, false, false, false, false, false] rfl rfl (any_of HT_.out (by kernel_rfl)) (fun _ _ _ h => h) (Or.inr ⟨by rfl, rfl⟩) ?_ ?_
                    rotate_left
                    · simp only [Act.put, List.setIfInBounds_toArray, List.set_cons_zero, List.set_cons_succ, i64_w, i32_w]
                      rfl
                    refine pure_ (i := 17) (N := some 59) (v := undef) (a' := ?_) #[true, true, true, true, true, true, true, true, true, true, true, true, true, true, true, true, true, true, false, false, false, false, false, false, false, false, false, false] rfl rfl (any_of HT_.out (by kernel_rfl)) (fun _ _ _ h => h) (Or.inr ⟨by rfl, rfl⟩) ?_ ?_
                    rotate_left
                    · simp only [Act.put, List.setIfInBounds_toArray, List.set_cons_zero, List.set_cons_succ, i64_w, i32_w]
                      rfl
                    refine pure_ (i := 18) (N := some 60) (v := ?_) (a' := ?_) #[true, true, true, true, true, true, true, true, true, true, true, true, true, true, true, true, true, true, true, false, false, false, false, false, false, false, false, false] rfl rfl (any_of HT_.out (by kernel_rfl)) (fun _ _ _ h => h) (Or.inl ⟨by rfl, ?_⟩) ?_ ?_
                    rotate_left
                    · intro w'
                      go_simp
                      with_reducible rfl
                    rotate_left
                    · simp only [Act.put, List.setIfInBounds_toArray, List.set_cons_zero, List.set_cons_succ, i64_w, i32_w]
                      rfl
                    refine pure_ (i := 19) (N := some 61) (v := ?_) (a' := ?_) #[true, true, true, true, true, true, true, true, true, true, true, true, true, true, true, true, true, true, true, true, false, false, false, false, false, false, false, false] rfl rfl (any_of HT_.out (by kernel_rfl)) (fun _ _ _ h => h) (Or.inl ⟨by rfl, ?_⟩) ?_ ?_
                    rotate_left
                    · intro w'
                      go_simp
                      with_reducible rfl
                    rotate_left
                    · simp only [Act.put, List.setIfInBounds_toArray, List.set_cons_zero, List.set_cons_succ, i64_w, i32_w]
                      rfl
                    refine pure_ (i := 20) (N := some 62) (v := undef) (a' := ?_) #[true, true, true, true, true, true, true, true, true, true, true, true, true, true, true, true, true, true, true, true, true, false, false, false, false, false, false, false] rfl rfl (any_of HT_.out (by kernel_rfl)) (fun _ _ _ h => h) (Or.inr ⟨by rfl, rfl⟩) ?_ ?_
                    rotate_left
                    · simp only [Act.put, List.setIfInBounds_toArray, List.set_cons_zero, List.set_cons_succ, i64_w, i32_w]
                      rfl
                    refine pure_ (i := 21) (N := some 63) (v := undef) (a' := ?_) #[true, true, true, true, true, true, true, true, true, true, true, true, true, true, true, true, true, true, true, true, true, true, false, false, false, false, false, false] rfl rfl (any_of HT_.out (by kernel_rfl)) (fun _ _ _ h => h) (Or.inr ⟨by rfl, rfl⟩) ?_ ?_
                    rotate_left
                    · simp only [Act.put, List.setIfInBounds_toArray, List.set_cons_zero, List.set_cons_succ, i64_w, i32_w]
                      rfl
                    refine pure_ (i := 22) (N := some 64) (v := undef) (a' := ?_) #[true, true, true, true, true, true, true, true, true, true, true, true, true, true, true, true, true, true, true, true, true, true, true, false, false, false, false, false] rfl rfl (any_of HT_.out (by kernel_rfl)) (fun _ _ _ h => h) (Or.inr ⟨by rfl, rfl⟩) ?_ ?_
                    rotate_left
                    · simp only [Act.put, List.setIfInBounds_toArray, List.set_cons_zero, List.set_cons_succ, i64_w, i32_w]
                      rfl
                    refine pure_ (i := 23) (N := some 65) (v := undef) (a' := ?_) #[true, true, true, true, true, true, true, true, true, true, true, true, true, true, true, true, true, true, true, true, true, true, true, true, false, false, false, false] rfl rfl (any_of HT_.out (by kernel_rfl)) (fun _ _ _ h => h) (Or.inr ⟨by rfl, rfl⟩) ?_ ?_
                    rotate_left
                    · simp only [Act.put, List.setIfInBounds_toArray, List.set_cons_zero, List.set_cons_succ, i64_w, i32_w]
                      rfl
                    refine pure_ (i := 24) (N := some 66) (v := undef) (a' := ?_) #[true, true, true, true, true, true, true, true, true, true, true, true, true, true, true, true, true, true, true, true, true, true, true, true, true, false, false, false] rfl rfl (any_of HT_.out (by kernel_rfl)) (fun _ _ _ h => h) (Or.inr ⟨by rfl, rfl⟩) ?_ ?_
                    rotate_left
                    · simp only [Act.put, List.setIfInBounds_toArray, List.set_cons_zero, List.set_cons_succ, i64_w, i32_w]
                      rfl
                    refine pure_ (i := 25) (N := some 67) (v := undef) (a' := ?_) #[true, true, true, true, true, true, true, true, true, true, true, true, true, true, true, true, true, true, true, true, true, true, true, true, true, true, false, false] rfl rfl (any_of HT_.out (by kernel_rfl)) (fun _ _ _ h => h) (Or.inr ⟨by rfl, rfl⟩) ?_ ?_
                    rotate_left
                    · simp only [Act.put, List.setIfInBounds_toArray, List.set_cons_zero, List.set_cons_succ, i64_w, i32_w]
                      rfl
                    refine pure_ (i := 26) (N := some 68) (v := undef) (a' := ?_) #[true, true, true, true, true, true, true, true, true, true, true, true, true, true, true, true, true, true, true, true, true, true, true, true, true, true, true, false] rfl rfl (any_of HT_.out (by kernel_rfl)) (fun _ _ _ h => h) (Or.inr ⟨by rfl, rfl⟩) ?_ ?_
                    rotate_left
                    · simp only [Act.put, List.setIfInBounds_toArray, List.set_cons_zero, List.set_cons_succ, i64_w, i32_w]
                      rfl
                    refine pure_ (i := 27) (N := some 69) (v := ?_) (a' := ?_) #[true, true, true, true, true, true, true, true, true, true, true, true, true, true, true, true, true, true, true, true, true, true, true, true, true, true, true, true] rfl rfl (any_of HT_.out (by kernel_rfl)) (fun _ _ _ h => h) (Or.inl ⟨by rfl, ?_⟩) ?_ ?_
                    rotate_left
                    · intro w'
                      go_simp
                      with_reducible rfl
                    rotate_left
                    · simp only [Act.put, List.setIfInBounds_toArray, List.set_cons_zero, List.set_cons_succ, i64_w, i32_w]
                      rfl
                    refine done_ (done_of HT_.out (by kernel_rfl)) ?_
                    try go_wp2
                    go_meet
                    case rel => exact ⟨_, (true), (by first | rfl | (simp; done) | (simp [*]; done)), H', ⟨by have := HJ4.out; have := HK2.out; first | omega | exact Nat.le_refl _⟩, ⟨by (with_reducible repeat (first | apply Kd.V_alloc | apply Kd.V_drewN | apply Kd.V_drew)); exact HO_0.out⟩, ⟨by (with_reducible repeat (first | apply Kd.V_alloc | apply Kd.V_drewN | apply Kd.V_drew)); exact HO_1.out⟩, ⟨by (with_reducible repeat (first | apply Kd.N_alloc | apply Kd.N_drewN | apply Kd.N_drew)); exact HO_7.out⟩, ⟨by repeat (first | (with_reducible exact HR371_0.out) | (with_reducible refine Kd.C_alloc ?_ _) | (with_reducible refine Kd.C_drewN ?_ _) | (with_reducible refine Kd.C_drew ?_) | exact HR371_0.out)⟩, ⟨by repeat (first | (with_reducible first | exact HB.out | apply below_alloc | apply pw_below_drewN | apply below_drew1) | exact HB.out)⟩⟩
                case rest =>
                  clear HC15
                  try clear c1
                  try clear c2
                  try clear p2
                  try clear c3
                  try clear p3
                  try clear q3
                  try clear hx3
                  try clear c16
                  try clear c17
                  try clear c17b0
                  try clear c19
                  try clear c20
                  try clear hx378_0
                  try clear p378
                  try clear q378
                  obtain ⟨kq, x69_14, rfl, HA, HJ14, HO_0, HO_1, HO_7, HR371_0, HB⟩ := hcut
                  cases kq with
                  | zero => exact absurd HA.out (by simp [coppicelaw9_CutBranchesAlways.j2])
                  | succ kj14 =>
                    have H := HA.out
                    clear HA
                    simp only [coppicelaw9_CutBranchesAlways.j2] at H
                    by_cases c29 : x69_14 = true
                    · subst c29
                      have H1 : (some t368) = some r := by rw [if_pos rfl] at H; exact H
                      clear H
                      have H := H1
                      clear H1
                      obtain rfl := Option.some.inj H
                      go_wp2
                      go_ret
                      exact ⟨by first | rfl | (simp [errW_none, errW_some] <;> rfl) | (simp [*, errW_none, errW_some] <;> rfl), by repeat (first | (with_reducible first | exact HB.out | apply below_alloc | apply pw_below_drewN | apply below_drew1) | exact HB.out)⟩
                    · replace c29 := Bool.eq_false_iff.mpr c29
                      subst c29
                      have H1 : (if x8_2 = true then (if 0 ≤ x9_2 then (if x9_2 < (l0.length : Int) then (if x7_2.length < 5864062014805 then (coppicelaw9_CutBranchesAlways.l0 kj14 l0 l1 t368 (x7_2 ++ [rd_L1 l0 x9_2]) x8_2 (wrap64 (x9_2 + 1))) else (none)) else (none)) else (none)) else (if 0 ≤ x9_2 then (if x9_2 < (l0.length : Int) then ((coppiceref3_Compare.f kj14 l1 (rd_L1 l0 x9_2)).bind fun t385 => (if t385 < 0 then (if x7_2.length < 5864062014805 then ((some (x7_2 ++ [l1] : List (List Int))).bind fun y386 => (if y386.length < 5864062014805 then (coppicelaw9_CutBranchesAlways.l0 kj14 l0 l1 t368 (y386 ++ [rd_L1 l0 x9_2]) true (wrap64 (x9_2 + 1))) else (none))) else (none)) else (if x7_2.length < 5864062014805 then (coppicelaw9_CutBranchesAlways.l0 kj14 l0 l1 t368 (x7_2 ++ [rd_L1 l0 x9_2]) x8_2 (wrap64 (x9_2 + 1))) else (none)))) else (none)) else (none))) = some r := by rw [if_neg (show ¬ (false = true) by decide)] at H; exact H
                      clear H
                      have H := H1
                      clear H1
                      by_cases c30 : x8_2 = true
                      · subst c30
                        have H1 : (if 0 ≤ x9_2 then (if x9_2 < (l0.length : Int) then (if x7_2.length < 5864062014805 then (coppicelaw9_CutBranchesAlways.l0 kj14 l0 l1 t368 (x7_2 ++ [rd_L1 l0 x9_2]) true (wrap64 (x9_2 + 1))) else (none)) else (none)) else (none)) = some r := by rw [if_pos rfl] at H; exact H
                        clear H
                        have H := H1
                        clear H1
                        by_cases c31 : 0 ≤ x9_2
                        · rw [if_pos c31] at H
                          have c31b0 : decide (0 ≤ x9_2) = true := decide_eq_true c31
                          clear c31
                          by_cases c32 : x9_2 < (l0.length : Int)
                          · rw [if_pos c32] at H
                            have c32b0 : decide (x9_2 < (l0.length : Int)) = true := decide_eq_true c32
                            clear c32
                            by_cases c33 : x7_2.length < 5864062014805
                            · rw [if_pos c33] at H
                              have LMc33 := Aside0.mk c33
                              clear c33
                              obtain ⟨y381, hy381⟩ : ∃ y_ : List (List Int), y_ = (x7_2 ++ [rd_L1 l0 x9_2]) := ⟨_, rfl⟩
                              replace H : (coppicelaw9_CutBranchesAlways.l0 kj14 l0 l1 t368 y381 true (wrap64 (x9_2 + 1))) = some r := by first | (rw [hy381]; with_reducible exact H) | (have H2_ := (Option.bind_some _ _).symm.trans H; rw [hy381]; with_reducible exact H2_) | (have H2_ := (Option.bind_some _ _).symm.trans H; with_reducible exact H2_) | with_reducible exact H | (rw [hy381]; exact H) | exact H
                              have Ny381 := Aside0.mk hy381
                              clear hy381
                              have H' := Aside0.mk H
                              clear H
                              have p380 : 0 ≤ (x9_2 : Int) := of_decide_eq_true (by first | (with_reducible assumption) | assumption)
                              have q380 : x9_2 < (l0.length : Int) := of_decide_eq_true (by first | (with_reducible assumption) | assumption)
                              obtain ⟨ad380, A380_0, c380_0, e380, hx380_0, hl380_0, hi380_0⟩ := at_L1 (Kd.V_reads' HO_0.out).2.2 x9_2 p380 q380
                              obtain rfl : ad371 = ad380 := (by injection e380)
                              obtain ⟨ce380, hce380, hMe380, hcc380⟩ := Kd.V_get HO_0.out [] x9_2 p380 (by first | exact q380 | exact of_decide_eq_true (by first | (with_reducible assumption) | assumption) | (have e_ := (Kd.V_reads' HO_0.out).1; omega))
                              obtain ⟨ua380_0, uc380_0, rfl, ul380_0, ge380_0⟩ := Kd.FK_slice_open hMe380
                              have hv380_0 := hcc380 0 _ rfl
                              rw [Nat.add_zero, show ((Kd.slice 5 (Kd.int .u8))).sz = 1 from rfl, Nat.mul_one] at hv380_0
                              replace hv380_0 := Option.some.inj (hv380_0.symm.trans hx380_0)
                              injection hv380_0 with hva_ hvn_ hvc_
                              rw [hva_] at ge380_0
                              rw [hvc_] at ul380_0
                              have HL380_0 := Aside0.mk (show Kd.V (Kd.int .u8) 5 _ w.heap.size _ _ (rd_L1 l0 x9_2) from Kd.V_mk ul380_0 ge380_0)
                              clear hva_ hvn_ hvc_ ge380_0 ul380_0
                              clear hcc380 hce380
                              have HR380_0 := Aside0.mk hi380_0
                              have HC380_0 := Aside0.mk hl380_0
                              clear hi380_0 hl380_0
                              replace p380 := eq_true p380
                              replace q380 := eq_true q380
                              go_wp2_with (first | ((with_reducible refine gate_builtin (b := .append) (xs := #[.tmp 86, .tmp 91]) rfl ?_); (try (refine gate_guard (by rfl) ?_; dsimp only)); at_builtin; refine Kd.N_append (Kd.slice 5 (Kd.int .u8)) (w0 := w) w.heap.size rfl (.tmp 86) (.tmp 91) 28 32 (.slice none 0 0) 24 rfl Try.underlying28 info32 rfl (by decide) (by omega) u7 x7_2 (rd_L1 l0 x9_2) [.slice A380_0 (rd_L1 l0 x9_2).length c380_0] (fun k_ => ((P0_ k_ ∨ P1_ k_) ∨ w.heap.size ≤ k_)) (fun k_ => ((fun k_ => ((P0_ k_ ∨ P1_ k_) ∨ w.heap.size ≤ k_))) k_ ∧ some k_ ≠ (u7 : Value).ownBlock) rfl rfl ?aP (fun _ hk => hk) ?aF ?aO ?aB ?aS ?aL ?_; (case aP => exact (Kd.FK_slice_mk (Kd.V_reads' (Kd.V_mono (ok' := (fun k_ => ((fun k_ => ((P0_ k_ ∨ P1_ k_) ∨ w.heap.size ≤ k_))) k_ ∧ some k_ ≠ (u7 : Value).ownBlock)) (HL380_0.out) (fun k_ hk => ⟨hk.1, hk.2⟩))).2.1 (Kd.V_F (Kd.V_mono (ok' := (fun k_ => ((fun k_ => ((P0_ k_ ∨ P1_ k_) ∨ w.heap.size ≤ k_))) k_ ∧ some k_ ≠ (u7 : Value).ownBlock)) (HL380_0.out) (fun k_ hk => ⟨hk.1, hk.2⟩))))); (case aB => exact (by repeat (first | (with_reducible first | exact HB.out | apply below_alloc | apply pw_below_drewN | apply below_drew1) | exact HB.out))); (case aF => exact (fun k_ hk => (.inr (Nat.le_trans (below_size (by repeat (first | (with_reducible first | exact HB.out | apply below_alloc | apply pw_below_drewN | apply below_drew1) | exact HB.out))) hk)))); (case aO => exact (by (with_reducible repeat (first | apply Kd.N_alloc | apply Kd.N_drewN | apply Kd.N_drew)); exact HO_7.out)); (case aS => exact (below_size (by repeat (first | (with_reducible first | exact HB.out | apply below_alloc | apply pw_below_drewN | apply below_drew1) | exact HB.out)))); (case aL => have := LMc33.out; omega); intro v382 w34 ho hb hg hat; rw [← Ny381.out] at ho; have n0_ := Aside0.mk (Kd.V_afterv (ok := (fun k_ => ((P0_ k_ ∨ P1_ k_) ∨ w.heap.size ≤ k_))) (by (with_reducible repeat (first | apply Kd.V_alloc | apply Kd.V_drewN | apply Kd.V_drew)); exact HO_0.out) hg hat); have n1_ := Aside0.mk (Kd.V_afterv (ok := (fun k_ => ((P0_ k_ ∨ P1_ k_) ∨ w.heap.size ≤ k_))) (by (with_reducible repeat (first | apply Kd.V_alloc | apply Kd.V_drewN | apply Kd.V_drew)); exact HO_1.out) hg hat); have n2_ := Aside0.mk (Kd.V_afterv (ok := (fun k_ => ((P0_ k_ ∨ P1_ k_) ∨ w.heap.size ≤ k_))) (by (with_reducible repeat (first | apply Kd.V_alloc | apply Kd.V_drewN | apply Kd.V_drew)); exact HL380_0.out) hg hat); have n3_ := Aside0.mk (hb); have n4_ := Aside0.mk (ho); clear HO_0; clear HO_1; clear HL380_0; clear HB; clear HO_7; have HO_0 := n0_; have HO_1 := n1_; have HL380_0 := n2_; have HB := n3_; have HO383 := n4_; clear n0_ n1_ n2_ n3_ n4_; clear ho hb hg hat))
                              go_roundg kj14
                              case measure => have := HJ4.out; have := HK2.out; have := HJ14.out; omega
                              case rel => exact ⟨(y381), (true), (wrap64 (x9_2 + 1)), (by first | rfl | (simp; done) | (simp [*]; done)), (by first | rfl | (simp; done) | (simp [*]; done)), H', ⟨by have := HJ4.out; have := HK2.out; have := HJ14.out; omega⟩, ⟨by (with_reducible repeat (first | apply Kd.V_alloc | apply Kd.V_drewN | apply Kd.V_drew)); exact HO_0.out⟩, ⟨by (with_reducible repeat (first | apply Kd.V_alloc | apply Kd.V_drewN | apply Kd.V_drew)); exact HO_1.out⟩, ⟨by (with_reducible repeat (first | apply Kd.N_alloc | apply Kd.N_drewN | apply Kd.N_drew)); exact HO383.out⟩, ⟨by repeat (first | (with_reducible first | exact HB.out | apply below_alloc | apply pw_below_drewN | apply below_drew1) | exact HB.out)⟩⟩
                            · rw [if_neg c33] at H
                              exact absurd H (by simp)
                          · rw [if_neg c32] at H
                            exact absurd H (by simp)
                        · rw [if_neg c31] at H
                          exact absurd H (by simp)
                      · replace c30 := Bool.eq_false_iff.mpr c30
                        subst c30
                        have H1 : (if 0 ≤ x9_2 then (if x9_2 < (l0.length : Int) then ((coppiceref3_Compare.f kj14 l1 (rd_L1 l0 x9_2)).bind fun t385 => (if t385 < 0 then (if x7_2.length < 5864062014805 then ((some (x7_2 ++ [l1] : List (List Int))).bind fun y386 => (if y386.length < 5864062014805 then (coppicelaw9_CutBranchesAlways.l0 kj14 l0 l1 t368 (y386 ++ [rd_L1 l0 x9_2]) true (wrap64 (x9_2 + 1))) else (none))) else (none)) else (if x7_2.length < 5864062014805 then (coppicelaw9_CutBranchesAlways.l0 kj14 l0 l1 t368 (x7_2 ++ [rd_L1 l0 x9_2]) false (wrap64 (x9_2 + 1))) else (none)))) else (none)) else (none)) = some r := by rw [if_neg (show ¬ (false = true) by decide)] at H; exact H
                        clear H
                        have H := H1
                        clear H1
                        by_cases c35 : 0 ≤ x9_2
                        · rw [if_pos c35] at H
                          have c35b0 : decide (0 ≤ x9_2) = true := decide_eq_true c35
                          clear c35
                          by_cases c36 : x9_2 < (l0.length : Int)
                          · rw [if_pos c36] at H
                            have c36b0 : decide (x9_2 < (l0.length : Int)) = true := decide_eq_true c36
                            clear c36
                            replace H := Option.bind_eq_some_iff.mp H
                            obtain ⟨t385, A370, H⟩ := H
                            replace H : (if t385 < 0 then (if x7_2.length < 5864062014805 then ((some (x7_2 ++ [l1] : List (List Int))).bind fun y386 => (if y386.length < 5864062014805 then (coppicelaw9_CutBranchesAlways.l0 kj14 l0 l1 t368 (y386 ++ [rd_L1 l0 x9_2]) true (wrap64 (x9_2 + 1))) else (none))) else (none)) else (if x7_2.length < 5864062014805 then (coppicelaw9_CutBranchesAlways.l0 kj14 l0 l1 t368 (x7_2 ++ [rd_L1 l0 x9_2]) false (wrap64 (x9_2 + 1))) else (none))) = some r := H
                            have A37 := Aside0.mk A370
                            clear A370
                            by_cases c38 : t385 < 0
                            · rw [if_pos c38] at H
                              have c38b0 : decide (t385 < 0) = true := decide_eq_true c38
                              clear c38
                              by_cases c39 : x7_2.length < 5864062014805
                              · rw [if_pos c39] at H
                                have LMc39 := Aside0.mk c39
                                clear c39
                                obtain ⟨y386, hy386⟩ : ∃ y_ : List (List Int), y_ = (x7_2 ++ [l1]) := ⟨_, rfl⟩
                                replace H : (if y386.length < 5864062014805 then (coppicelaw9_CutBranchesAlways.l0 kj14 l0 l1 t368 (y386 ++ [rd_L1 l0 x9_2]) true (wrap64 (x9_2 + 1))) else (none)) = some r := by first | (rw [hy386]; with_reducible exact H) | (have H2_ := (Option.bind_some _ _).symm.trans H; rw [hy386]; with_reducible exact H2_) | (have H2_ := (Option.bind_some _ _).symm.trans H; with_reducible exact H2_) | with_reducible exact H | (rw [hy386]; exact H) | exact H
                                have Ny386 := Aside0.mk hy386
                                clear hy386
                                by_cases c40 : y386.length < 5864062014805
                                · rw [if_pos c40] at H
                                  have LMc40 := Aside0.mk c40
                                  clear c40
                                  obtain ⟨y390, hy390⟩ : ∃ y_ : List (List Int), y_ = (y386 ++ [rd_L1 l0 x9_2]) := ⟨_, rfl⟩
                                  replace H : (coppicelaw9_CutBranchesAlways.l0 kj14 l0 l1 t368 y390 true (wrap64 (x9_2 + 1))) = some r := by first | (rw [hy390]; with_reducible exact H) | (have H2_ := (Option.bind_some _ _).symm.trans H; rw [hy390]; with_reducible exact H2_) | (have H2_ := (Option.bind_some _ _).symm.trans H; with_reducible exact H2_) | with_reducible exact H | (rw [hy390]; exact H) | exact H
                                  have Ny390 := Aside0.mk hy390
                                  clear hy390
                                  have H' := Aside0.mk H
                                  clear H
                                  have p384 : 0 ≤ (x9_2 : Int) := of_decide_eq_true (by first | (with_reducible assumption) | assumption)
                                  have q384 : x9_2 < (l0.length : Int) := of_decide_eq_true (by first | (with_reducible assumption) | assumption)
                                  obtain ⟨ad384, A384_0, c384_0, e384, hx384_0, hl384_0, hi384_0⟩ := at_L1 (Kd.V_reads' HO_0.out).2.2 x9_2 p384 q384
                                  obtain rfl : ad371 = ad384 := (by injection e384)
                                  obtain ⟨ce384, hce384, hMe384, hcc384⟩ := Kd.V_get HO_0.out [] x9_2 p384 (by first | exact q384 | exact of_decide_eq_true (by first | (with_reducible assumption) | assumption) | (have e_ := (Kd.V_reads' HO_0.out).1; omega))
                                  obtain ⟨ua384_0, uc384_0, rfl, ul384_0, ge384_0⟩ := Kd.FK_slice_open hMe384
                                  have hv384_0 := hcc384 0 _ rfl
                                  rw [Nat.add_zero, show ((Kd.slice 5 (Kd.int .u8))).sz = 1 from rfl, Nat.mul_one] at hv384_0
                                  replace hv384_0 := Option.some.inj (hv384_0.symm.trans hx384_0)
                                  injection hv384_0 with hva_ hvn_ hvc_
                                  rw [hva_] at ge384_0
                                  rw [hvc_] at ul384_0
                                  have HL384_0 := Aside0.mk (show Kd.V (Kd.int .u8) 5 _ w.heap.size _ _ (rd_L1 l0 x9_2) from Kd.V_mk ul384_0 ge384_0)
                                  clear hva_ hvn_ hvc_ ge384_0 ul384_0
                                  clear hcc384 hce384
                                  have HR384_0 := Aside0.mk hi384_0
                                  have HC384_0 := Aside0.mk hl384_0
                                  clear hi384_0 hl384_0
                                  replace p384 := eq_true p384
                                  replace q384 := eq_true q384
                                  go_wp2_with (first | (go_at_call 31; (with_reducible refine (coppiceref3_Compare.calls kj14 _ _ l1 _ _ (rd_L1 l0 x9_2) t385 _ ?side1 ?side2 ?side3 ?side4 A37.out).mono ?_); (case side1 => repeat (first | exact (Kd.V_reads' HO_1.out).2.2 | (with_reducible refine Kd.C_alloc ?_ _) | (with_reducible refine Kd.C_drewN ?_ _) | (with_reducible refine Kd.C_drew ?_))); (case side2 => exact (Kd.V_reads' HO_1.out).2.1); (case side3 => repeat (first | exact (by repeat (first | (with_reducible exact HR384_0.out) | (with_reducible refine Kd.C_alloc ?_ _) | (with_reducible refine Kd.C_drewN ?_ _) | (with_reducible refine Kd.C_drew ?_) | exact HR384_0.out)) | (with_reducible refine Kd.C_alloc ?_ _) | (with_reducible refine Kd.C_drewN ?_ _) | (with_reducible refine Kd.C_drew ?_))); (case side4 => exact HC384_0.out); rintro e w' ⟨rfl, ⟨nd, rfl⟩⟩) | ((with_reducible refine gate_builtin (b := .append) (xs := #[.tmp 82, .tmp 84]) rfl ?_); (try (refine gate_guard (by rfl) ?_; dsimp only)); at_builtin; refine Kd.N_append (Kd.slice 5 (Kd.int .u8)) (w0 := w) w.heap.size rfl (.tmp 82) (.tmp 84) 28 32 (.slice none 0 0) 24 rfl Try.underlying28 info32 rfl (by decide) (by omega) u7 x7_2 l1 [.slice A1 l1.length c1] (fun k_ => ((P0_ k_ ∨ P1_ k_) ∨ w.heap.size ≤ k_)) (fun k_ => ((fun k_ => ((P0_ k_ ∨ P1_ k_) ∨ w.heap.size ≤ k_))) k_ ∧ some k_ ≠ (u7 : Value).ownBlock) rfl rfl ?aP (fun _ hk => hk) ?aF ?aO ?aB ?aS ?aL ?_; (case aP => exact (Kd.FK_slice_mk (Kd.V_reads' (Kd.V_mono (ok' := (fun k_ => ((fun k_ => ((P0_ k_ ∨ P1_ k_) ∨ w.heap.size ≤ k_))) k_ ∧ some k_ ≠ (u7 : Value).ownBlock)) (HO_1.out) (fun k_ hk => ⟨hk.1, hk.2⟩))).2.1 (Kd.V_F (Kd.V_mono (ok' := (fun k_ => ((fun k_ => ((P0_ k_ ∨ P1_ k_) ∨ w.heap.size ≤ k_))) k_ ∧ some k_ ≠ (u7 : Value).ownBlock)) (ok := fun k_ => ((P0_ k_ ∨ P1_ k_) ∨ w.heap.size ≤ k_) ∧ some k_ ≠ (u7 : Value).ownBlock) (by (with_reducible repeat (first | apply Kd.V_alloc | apply Kd.V_drewN | apply Kd.V_drew)); exact HO_1.out) (fun k_ hk => ⟨hk.1, hk.2⟩))))); (case aB => exact (by repeat (first | (with_reducible first | exact HB.out | apply below_alloc | apply pw_below_drewN | apply below_drew1) | exact HB.out))); (case aF => exact (fun k_ hk => (.inr (Nat.le_trans (below_size (by repeat (first | (with_reducible first | exact HB.out | apply below_alloc | apply pw_below_drewN | apply below_drew1) | exact HB.out))) hk)))); (case aO => exact (by (with_reducible repeat (first | apply Kd.N_alloc | apply Kd.N_drewN | apply Kd.N_drew)); exact HO_7.out)); (case aS => exact (below_size (by repeat (first | (with_reducible first | exact HB.out | apply below_alloc | apply pw_below_drewN | apply below_drew1) | exact HB.out)))); (case aL => have := LMc39.out; omega); intro v387 w41 ho hb hg hat; rw [← Ny386.out] at ho; have n0_ := Aside0.mk (Kd.V_afterv (ok := (fun k_ => ((P0_ k_ ∨ P1_ k_) ∨ w.heap.size ≤ k_))) (by (with_reducible repeat (first | apply Kd.V_alloc | apply Kd.V_drewN | apply Kd.V_drew)); exact HO_0.out) hg hat); have n1_ := Aside0.mk (Kd.V_afterv (ok := (fun k_ => ((P0_ k_ ∨ P1_ k_) ∨ w.heap.size ≤ k_))) (by (with_reducible repeat (first | apply Kd.V_alloc | apply Kd.V_drewN | apply Kd.V_drew)); exact HO_1.out) hg hat); have n2_ := Aside0.mk (Kd.V_afterv (ok := (fun k_ => ((P0_ k_ ∨ P1_ k_) ∨ w.heap.size ≤ k_))) (by (with_reducible repeat (first | apply Kd.V_alloc | apply Kd.V_drewN | apply Kd.V_drew)); exact HL384_0.out) hg hat); have n3_ := Aside0.mk (hb); have n4_ := Aside0.mk (ho); clear HO_0; clear HO_1; clear HL384_0; clear HB; clear HO_7; have HO_0 := n0_; have HO_1 := n1_; have HL384_0 := n2_; have HB := n3_; have HO388 := n4_; clear n0_ n1_ n2_ n3_ n4_; clear ho hb hg hat; have p389 : 0 ≤ (x9_2 : Int) := of_decide_eq_true (by first | (with_reducible assumption) | assumption); have q389 : x9_2 < (l0.length : Int) := of_decide_eq_true (by first | (with_reducible assumption) | assumption); obtain ⟨ad389, A389_0, c389_0, e389, hx389_0, hl389_0, hi389_0⟩ := at_L1 (Kd.V_reads' HO_0.out).2.2 x9_2 p389 q389; obtain rfl : ad371 = ad389 := (by injection e389); obtain ⟨ce389, hce389, hMe389, hcc389⟩ := Kd.V_get HO_0.out [] x9_2 p389 (by first | exact q389 | exact of_decide_eq_true (by first | (with_reducible assumption) | assumption) | (have e_ := (Kd.V_reads' HO_0.out).1; omega)); obtain ⟨ua389_0, uc389_0, rfl, ul389_0, ge389_0⟩ := Kd.FK_slice_open hMe389; have hv389_0 := hcc389 0 _ rfl; rw [Nat.add_zero, show ((Kd.slice 5 (Kd.int .u8))).sz = 1 from rfl, Nat.mul_one] at hv389_0; replace hv389_0 := Option.some.inj (hv389_0.symm.trans hx389_0); injection hv389_0 with hva_ hvn_ hvc_; rw [hva_] at ge389_0; rw [hvc_] at ul389_0; have HL389_0 := Aside0.mk (show Kd.V (Kd.int .u8) 5 _ w.heap.size _ _ (rd_L1 l0 x9_2) from Kd.V_mk ul389_0 ge389_0); clear hva_ hvn_ hvc_ ge389_0 ul389_0; clear hcc389 hce389; have HR389_0 := Aside0.mk hi389_0; have HC389_0 := Aside0.mk hl389_0; clear hi389_0 hl389_0; replace p389 := eq_true p389; replace q389 := eq_true q389) | ((with_reducible refine gate_builtin (b := .append) (xs := #[.tmp 86, .tmp 91]) rfl ?_); (try (refine gate_guard (by rfl) ?_; dsimp only)); at_builtin; refine Kd.N_append (Kd.slice 5 (Kd.int .u8)) (w0 := w) w.heap.size rfl (.tmp 86) (.tmp 91) 28 32 (.slice none 0 0) 24 rfl Try.underlying28 info32 rfl (by decide) (by omega) v387 y386 (rd_L1 l0 x9_2) [.slice A389_0 (rd_L1 l0 x9_2).length c389_0] (fun k_ => ((P0_ k_ ∨ P1_ k_) ∨ w.heap.size ≤ k_)) (fun k_ => ((fun k_ => ((P0_ k_ ∨ P1_ k_) ∨ w.heap.size ≤ k_))) k_ ∧ some k_ ≠ (v387 : Value).ownBlock) rfl rfl ?aP (fun _ hk => hk) ?aF ?aO ?aB ?aS ?aL ?_; (case aP => exact (Kd.FK_slice_mk (Kd.V_reads' (Kd.V_mono (ok' := (fun k_ => ((fun k_ => ((P0_ k_ ∨ P1_ k_) ∨ w.heap.size ≤ k_))) k_ ∧ some k_ ≠ (v387 : Value).ownBlock)) (HL389_0.out) (fun k_ hk => ⟨hk.1, hk.2⟩))).2.1 (Kd.V_F (Kd.V_mono (ok' := (fun k_ => ((fun k_ => ((P0_ k_ ∨ P1_ k_) ∨ w.heap.size ≤ k_))) k_ ∧ some k_ ≠ (v387 : Value).ownBlock)) (HL389_0.out) (fun k_ hk => ⟨hk.1, hk.2⟩))))); (case aB => exact (by repeat (first | (with_reducible first | exact HB.out | apply below_alloc | apply pw_below_drewN | apply below_drew1) | exact HB.out))); (case aF => exact (fun k_ hk => (.inr (Nat.le_trans (below_size (by repeat (first | (with_reducible first | exact HB.out | apply below_alloc | apply pw_below_drewN | apply below_drew1) | exact HB.out))) hk)))); (case aO => exact (by (with_reducible repeat (first | apply Kd.N_alloc | apply Kd.N_drewN | apply Kd.N_drew)); exact HO388.out)); (case aS => exact (below_size (by repeat (first | (with_reducible first | exact HB.out | apply below_alloc | apply pw_below_drewN | apply below_drew1) | exact HB.out)))); (case aL => have := LMc40.out; omega); intro v391 w42 ho hb hg hat; rw [← Ny390.out] at ho; have n0_ := Aside0.mk (Kd.V_afterv (ok := (fun k_ => ((P0_ k_ ∨ P1_ k_) ∨ w.heap.size ≤ k_))) (by (with_reducible repeat (first | apply Kd.V_alloc | apply Kd.V_drewN | apply Kd.V_drew)); exact HO_0.out) hg hat); have n1_ := Aside0.mk (Kd.V_afterv (ok := (fun k_ => ((P0_ k_ ∨ P1_ k_) ∨ w.heap.size ≤ k_))) (by (with_reducible repeat (first | apply Kd.V_alloc | apply Kd.V_drewN | apply Kd.V_drew)); exact HO_1.out) hg hat); have n2_ := Aside0.mk (Kd.V_afterv (ok := (fun k_ => ((P0_ k_ ∨ P1_ k_) ∨ w.heap.size ≤ k_))) (by (with_reducible repeat (first | apply Kd.V_alloc | apply Kd.V_drewN | apply Kd.V_drew)); exact HL384_0.out) hg hat); have n3_ := Aside0.mk (Kd.V_afterv (ok := (fun k_ => ((P0_ k_ ∨ P1_ k_) ∨ w.heap.size ≤ k_))) (by (with_reducible repeat (first | apply Kd.V_alloc | apply Kd.V_drewN | apply Kd.V_drew)); exact HL389_0.out) hg hat); have n4_ := Aside0.mk (hb); have n5_ := Aside0.mk (ho); clear HO_0; clear HO_1; clear HL384_0; clear HL389_0; clear HB; clear HO388; have HO_0 := n0_; have HO_1 := n1_; have HL384_0 := n2_; have HL389_0 := n3_; have HB := n4_; have HO392 := n5_; clear n0_ n1_ n2_ n3_ n4_ n5_; clear ho hb hg hat))
                                  go_roundg kj14
                                  case measure => have := HJ4.out; have := HK2.out; have := HJ14.out; omega
                                  case rel => exact ⟨(y390), (true), (wrap64 (x9_2 + 1)), (by first | rfl | (simp; done) | (simp [*]; done)), (by first | rfl | (simp; done) | (simp [*]; done)), H', ⟨by have := HJ4.out; have := HK2.out; have := HJ14.out; omega⟩, ⟨by (with_reducible repeat (first | apply Kd.V_alloc | apply Kd.V_drewN | apply Kd.V_drew)); exact HO_0.out⟩, ⟨by (with_reducible repeat (first | apply Kd.V_alloc | apply Kd.V_drewN | apply Kd.V_drew)); exact HO_1.out⟩, ⟨by (with_reducible repeat (first | apply Kd.N_alloc | apply Kd.N_drewN | apply Kd.N_drew)); exact HO392.out⟩, ⟨by repeat (first | (with_reducible first | exact HB.out | apply below_alloc | apply pw_below_drewN | apply below_drew1) | exact HB.out)⟩⟩
                                · rw [if_neg c40] at H
                                  exact absurd H (by simp)
                              · rw [if_neg c39] at H
                                exact absurd H (by simp)
                            · rw [if_neg c38] at H
                              have c38b0 : decide (t385 < 0) = false := decide_eq_false c38
                              clear c38
                              by_cases c43 : x7_2.length < 5864062014805
                              · rw [if_pos c43] at H
                                have LMc43 := Aside0.mk c43
                                clear c43
                                obtain ⟨y394, hy394⟩ : ∃ y_ : List (List Int), y_ = (x7_2 ++ [rd_L1 l0 x9_2]) := ⟨_, rfl⟩
                                replace H : (coppicelaw9_CutBranchesAlways.l0 kj14 l0 l1 t368 y394 false (wrap64 (x9_2 + 1))) = some r := by first | (rw [hy394]; with_reducible exact H) | (have H2_ := (Option.bind_some _ _).symm.trans H; rw [hy394]; with_reducible exact H2_) | (have H2_ := (Option.bind_some _ _).symm.trans H; with_reducible exact H2_) | with_reducible exact H | (rw [hy394]; exact H) | exact H
                                have Ny394 := Aside0.mk hy394
                                clear hy394
                                have H' := Aside0.mk H
                                clear H
                                have p384 : 0 ≤ (x9_2 : Int) := of_decide_eq_true (by first | (with_reducible assumption) | assumption)
                                have q384 : x9_2 < (l0.length : Int) := of_decide_eq_true (by first | (with_reducible assumption) | assumption)
                                obtain ⟨ad384, A384_0, c384_0, e384, hx384_0, hl384_0, hi384_0⟩ := at_L1 (Kd.V_reads' HO_0.out).2.2 x9_2 p384 q384
                                obtain rfl : ad371 = ad384 := (by injection e384)
                                obtain ⟨ce384, hce384, hMe384, hcc384⟩ := Kd.V_get HO_0.out [] x9_2 p384 (by first | exact q384 | exact of_decide_eq_true (by first | (with_reducible assumption) | assumption) | (have e_ := (Kd.V_reads' HO_0.out).1; omega))
                                obtain ⟨ua384_0, uc384_0, rfl, ul384_0, ge384_0⟩ := Kd.FK_slice_open hMe384
                                have hv384_0 := hcc384 0 _ rfl
                                rw [Nat.add_zero, show ((Kd.slice 5 (Kd.int .u8))).sz = 1 from rfl, Nat.mul_one] at hv384_0
                                replace hv384_0 := Option.some.inj (hv384_0.symm.trans hx384_0)
                                injection hv384_0 with hva_ hvn_ hvc_
                                rw [hva_] at ge384_0
                                rw [hvc_] at ul384_0
                                have HL384_0 := Aside0.mk (show Kd.V (Kd.int .u8) 5 _ w.heap.size _ _ (rd_L1 l0 x9_2) from Kd.V_mk ul384_0 ge384_0)
                                clear hva_ hvn_ hvc_ ge384_0 ul384_0
                                clear hcc384 hce384
                                have HR384_0 := Aside0.mk hi384_0
                                have HC384_0 := Aside0.mk hl384_0
                                clear hi384_0 hl384_0
                                replace p384 := eq_true p384
                                replace q384 := eq_true q384
                                go_wp2_with (first | (go_at_call 31; (with_reducible refine (coppiceref3_Compare.calls kj14 _ _ l1 _ _ (rd_L1 l0 x9_2) t385 _ ?side1 ?side2 ?side3 ?side4 A37.out).mono ?_); (case side1 => repeat (first | exact (Kd.V_reads' HO_1.out).2.2 | (with_reducible refine Kd.C_alloc ?_ _) | (with_reducible refine Kd.C_drewN ?_ _) | (with_reducible refine Kd.C_drew ?_))); (case side2 => exact (Kd.V_reads' HO_1.out).2.1); (case side3 => repeat (first | exact (by repeat (first | (with_reducible exact HR384_0.out) | (with_reducible refine Kd.C_alloc ?_ _) | (with_reducible refine Kd.C_drewN ?_ _) | (with_reducible refine Kd.C_drew ?_) | exact HR384_0.out)) | (with_reducible refine Kd.C_alloc ?_ _) | (with_reducible refine Kd.C_drewN ?_ _) | (with_reducible refine Kd.C_drew ?_))); (case side4 => exact HC384_0.out); rintro e w' ⟨rfl, ⟨nd, rfl⟩⟩; have p393 : 0 ≤ (x9_2 : Int) := of_decide_eq_true (by first | (with_reducible assumption) | assumption); have q393 : x9_2 < (l0.length : Int) := of_decide_eq_true (by first | (with_reducible assumption) | assumption); obtain ⟨ad393, A393_0, c393_0, e393, hx393_0, hl393_0, hi393_0⟩ := at_L1 (Kd.V_reads' HO_0.out).2.2 x9_2 p393 q393; obtain rfl : ad371 = ad393 := (by injection e393); obtain ⟨ce393, hce393, hMe393, hcc393⟩ := Kd.V_get HO_0.out [] x9_2 p393 (by first | exact q393 | exact of_decide_eq_true (by first | (with_reducible assumption) | assumption) | (have e_ := (Kd.V_reads' HO_0.out).1; omega)); obtain ⟨ua393_0, uc393_0, rfl, ul393_0, ge393_0⟩ := Kd.FK_slice_open hMe393; have hv393_0 := hcc393 0 _ rfl; rw [Nat.add_zero, show ((Kd.slice 5 (Kd.int .u8))).sz = 1 from rfl, Nat.mul_one] at hv393_0; replace hv393_0 := Option.some.inj (hv393_0.symm.trans hx393_0); injection hv393_0 with hva_ hvn_ hvc_; rw [hva_] at ge393_0; rw [hvc_] at ul393_0; have HL393_0 := Aside0.mk (show Kd.V (Kd.int .u8) 5 _ w.heap.size _ _ (rd_L1 l0 x9_2) from Kd.V_mk ul393_0 ge393_0); clear hva_ hvn_ hvc_ ge393_0 ul393_0; clear hcc393 hce393; have HR393_0 := Aside0.mk hi393_0; have HC393_0 := Aside0.mk hl393_0; clear hi393_0 hl393_0; replace p393 := eq_true p393; replace q393 := eq_true q393; have ea_ := Option.some.inj (hx384_0.symm.trans hx393_0); injection ea_ with ea_ en_ ec_; subst ea_; subst ec_; clear en_) | ((with_reducible refine gate_builtin (b := .append) (xs := #[.tmp 86, .tmp 91]) rfl ?_); (try (refine gate_guard (by rfl) ?_; dsimp only)); at_builtin; refine Kd.N_append (Kd.slice 5 (Kd.int .u8)) (w0 := w) w.heap.size rfl (.tmp 86) (.tmp 91) 28 32 (.slice none 0 0) 24 rfl Try.underlying28 info32 rfl (by decide) (by omega) u7 x7_2 (rd_L1 l0 x9_2) [.slice A384_0 (rd_L1 l0 x9_2).length c384_0] (fun k_ => ((P0_ k_ ∨ P1_ k_) ∨ w.heap.size ≤ k_)) (fun k_ => ((fun k_ => ((P0_ k_ ∨ P1_ k_) ∨ w.heap.size ≤ k_))) k_ ∧ some k_ ≠ (u7 : Value).ownBlock) rfl rfl ?aP (fun _ hk => hk) ?aF ?aO ?aB ?aS ?aL ?_; (case aP => exact (Kd.FK_slice_mk (Kd.V_reads' (Kd.V_mono (ok' := (fun k_ => ((fun k_ => ((P0_ k_ ∨ P1_ k_) ∨ w.heap.size ≤ k_))) k_ ∧ some k_ ≠ (u7 : Value).ownBlock)) (HL393_0.out) (fun k_ hk => ⟨hk.1, hk.2⟩))).2.1 (Kd.V_F (Kd.V_mono (ok' := (fun k_ => ((fun k_ => ((P0_ k_ ∨ P1_ k_) ∨ w.heap.size ≤ k_))) k_ ∧ some k_ ≠ (u7 : Value).ownBlock)) (ok := fun k_ => ((P0_ k_ ∨ P1_ k_) ∨ w.heap.size ≤ k_) ∧ some k_ ≠ (u7 : Value).ownBlock) (by (with_reducible repeat (first | apply Kd.V_alloc | apply Kd.V_drewN | apply Kd.V_drew)); exact HL393_0.out) (fun k_ hk => ⟨hk.1, hk.2⟩))))); (case aB => exact (by repeat (first | (with_reducible first | exact HB.out | apply below_alloc | apply pw_below_drewN | apply below_drew1) | exact HB.out))); (case aF => exact (fun k_ hk => (.inr (Nat.le_trans (below_size (by repeat (first | (with_reducible first | exact HB.out | apply below_alloc | apply pw_below_drewN | apply below_drew1) | exact HB.out))) hk)))); (case aO => exact (by (with_reducible repeat (first | apply Kd.N_alloc | apply Kd.N_drewN | apply Kd.N_drew)); exact HO_7.out)); (case aS => exact (below_size (by repeat (first | (with_reducible first | exact HB.out | apply below_alloc | apply pw_below_drewN | apply below_drew1) | exact HB.out)))); (case aL => have := LMc43.out; omega); intro v395 w44 ho hb hg hat; rw [← Ny394.out] at ho; have n0_ := Aside0.mk (Kd.V_afterv (ok := (fun k_ => ((P0_ k_ ∨ P1_ k_) ∨ w.heap.size ≤ k_))) (by (with_reducible repeat (first | apply Kd.V_alloc | apply Kd.V_drewN | apply Kd.V_drew)); exact HO_0.out) hg hat); have n1_ := Aside0.mk (Kd.V_afterv (ok := (fun k_ => ((P0_ k_ ∨ P1_ k_) ∨ w.heap.size ≤ k_))) (by (with_reducible repeat (first | apply Kd.V_alloc | apply Kd.V_drewN | apply Kd.V_drew)); exact HO_1.out) hg hat); have n2_ := Aside0.mk (Kd.V_afterv (ok := (fun k_ => ((P0_ k_ ∨ P1_ k_) ∨ w.heap.size ≤ k_))) (by (with_reducible repeat (first | apply Kd.V_alloc | apply Kd.V_drewN | apply Kd.V_drew)); exact HL384_0.out) hg hat); have n3_ := Aside0.mk (Kd.V_afterv (ok := (fun k_ => ((P0_ k_ ∨ P1_ k_) ∨ w.heap.size ≤ k_))) (by (with_reducible repeat (first | apply Kd.V_alloc | apply Kd.V_drewN | apply Kd.V_drew)); exact HL393_0.out) hg hat); have n4_ := Aside0.mk (hb); have n5_ := Aside0.mk (ho); clear HO_0; clear HO_1; clear HL384_0; clear HL393_0; clear HB; clear HO_7; have HO_0 := n0_; have HO_1 := n1_; have HL384_0 := n2_; have HL393_0 := n3_; have HB := n4_; have HO396 := n5_; clear n0_ n1_ n2_ n3_ n4_ n5_; clear ho hb hg hat))
                                go_roundg kj14
                                case measure => have := HJ4.out; have := HK2.out; have := HJ14.out; omega
                                case rel => exact ⟨(y394), (false), (wrap64 (x9_2 + 1)), (by first | rfl | (simp; done) | (simp [*]; done)), (by first | rfl | (simp; done) | (simp [*]; done)), H', ⟨by have := HJ4.out; have := HK2.out; have := HJ14.out; omega⟩, ⟨by (with_reducible repeat (first | apply Kd.V_alloc | apply Kd.V_drewN | apply Kd.V_drew)); exact HO_0.out⟩, ⟨by (with_reducible repeat (first | apply Kd.V_alloc | apply Kd.V_drewN | apply Kd.V_drew)); exact HO_1.out⟩, ⟨by (with_reducible repeat (first | apply Kd.N_alloc | apply Kd.N_drewN | apply Kd.N_drew)); exact HO396.out⟩, ⟨by repeat (first | (with_reducible first | exact HB.out | apply below_alloc | apply pw_below_drewN | apply below_drew1) | exact HB.out)⟩⟩
                              · rw [if_neg c43] at H
                                exact absurd H (by simp)
                          · rw [if_neg c36] at H
                            exact absurd H (by simp)
                        · rw [if_neg c35] at H
                          exact absurd H (by simp)
              · rw [if_neg c13] at H
                exact absurd H (by simp)
            · rw [if_neg c12] at H
              have c12b0 : decide (x9_2 < (l0.length : Int)) = false := decide_eq_false c12
              clear c12
              have HC45 := Aside0.mk H
              clear H
              go_upto_if 94 with (fail)
              go_cut [7] (fun v7 wc => ∃ (kq : Nat) (x7_44 : List (List Int)), Aside0 (coppicelaw9_CutBranchesAlways.j3 kq t368 x7_44 = some r) ∧ Aside0 (kq ≤ k2) ∧ Aside0 (Kd.N (Kd.slice 5 (Kd.int .u8)) 32 wc w.heap.size (fun k_ => ((P0_ k_ ∨ P1_ k_) ∨ w.heap.size ≤ k_)) v7 x7_44) ∧ Aside0 (Below w.heap.size w wc))
              case first =>
                have H := HC45.out
                clear HC45
                by_cases c46 : x8_2 = true
                · subst c46
                  have H1 : (coppicelaw9_CutBranchesAlways.j3 k2 t368 x7_2) = some r := by rw [if_pos rfl] at H; exact H
                  clear H
                  have H := H1
                  clear H1
                  have H' := Aside0.mk H
                  clear H
                  go_wp2
                  go_meet
                  case rel => exact ⟨_, (x7_2), H', ⟨by have := HJ4.out; have := HK2.out; first | omega | exact Nat.le_refl _⟩, ⟨by (with_reducible repeat (first | apply Kd.N_alloc | apply Kd.N_drewN | apply Kd.N_drew)); exact HO_7.out⟩, ⟨by repeat (first | (with_reducible first | exact HB.out | apply below_alloc | apply pw_below_drewN | apply below_drew1) | exact HB.out)⟩⟩
                · replace c46 := Bool.eq_false_iff.mpr c46
                  subst c46
                  have H1 : (if x7_2.length < 5864062014805 then (coppicelaw9_CutBranchesAlways.j3 k2 t368 (x7_2 ++ [l1])) else (none)) = some r := by rw [if_neg (show ¬ (false = true) by decide)] at H; exact H
                  clear H
                  have H := H1
                  clear H1
                  by_cases c47 : x7_2.length < 5864062014805
                  · rw [if_pos c47] at H
                    have LMc47 := Aside0.mk c47
                    clear c47
                    obtain ⟨y397, hy397⟩ : ∃ y_ : List (List Int), y_ = (x7_2 ++ [l1]) := ⟨_, rfl⟩
                    replace H : (coppicelaw9_CutBranchesAlways.j3 k2 t368 y397) = some r := by first | (rw [hy397]; with_reducible exact H) | (have H2_ := (Option.bind_some _ _).symm.trans H; rw [hy397]; with_reducible exact H2_) | (have H2_ := (Option.bind_some _ _).symm.trans H; with_reducible exact H2_) | with_reducible exact H | (rw [hy397]; exact H) | exact H
                    have Ny397 := Aside0.mk hy397
                    clear hy397
                    have H' := Aside0.mk H
                    clear H
                    go_wp2_with (first | ((with_reducible refine gate_builtin (b := .append) (xs := #[.tmp 95, .tmp 97]) rfl ?_); (try (refine gate_guard (by rfl) ?_; dsimp only)); at_builtin; refine Kd.N_append (Kd.slice 5 (Kd.int .u8)) (w0 := w) w.heap.size rfl (.tmp 95) (.tmp 97) 28 32 (.slice none 0 0) 24 rfl Try.underlying28 info32 rfl (by decide) (by omega) u7 x7_2 l1 [.slice A1 l1.length c1] (fun k_ => ((P0_ k_ ∨ P1_ k_) ∨ w.heap.size ≤ k_)) (fun k_ => ((fun k_ => ((P0_ k_ ∨ P1_ k_) ∨ w.heap.size ≤ k_))) k_ ∧ some k_ ≠ (u7 : Value).ownBlock) rfl rfl ?aP (fun _ hk => hk) ?aF ?aO ?aB ?aS ?aL ?_; (case aP => exact (Kd.FK_slice_mk (Kd.V_reads' (Kd.V_mono (ok' := (fun k_ => ((fun k_ => ((P0_ k_ ∨ P1_ k_) ∨ w.heap.size ≤ k_))) k_ ∧ some k_ ≠ (u7 : Value).ownBlock)) (HO_1.out) (fun k_ hk => ⟨hk.1, hk.2⟩))).2.1 (Kd.V_F (Kd.V_mono (ok' := (fun k_ => ((fun k_ => ((P0_ k_ ∨ P1_ k_) ∨ w.heap.size ≤ k_))) k_ ∧ some k_ ≠ (u7 : Value).ownBlock)) (HO_1.out) (fun k_ hk => ⟨hk.1, hk.2⟩))))); (case aB => exact (by repeat (first | (with_reducible first | exact HB.out | apply below_alloc | apply pw_below_drewN | apply below_drew1) | exact HB.out))); (case aF => exact (fun k_ hk => (.inr (Nat.le_trans (below_size (by repeat (first | (with_reducible first | exact HB.out | apply below_alloc | apply pw_below_drewN | apply below_drew1) | exact HB.out))) hk)))); (case aO => exact (by (with_reducible repeat (first | apply Kd.N_alloc | apply Kd.N_drewN | apply Kd.N_drew)); exact HO_7.out)); (case aS => exact (below_size (by repeat (first | (with_reducible first | exact HB.out | apply below_alloc | apply pw_below_drewN | apply below_drew1) | exact HB.out)))); (case aL => have := LMc47.out; omega); intro v398 w48 ho hb hg hat; rw [← Ny397.out] at ho; have n0_ := Aside0.mk (Kd.V_afterv (ok := (fun k_ => ((P0_ k_ ∨ P1_ k_) ∨ w.heap.size ≤ k_))) (by (with_reducible repeat (first | apply Kd.V_alloc | apply Kd.V_drewN | apply Kd.V_drew)); exact HO_0.out) hg hat); have n1_ := Aside0.mk (Kd.V_afterv (ok := (fun k_ => ((P0_ k_ ∨ P1_ k_) ∨ w.heap.size ≤ k_))) (by (with_reducible repeat (first | apply Kd.V_alloc | apply Kd.V_drewN | apply Kd.V_drew)); exact HO_1.out) hg hat); have n2_ := Aside0.mk (hb); have n3_ := Aside0.mk (ho); clear HO_0; clear HO_1; clear HB; clear HO_7; have HO_0 := n0_; have HO_1 := n1_; have HB := n2_; have HO399 := n3_; clear n0_ n1_ n2_ n3_; clear ho hb hg hat))
                    go_meet
                    case rel => exact ⟨_, (y397), H', ⟨by have := HJ4.out; have := HK2.out; first | omega | exact Nat.le_refl _⟩, ⟨by (with_reducible repeat (first | apply Kd.N_alloc | apply Kd.N_drewN | apply Kd.N_drew)); exact HO399.out⟩, ⟨by repeat (first | (with_reducible first | exact HB.out | apply below_alloc | apply pw_below_drewN | apply below_drew1) | exact HB.out)⟩⟩
                  · rw [if_neg c47] at H
                    exact absurd H (by simp)
              case rest =>
                clear HC45
                try clear c1
                try clear c2
                try clear p2
                try clear c3
                try clear p3
                try clear q3
                try clear hx3
                try clear c4
                try clear p6
                try clear c12
                try clear c12b0
                try clear c13
                try clear c16
                try clear c17
                try clear c17b0
                try clear c19
                try clear c20
                try clear c29
                try clear c30
                try clear c31
                try clear c31b0
                try clear c32
                try clear c32b0
                try clear c33
                try clear c35
                try clear c35b0
                try clear c36
                try clear c36b0
                try clear c37
                try clear p37
                try clear q37
                try clear hx37
                try clear c38
                try clear c38b0
                try clear p38
                try clear q38
                try clear hx38
                try clear c39
                try clear p39
                try clear q39
                try clear hx39
                try clear c40
                try clear c43
                try clear c46
                try clear c47
                try clear hx378_0
                try clear hx380_0
                try clear hx384_0
                try clear hx389_0
                try clear hx393_0
                try clear p2
                try clear p3
                try clear p378
                try clear p380
                try clear p384
                try clear p389
                try clear p393
                try clear q3
                try clear q378
                try clear q380
                try clear q384
                try clear q389
                try clear q393
                obtain ⟨kq, x7_44, HA, HJ44, HO_7, HB⟩ := hcut
                cases kq with
                | zero => exact absurd HA.out (by simp [coppicelaw9_CutBranchesAlways.j3])
                | succ kj44 =>
                  have H := HA.out
                  clear HA
                  simp only [coppicelaw9_CutBranchesAlways.j3] at H
                  replace H := Option.bind_eq_some_iff.mp H
                  obtain ⟨t400, A490, H⟩ := H
                  replace H : ((cut_Branch.f kj44 x7_44).bind fun t401 => (if t368 = true then ((coppiceref5_Size.f kj44 x7_44).bind fun t402 => (coppicelaw9_CutBranchesAlways.j4 kj44 x7_44 t400 t401 (t400 != t402))) else (coppicelaw9_CutBranchesAlways.j4 kj44 x7_44 t400 t401 true))) = some r := H
                  have A49 := Aside0.mk A490
                  clear A490
                  replace H := Option.bind_eq_some_iff.mp H
                  obtain ⟨t401, A500, H⟩ := H
                  replace H : (if t368 = true then ((coppiceref5_Size.f kj44 x7_44).bind fun t402 => (coppicelaw9_CutBranchesAlways.j4 kj44 x7_44 t400 t401 (t400 != t402))) else (coppicelaw9_CutBranchesAlways.j4 kj44 x7_44 t400 t401 true)) = some r := H
                  have A50 := Aside0.mk A500
                  clear A500
                  have HC51 := Aside0.mk H
                  clear H
                  obtain ⟨Ao52, co52, eo52⟩ := Kd.N_slice HO_7.out
                  subst eo52
                  go_upto_region 21 with (first | ((with_reducible refine gate_callee (f := 25) rfl ?_); refine goesL_ (some 100) rfl rfl Try.func25 (by kernel_rfl) rfl #[.slice Ao52 x7_44.length co52] rfl (by (try simp only [List.map_toArray, List.map_cons, List.map_nil]); first | done | rfl | (simp only [List.length_drop, List.length_take]; rfl)) ?_; (with_reducible refine (branch_Size.calls kj44 _ _ x7_44 t400 _ ?side1 ?side2 A49.out).mono ?_); (case side1 => repeat (first | exact (Kd.N_reads' HO_7.out).2.2 | (with_reducible refine Kd.C_alloc ?_ _) | (with_reducible refine Kd.C_drewN ?_ _) | (with_reducible refine Kd.C_drew ?_))); (case side2 => exact (Kd.N_reads' HO_7.out).2.1); rintro e w53 ⟨rfl, hb⟩; refine ⟨_, rfl, ?_⟩; have n0_ := Aside0.mk (Kd.N_below (by (with_reducible repeat (first | apply Kd.N_alloc | apply Kd.N_drewN | apply Kd.N_drew)); exact HO_7.out) hb); have n1_ := Aside0.mk (below_step (by repeat (first | (with_reducible first | exact HB.out | apply below_alloc | apply pw_below_drewN | apply below_drew1) | exact HB.out)) hb); clear HO_7; clear HB; have HO_7 := n0_; have HB := n1_; clear n0_ n1_; (try clear hb); (try clear hb2); (try clear hk); (try clear hi)) | ((with_reducible refine gate_callee (f := 17) rfl ?_); refine goesL_ (some 102) rfl rfl Try.func17 (by kernel_rfl) rfl #[.slice Ao52 x7_44.length co52] rfl (by (try simp only [List.map_toArray, List.map_cons, List.map_nil]); first | done | rfl | (simp only [List.length_drop, List.length_take]; rfl)) ?_; (with_reducible refine (cut_Branch.calls kj44 _ _ x7_44 t401 _ ?side1 ?side2 A50.out).mono ?_); (case side1 => repeat (first | exact (Kd.N_reads' HO_7.out).2.2 | (with_reducible refine Kd.C_alloc ?_ _) | (with_reducible refine Kd.C_drewN ?_ _) | (with_reducible refine Kd.C_drew ?_))); (case side2 => exact (Kd.N_reads' HO_7.out).2.1); rintro e w54 ⟨rfl, hb⟩; refine ⟨_, rfl, ?_⟩; have n0_ := Aside0.mk (Kd.N_below (by (with_reducible repeat (first | apply Kd.N_alloc | apply Kd.N_drewN | apply Kd.N_drew)); exact HO_7.out) hb); have n1_ := Aside0.mk (below_step (by repeat (first | (with_reducible first | exact HB.out | apply below_alloc | apply pw_below_drewN | apply below_drew1) | exact HB.out)) hb); clear HO_7; clear HB; have HO_7 := n0_; have HB := n1_; clear n0_ n1_; (try clear hb); (try clear hb2); (try clear hk); (try clear hi)))
                  (try simp only [Act.put, List.setIfInBounds_toArray, List.set_cons_zero, List.set_cons_succ])
                  go_cut [110] (fun v110 wc => ∃ (kq : Nat) (x110_50 : Bool), v110 = .bool x110_50 ∧ Aside0 (coppicelaw9_CutBranchesAlways.j4 kq x7_44 t400 t401 x110_50 = some r) ∧ Aside0 (kq ≤ kj44) ∧ Aside0 (Kd.N (Kd.slice 5 (Kd.int .u8)) 32 wc w.heap.size (fun k_ => ((P0_ k_ ∨ P1_ k_) ∨ w.heap.size ≤ k_)) (.slice Ao52 x7_44.length co52) x7_44) ∧ Aside0 (Below w.heap.size w wc))
                  case first =>
                    have H := HC51.out
                    clear HC51
                    by_cases c55 : t368 = true
                    · subst c55
                      have H1 : ((coppiceref5_Size.f kj44 x7_44).bind fun t402 => (coppicelaw9_CutBranchesAlways.j4 kj44 x7_44 t400 t401 (t400 != t402))) = some r := by rw [if_pos rfl] at H; exact H
                      clear H
                      have H := H1
                      clear H1
                      replace H := Option.bind_eq_some_iff.mp H
                      obtain ⟨t402, A560, H⟩ := H
                      replace H : (coppicelaw9_CutBranchesAlways.j4 kj44 x7_44 t400 t401 (t400 != t402)) = some r := H
                      have A56 := Aside0.mk A560
                      clear A560
                      have H' := Aside0.mk H
                      clear H
                      go_wp2_with (first | (go_at_call 30; (with_reducible refine (coppiceref5_Size.calls kj44 _ _ x7_44 t402 _ ?side1 ?side2 A56.out).mono ?_); (case side1 => repeat (first | exact (Kd.N_reads' HO_7.out).2.2 | (with_reducible refine Kd.C_alloc ?_ _) | (with_reducible refine Kd.C_drewN ?_ _) | (with_reducible refine Kd.C_drew ?_))); (case side2 => exact (Kd.N_reads' HO_7.out).2.1); rintro e w57 ⟨rfl, hb⟩; have n0_ := Aside0.mk (Kd.N_below (by (with_reducible repeat (first | apply Kd.N_alloc | apply Kd.N_drewN | apply Kd.N_drew)); exact HO_7.out) hb); have n1_ := Aside0.mk (below_step (by repeat (first | (with_reducible first | exact HB.out | apply below_alloc | apply pw_below_drewN | apply below_drew1) | exact HB.out)) hb); clear HO_7; clear HB; have HO_7 := n0_; have HB := n1_; clear n0_ n1_; (try clear hb); (try clear hb2); (try clear hk); (try clear hi)))
                      go_meet
                      case rel => exact ⟨_, ((t400 != t402)), (by first | rfl | (simp; done) | (simp [*]; done)), H', ⟨by have := HJ4.out; have := HK2.out; have := HJ44.out; first | omega | exact Nat.le_refl _⟩, ⟨by (with_reducible repeat (first | apply Kd.N_alloc | apply Kd.N_drewN | apply Kd.N_drew)); exact HO_7.out⟩, ⟨by repeat (first | (with_reducible first | exact HB.out | apply below_alloc | apply pw_below_drewN | apply below_drew1) | exact HB.out)⟩⟩
                    · replace c55 := Bool.eq_false_iff.mpr c55
                      subst c55
                      have H1 : (coppicelaw9_CutBranchesAlways.j4 kj44 x7_44 t400 t401 true) = some r := by rw [if_neg (show ¬ (false = true) by decide)] at H; exact H
                      clear H
                      have H := H1
                      clear H1
                      have H' := Aside0.mk H
                      clear H
                      go_wp2
                      go_meet
                      case rel => exact ⟨_, (true), (by first | rfl | (simp; done) | (simp [*]; done)), H', ⟨by have := HJ4.out; have := HK2.out; have := HJ44.out; first | omega | exact Nat.le_refl _⟩, ⟨by (with_reducible repeat (first | apply Kd.N_alloc | apply Kd.N_drewN | apply Kd.N_drew)); exact HO_7.out⟩, ⟨by repeat (first | (with_reducible first | exact HB.out | apply below_alloc | apply pw_below_drewN | apply below_drew1) | exact HB.out)⟩⟩
                  case rest =>
                    clear HC51
                    try clear c1
                    try clear c2
                    try clear p2
                    try clear c3
                    try clear p3
                    try clear q3
                    try clear hx3
                    try clear c4
                    try clear c5
                    try clear p6
                    try clear c12
                    try clear c12b0
                    try clear c13
                    try clear c16
                    try clear c17
                    try clear c17b0
                    try clear c19
                    try clear c20
                    try clear c25
                    try clear c29
                    try clear c30
                    try clear c31
                    try clear c31b0
                    try clear c32
                    try clear c32b0
                    try clear c33
                    try clear c35
                    try clear c35b0
                    try clear c36
                    try clear c36b0
                    try clear c37
                    try clear p37
                    try clear q37
                    try clear hx37
                    try clear c38
                    try clear c38b0
                    try clear p38
                    try clear q38
                    try clear hx38
                    try clear c39
                    try clear p39
                    try clear q39
                    try clear hx39
                    try clear c40
                    try clear c43
                    try clear c46
                    try clear c47
                    try clear c55
                    try clear hx378_0
                    try clear hx380_0
                    try clear hx384_0
                    try clear hx389_0
                    try clear hx393_0
                    try clear p2
                    try clear p3
                    try clear p37
                    try clear p378
                    try clear p38
                    try clear p380
                    try clear p384
                    try clear p389
                    try clear p39
                    try clear p393
                    try clear p6
                    try clear q3
                    try clear q37
                    try clear q378
                    try clear q38
                    try clear q380
                    try clear q384
                    try clear q389
                    try clear q39
                    try clear q393
                    obtain ⟨kq, x110_50, rfl, HA, HJ50, HO_7, HB⟩ := hcut
                    cases kq with
                    | zero => exact absurd HA.out (by simp [coppicelaw9_CutBranchesAlways.j4])
                    | succ kj50 =>
                      have H := HA.out
                      clear HA
                      simp only [coppicelaw9_CutBranchesAlways.j4] at H
                      by_cases c58 : x110_50 = true
                      · subst c58
                        have H1 : (some false) = some r := by rw [if_pos rfl] at H; exact H
                        clear H
                        have H := H1
                        clear H1
                        obtain rfl := Option.some.inj H
                        go_wp2
                        go_ret
                        exact ⟨by first | rfl | (simp [errW_none, errW_some] <;> rfl) | (simp [*, errW_none, errW_some] <;> rfl), by repeat (first | (with_reducible first | exact HB.out | apply below_alloc | apply pw_below_drewN | apply below_drew1) | exact HB.out)⟩
                      · replace c58 := Bool.eq_false_iff.mpr c58
                        subst c58
                        have H1 : (if t400 ≤ 4092 then (some true) else (if t401 < 2 then (coppicelaw9_CutBranchesAlways.j5 kj50 x7_44 t401 true) else (coppicelaw9_CutBranchesAlways.j5 kj50 x7_44 t401 (decide (t401 ≥ (x7_44.length : Int)))))) = some r := by rw [if_neg (show ¬ (false = true) by decide)] at H; exact H
                        clear H
                        have H := H1
                        clear H1
                        by_cases c59 : t400 ≤ 4092
                        · rw [if_pos c59] at H
                          have c59b0 : decide (t400 ≤ 4092) = true := decide_eq_true c59
                          clear c59
                          obtain rfl := Option.some.inj H
                          go_wp2
                          go_ret
                          exact ⟨by first | rfl | (simp [errW_none, errW_some] <;> rfl) | (simp [*, errW_none, errW_some] <;> rfl), by repeat (first | (with_reducible first | exact HB.out | apply below_alloc | apply pw_below_drewN | apply below_drew1) | exact HB.out)⟩
                        · rw [if_neg c59] at H
                          have c59b0 : decide (t400 ≤ 4092) = false := decide_eq_false c59
                          clear c59
                          have HC60 := Aside0.mk H
                          clear H
                          go_upto_region 25 with (fail)
                          go_cut [120] (fun v120 wc => ∃ (kq : Nat) (x120_59 : Bool), v120 = .bool x120_59 ∧ Aside0 (coppicelaw9_CutBranchesAlways.j5 kq x7_44 t401 x120_59 = some r) ∧ Aside0 (kq ≤ kj50) ∧ Aside0 (Kd.N (Kd.slice 5 (Kd.int .u8)) 32 wc w.heap.size (fun k_ => ((P0_ k_ ∨ P1_ k_) ∨ w.heap.size ≤ k_)) (.slice Ao52 x7_44.length co52) x7_44) ∧ Aside0 (Below w.heap.size w wc))
                          case first =>
                            have H := HC60.out
                            clear HC60
                            by_cases c61 : t401 < 2
                            · rw [if_pos c61] at H
                              have c61b0 : decide (t401 < 2) = true := decide_eq_true c61
                              clear c61
                              (first | rw [c61b0] | (simp only [i64_w, i32_w]; rw [c61b0]) | skip)
                              have H' := Aside0.mk H
                              clear H
                              go_wp2
                              go_meet
                              case rel => exact ⟨_, (true), (by first | rfl | (simp; done) | (simp [*]; done)), H', ⟨by have := HJ4.out; have := HK2.out; have := HJ44.out; have := HJ50.out; first | omega | exact Nat.le_refl _⟩, ⟨by (with_reducible repeat (first | apply Kd.N_alloc | apply Kd.N_drewN | apply Kd.N_drew)); exact HO_7.out⟩, ⟨by repeat (first | (with_reducible first | exact HB.out | apply below_alloc | apply pw_below_drewN | apply below_drew1) | exact HB.out)⟩⟩
                            · rw [if_neg c61] at H
                              have c61b0 : decide (t401 < 2) = false := decide_eq_false c61
                              clear c61
                              (first | rw [c61b0] | (simp only [i64_w, i32_w]; rw [c61b0]) | skip)
                              have H' := Aside0.mk H
                              clear H
                              go_wp2
                              go_meet
                              case rel => exact ⟨_, (decide (t401 ≥ (x7_44.length : Int))), (by first | rfl | (simp; done) | (simp [*]; done)), H', ⟨by have := HJ4.out; have := HK2.out; have := HJ44.out; have := HJ50.out; first | omega | exact Nat.le_refl _⟩, ⟨by (with_reducible repeat (first | apply Kd.N_alloc | apply Kd.N_drewN | apply Kd.N_drew)); exact HO_7.out⟩, ⟨by repeat (first | (with_reducible first | exact HB.out | apply below_alloc | apply pw_below_drewN | apply below_drew1) | exact HB.out)⟩⟩
                          case rest =>
                            clear HC60
                            try clear c1
                            try clear c2
                            try clear p2
                            try clear c3
                            try clear p3
                            try clear q3
                            try clear hx3
                            try clear c4
                            try clear c5
                            try clear c6
                            try clear p6
                            try clear c12
                            try clear c12b0
                            try clear c13
                            try clear c16
                            try clear c17
                            try clear c17b0
                            try clear c19
                            try clear c20
                            try clear c25
                            try clear c29
                            try clear c30
                            try clear c31
                            try clear c31b0
                            try clear c32
                            try clear c32b0
                            try clear c33
                            try clear c35
                            try clear c35b0
                            try clear c36
                            try clear c36b0
                            try clear c37
                            try clear p37
                            try clear q37
                            try clear hx37
                            try clear c38
                            try clear c38b0
                            try clear p38
                            try clear q38
                            try clear hx38
                            try clear c39
                            try clear p39
                            try clear q39
                            try clear hx39
                            try clear c40
                            try clear c43
                            try clear c46
                            try clear c47
                            try clear c55
                            try clear c58
                            try clear c59
                            try clear c59b0
                            try clear c61
                            try clear c61b0
                            try clear hx378_0
                            try clear hx380_0
                            try clear hx384_0
                            try clear hx389_0
                            try clear hx393_0
                            try clear p2
                            try clear p3
                            try clear p37
                            try clear p378
                            try clear p38
                            try clear p380
                            try clear p384
                            try clear p389
                            try clear p39
                            try clear p393
                            try clear p6
                            try clear q3
                            try clear q37
                            try clear q378
                            try clear q38
                            try clear q380
                            try clear q384
                            try clear q389
                            try clear q39
                            try clear q393
                            obtain ⟨kq, x120_59, rfl, HA, HJ59, HO_7, HB⟩ := hcut
                            cases kq with
                            | zero => exact absurd HA.out (by simp [coppicelaw9_CutBranchesAlways.j5])
                            | succ kj59 =>
                              have H := HA.out
                              clear HA
                              simp only [coppicelaw9_CutBranchesAlways.j5] at H
                              by_cases c62 : x120_59 = true
                              · subst c62
                                have H1 : (some false) = some r := by rw [if_pos rfl] at H; exact H
                                clear H
                                have H := H1
                                clear H1
                                obtain rfl := Option.some.inj H
                                go_wp2
                                go_ret
                                exact ⟨by first | rfl | (simp [errW_none, errW_some] <;> rfl) | (simp [*, errW_none, errW_some] <;> rfl), by repeat (first | (with_reducible first | exact HB.out | apply below_alloc | apply pw_below_drewN | apply below_drew1) | exact HB.out)⟩
                              · replace c62 := Bool.eq_false_iff.mpr c62
                                subst c62
                                have H1 : (if 0 ≤ (wrap64 (t401 - 1)) then (if (wrap64 (t401 - 1)) ≤ (x7_44.length : Int) then ((branch_Size.f kj59 (x7_44.take ((wrap64 (t401 - 1)) : Int).toNat)).bind fun t408 => (if 0 ≤ t401 then (if t401 ≤ (x7_44.length : Int) then ((branch_Size.f kj59 (x7_44.drop (t401 : Int).toNat)).bind fun t414 => (if (wrap64 (t401 - 1)) < (x7_44.length : Int) then ((cut_JoinBranches.f kj59 (x7_44.take ((wrap64 (t401 - 1)) : Int).toNat) (rd_L1 x7_44 (wrap64 (t401 - 1))) (x7_44.drop (t401 : Int).toNat)).bind fun t426 => (if t408 ≤ 4092 then (if t414 ≤ 4092 then (some (!t426)) else (some false)) else (some false))) else (none))) else (none)) else (none))) else (none)) else (none)) = some r := by rw [if_neg (show ¬ (false = true) by decide)] at H; exact H
                                clear H
                                have H := H1
                                clear H1
                                obtain ⟨ji63, hji63⟩ : ∃ j_ : Int, (wrap64 (t401 - 1)) = j_ := ⟨_, rfl⟩
                                replace H : (if 0 ≤ (ji63) then (if (ji63) ≤ (x7_44.length : Int) then ((branch_Size.f kj59 (x7_44.take ((ji63) : Int).toNat)).bind fun t408 => (if 0 ≤ t401 then (if t401 ≤ (x7_44.length : Int) then ((branch_Size.f kj59 (x7_44.drop (t401 : Int).toNat)).bind fun t414 => (if (ji63) < (x7_44.length : Int) then ((cut_JoinBranches.f kj59 (x7_44.take ((ji63) : Int).toNat) (rd_L1 x7_44 (ji63)) (x7_44.drop (t401 : Int).toNat)).bind fun t426 => (if t408 ≤ 4092 then (if t414 ≤ 4092 then (some (!t426)) else (some false)) else (some false))) else (none))) else (none)) else (none))) else (none)) else (none)) = some r := by first | (rw [hji63] at H; exact H) | (simp only [hji63] at H ⊢; exact H)
                                have hji63w : (IntKind.i64.wrap (t401 - 1)) = ji63 := (i64_w _).trans hji63
                                by_cases c64 : 0 ≤ (ji63)
                                · rw [if_pos c64] at H
                                  have c64b0 := eq_true c64
                                  have c64b1 : decide (0 ≤ (ji63)) = true := decide_eq_true c64
                                  clear c64
                                  by_cases c65 : (ji63) ≤ (x7_44.length : Int)
                                  · rw [if_pos c65] at H
                                    have c65b0 := eq_true c65
                                    have c65b1 : decide ((ji63) ≤ (x7_44.length : Int)) = true := decide_eq_true c65
                                    clear c65
                                    obtain ⟨y403, hy403⟩ : ∃ y_ : List (List Int), y_ = (x7_44.take ((ji63) : Int).toNat) := ⟨_, rfl⟩
                                    replace H : ((branch_Size.f kj59 y403).bind fun t408 => (if 0 ≤ t401 then (if t401 ≤ (x7_44.length : Int) then ((branch_Size.f kj59 (x7_44.drop (t401 : Int).toNat)).bind fun t414 => (if (ji63) < (x7_44.length : Int) then ((cut_JoinBranches.f kj59 (x7_44.take ((ji63) : Int).toNat) (rd_L1 x7_44 (ji63)) (x7_44.drop (t401 : Int).toNat)).bind fun t426 => (if t408 ≤ 4092 then (if t414 ≤ 4092 then (some (!t426)) else (some false)) else (some false))) else (none))) else (none)) else (none))) = some r := by first | (rw [hy403]; with_reducible exact H) | (have H2_ := (Option.bind_some _ _).symm.trans H; rw [hy403]; with_reducible exact H2_) | (have H2_ := (Option.bind_some _ _).symm.trans H; with_reducible exact H2_) | with_reducible exact H | (rw [hy403]; exact H) | exact H
                                    have Ny403 := Aside0.mk hy403
                                    clear hy403
                                    replace H := Option.bind_eq_some_iff.mp H
                                    obtain ⟨t408, A660, H⟩ := H
                                    replace H : (if 0 ≤ t401 then (if t401 ≤ (x7_44.length : Int) then ((branch_Size.f kj59 (x7_44.drop (t401 : Int).toNat)).bind fun t414 => (if (ji63) < (x7_44.length : Int) then ((cut_JoinBranches.f kj59 (x7_44.take ((ji63) : Int).toNat) (rd_L1 x7_44 (ji63)) (x7_44.drop (t401 : Int).toNat)).bind fun t426 => (if t408 ≤ 4092 then (if t414 ≤ 4092 then (some (!t426)) else (some false)) else (some false))) else (none))) else (none)) else (none)) = some r := H
                                    have A66 := Aside0.mk A660
                                    clear A660
                                    by_cases c67 : 0 ≤ t401
                                    · rw [if_pos c67] at H
                                      have c67b0 := eq_true c67
                                      have c67b1 : decide (0 ≤ t401) = true := decide_eq_true c67
                                      clear c67
                                      by_cases c68 : t401 ≤ (x7_44.length : Int)
                                      · rw [if_pos c68] at H
                                        have c68b0 := eq_true c68
                                        have c68b1 : decide (t401 ≤ (x7_44.length : Int)) = true := decide_eq_true c68
                                        clear c68
                                        obtain ⟨y409, hy409⟩ : ∃ y_ : List (List Int), y_ = (x7_44.drop (t401 : Int).toNat) := ⟨_, rfl⟩
                                        replace H : ((branch_Size.f kj59 y409).bind fun t414 => (if (ji63) < (x7_44.length : Int) then ((cut_JoinBranches.f kj59 (x7_44.take ((ji63) : Int).toNat) (rd_L1 x7_44 (ji63)) (x7_44.drop (t401 : Int).toNat)).bind fun t426 => (if t408 ≤ 4092 then (if t414 ≤ 4092 then (some (!t426)) else (some false)) else (some false))) else (none))) = some r := by first | (rw [hy409]; with_reducible exact H) | (have H2_ := (Option.bind_some _ _).symm.trans H; rw [hy409]; with_reducible exact H2_) | (have H2_ := (Option.bind_some _ _).symm.trans H; with_reducible exact H2_) | with_reducible exact H | (rw [hy409]; exact H) | exact H
                                        have Ny409 := Aside0.mk hy409
                                        clear hy409
                                        replace H := Option.bind_eq_some_iff.mp H
                                        obtain ⟨t414, A690, H⟩ := H
                                        replace H : (if (ji63) < (x7_44.length : Int) then ((cut_JoinBranches.f kj59 (x7_44.take ((ji63) : Int).toNat) (rd_L1 x7_44 (ji63)) (x7_44.drop (t401 : Int).toNat)).bind fun t426 => (if t408 ≤ 4092 then (if t414 ≤ 4092 then (some (!t426)) else (some false)) else (some false))) else (none)) = some r := H
                                        have A69 := Aside0.mk A690
                                        clear A690
                                        have c70b0 := eq_true (of_decide_eq_true (by first | (with_reducible assumption) | assumption) : 0 ≤ (ji63))
                                        have c71b0 := eq_true (of_decide_eq_true (by first | (with_reducible assumption) | assumption) : (ji63) ≤ (x7_44.length : Int))
                                        obtain ⟨y415, hy415⟩ : ∃ y_ : List (List Int), y_ = (x7_44.take ((ji63) : Int).toNat) := ⟨_, rfl⟩
                                        replace H : (if (ji63) < (x7_44.length : Int) then ((cut_JoinBranches.f kj59 y415 (rd_L1 x7_44 (ji63)) (x7_44.drop (t401 : Int).toNat)).bind fun t426 => (if t408 ≤ 4092 then (if t414 ≤ 4092 then (some (!t426)) else (some false)) else (some false))) else (none)) = some r := by first | (rw [hy415]; with_reducible exact H) | (have H2_ := (Option.bind_some _ _).symm.trans H; rw [hy415]; with_reducible exact H2_) | (have H2_ := (Option.bind_some _ _).symm.trans H; with_reducible exact H2_) | with_reducible exact H | (rw [hy415]; exact H) | exact H
                                        have Ny415 := Aside0.mk hy415
                                        clear hy415
                                        by_cases c72 : (ji63) < (x7_44.length : Int)
                                        · rw [if_pos c72] at H
                                          have c72b0 : decide ((ji63) < (x7_44.length : Int)) = true := decide_eq_true c72
                                          clear c72
                                          have c73b0 := eq_true (of_decide_eq_true (by first | (with_reducible assumption) | assumption) : 0 ≤ t401)
                                          have c74b0 := eq_true (of_decide_eq_true (by first | (with_reducible assumption) | assumption) : t401 ≤ (x7_44.length : Int))
                                          obtain ⟨y421, hy421⟩ : ∃ y_ : List (List Int), y_ = (x7_44.drop (t401 : Int).toNat) := ⟨_, rfl⟩
                                          replace H : ((cut_JoinBranches.f kj59 y415 (rd_L1 x7_44 (ji63)) y421).bind fun t426 => (if t408 ≤ 4092 then (if t414 ≤ 4092 then (some (!t426)) else (some false)) else (some false))) = some r := by first | (rw [hy421]; with_reducible exact H) | (have H2_ := (Option.bind_some _ _).symm.trans H; rw [hy421]; with_reducible exact H2_) | (have H2_ := (Option.bind_some _ _).symm.trans H; with_reducible exact H2_) | with_reducible exact H | (rw [hy421]; exact H) | exact H
                                          have Ny421 := Aside0.mk hy421
                                          clear hy421
                                          replace H := Option.bind_eq_some_iff.mp H
                                          obtain ⟨t426, A750, H⟩ := H
                                          replace H : (if t408 ≤ 4092 then (if t414 ≤ 4092 then (some (!t426)) else (some false)) else (some false)) = some r := H
                                          have A75 := Aside0.mk A750
                                          clear A750
                                          by_cases c76 : t408 ≤ 4092
                                          · rw [if_pos c76] at H
                                            have c76b0 : decide (t408 ≤ 4092) = true := decide_eq_true c76
                                            clear c76
                                            by_cases c77 : t414 ≤ 4092
                                            · rw [if_pos c77] at H
                                              have c77b0 : decide (t414 ≤ 4092) = true := decide_eq_true c77
                                              clear c77
                                              obtain rfl := Option.some.inj H
                                              have q78 : ((ji63) : Int) ≤ ((x7_44.length : Int) : Int) := of_decide_eq_true (by first | (with_reducible assumption) | assumption)
                                              obtain ⟨i078, hi078, _, hsz78, _⟩ := info_parts info32
                                              have hroom78 : x7_44.length ≤ co52 := (Kd.N_reads' HO_7.out).2.1
                                              have hC78 : Kd.F (Kd.slice 5 (Kd.int .u8)) _ _ Ao52 x7_44.length x7_44 := (Kd.V_at (base := w.heap.size) (Kd.N_V HO_7.out)).2.2
                                              have hcut78 := cut_to (P := Try.prog) 28 32 .i64 Try.underlying28 hi078 Ao52 x7_44.length co52 (ji63) (of_decide_eq_true (by first | (with_reducible assumption) | assumption)) q78 hroom78
                                              have hr78 := Kd.F_take (m := ((ji63) : Int).toNat) hC78 (by omega)
                                              have hy78 : y403.length = ((ji63) : Int).toNat := (by rw [Ny403.out, List.length_take]; omega)
                                              rw [← Ny403.out] at hr78
                                              rw [← hy78] at hcut78
                                              have HO407 := Aside0.mk (show Kd.V (Kd.slice 5 (Kd.int .u8)) 32 _ w.heap.size _ (.slice Ao52 y403.length co52) y403 from Kd.V_mk (by omega) hr78)
                                              have HC407 := Aside0.mk (show y403.length ≤ co52 from by omega)
                                              clear hr78 hC78 hroom78 hi078 hsz78
                                              have KY78 := Aside0.mk hy78
                                              clear hy78
                                              replace q78 := eq_true q78
                                              try go_wp2_with (first | ((with_reducible refine gate_callee (f := 25) rfl ?_); refine goesL_ (some 125) rfl rfl Try.func25 (by kernel_rfl) rfl #[.slice Ao52 y403.length co52] rfl (by (try simp only [List.map_toArray, List.map_cons, List.map_nil]); first | done | rfl | (simp only [List.length_drop, List.length_take]; rfl)) ?_; (with_reducible refine (branch_Size.calls kj59 _ _ y403 t408 _ ?side1 ?side2 A66.out).mono ?_); (case side1 => repeat (first | exact (Kd.V_reads' HO407.out).2.2 | (with_reducible refine Kd.C_alloc ?_ _) | (with_reducible refine Kd.C_drewN ?_ _) | (with_reducible refine Kd.C_drew ?_))); (case side2 => exact (Kd.V_reads' HO407.out).2.1); rintro e w79 ⟨rfl, hb⟩; refine ⟨_, rfl, ?_⟩; have n0_ := Aside0.mk (Kd.N_below (by (with_reducible repeat (first | apply Kd.N_alloc | apply Kd.N_drewN | apply Kd.N_drew)); exact HO_7.out) hb); have n1_ := Aside0.mk (Kd.V_below (by (with_reducible repeat (first | apply Kd.V_alloc | apply Kd.V_drewN | apply Kd.V_drew)); exact HO407.out) hb); have n2_ := Aside0.mk (below_step (by repeat (first | (with_reducible first | exact HB.out | apply below_alloc | apply pw_below_drewN | apply below_drew1) | exact HB.out)) hb); clear HO_7; clear HO407; clear HB; have HO_7 := n0_; have HO407 := n1_; have HB := n2_; clear n0_ n1_ n2_; (try clear hb); (try clear hb2); (try clear hk); (try clear hi); have q80 : (t401 : Int) ≤ ((x7_44.length : Int) : Int) := of_decide_eq_true (by first | (with_reducible assumption) | assumption); obtain ⟨i080, hi080, _, hsz80, _⟩ := info_parts info32; have hroom80 : x7_44.length ≤ co52 := (Kd.N_reads' HO_7.out).2.1; have hC80 : Kd.F (Kd.slice 5 (Kd.int .u8)) _ _ Ao52 x7_44.length x7_44 := (Kd.V_at (base := w.heap.size) (Kd.N_V HO_7.out)).2.2; have q080 : (0 : Int) ≤ (t401 : Int) := of_decide_eq_true (by first | (with_reducible assumption) | assumption); have hcut80 := cut_from (P := Try.prog) 28 32 .i64 Try.underlying28 hi080 1 hsz80 Ao52 x7_44.length co52 t401 q080 q80; have hr80 := Kd.F_cut (m := (t401 : Int).toNat) (c := co52) hC80 (by omega) hroom80; obtain ⟨A80, hA80⟩ : ∃ A1, A1 = (if co52 = (t401 : Int).toNat then Ao52 else (Ao52 : Option Addr).map (·.add ((t401 : Int).toNat * 1))) := ⟨_, rfl⟩; obtain ⟨c80, hc80⟩ : ∃ c1, c1 = co52 - (t401 : Int).toNat := ⟨_, rfl⟩; have hy80 : y409.length = x7_44.length - (t401 : Int).toNat := (by rw [Ny409.out, List.length_drop] <;> omega); rw [show (x7_44).drop (t401 : Int).toNat = y409 from Ny409.out.symm] at hr80; replace hr80 : Kd.F (Kd.slice 5 (Kd.int .u8)) _ _ A80 y409.length y409 := (by rw [hA80]; exact hr80); rw [← hy80, ← hA80, ← hc80] at hcut80; have HO413 := Aside0.mk (show Kd.V (Kd.slice 5 (Kd.int .u8)) 32 _ w.heap.size _ (.slice A80 y409.length c80) y409 from Kd.V_mk (by rw [hy80, hc80]; exact Nat.sub_le_sub_right hroom80 _) hr80); have HC413 := Aside0.mk (show y409.length ≤ c80 from by rw [hy80, hc80]; exact Nat.sub_le_sub_right hroom80 _); clear hr80 hC80 hroom80 hi080 hsz80 hc80; have KY80 := Aside0.mk hy80; have KA80 := Aside0.mk hA80; clear hy80 hA80; replace q80 := eq_true q80) | ((with_reducible refine gate_callee (f := 25) rfl ?_); refine goesL_ (some 129) rfl rfl Try.func25 (by kernel_rfl) rfl #[.slice A80 y409.length c80] rfl (by (try simp only [List.map_toArray, List.map_cons, List.map_nil]); first | done | rfl | (simp only [List.length_drop, List.length_take]; rfl)) ?_; (with_reducible refine (branch_Size.calls kj59 _ _ y409 t414 _ ?side1 ?side2 A69.out).mono ?_); (case side1 => repeat (first | exact (Kd.V_reads' HO413.out).2.2 | (with_reducible refine Kd.C_alloc ?_ _) | (with_reducible refine Kd.C_drewN ?_ _) | (with_reducible refine Kd.C_drew ?_))); (case side2 => exact (Kd.V_reads' HO413.out).2.1); rintro e w81 ⟨rfl, hb⟩; refine ⟨_, rfl, ?_⟩; have n0_ := Aside0.mk (Kd.N_below (by (with_reducible repeat (first | apply Kd.N_alloc | apply Kd.N_drewN | apply Kd.N_drew)); exact HO_7.out) hb); have n1_ := Aside0.mk (Kd.V_below (by (with_reducible repeat (first | apply Kd.V_alloc | apply Kd.V_drewN | apply Kd.V_drew)); exact HO407.out) hb); have n2_ := Aside0.mk (Kd.V_below (by (with_reducible repeat (first | apply Kd.V_alloc | apply Kd.V_drewN | apply Kd.V_drew)); exact HO413.out) hb); have n3_ := Aside0.mk (below_step (by repeat (first | (with_reducible first | exact HB.out | apply below_alloc | apply pw_below_drewN | apply below_drew1) | exact HB.out)) hb); clear HO_7; clear HO407; clear HO413; clear HB; have HO_7 := n0_; have HO407 := n1_; have HO413 := n2_; have HB := n3_; clear n0_ n1_ n2_ n3_; (try clear hb); (try clear hb2); (try clear hk); (try clear hi)))
                                              have n0_ := Aside0.mk (Kd.N_drew HO_7.out)
                                              have n1_ := Aside0.mk (Kd.V_drew HO407.out)
                                              have n2_ := Aside0.mk (Kd.V_drew HO413.out)
                                              have n3_ := Aside0.mk (below_drew1 HB.out)
                                              clear HO_7
                                              clear HO407
                                              clear HO413
                                              clear HB
                                              have HO_7 := n0_
                                              have HO407 := n1_
                                              have HO413 := n2_
                                              have HB := n3_
                                              clear n0_ n1_ n2_ n3_
                                              have q83 : ((ji63) : Int) ≤ ((x7_44.length : Int) : Int) := of_decide_eq_true (by first | (with_reducible assumption) | assumption)
                                              obtain ⟨i083, hi083, _, hsz83, _⟩ := info_parts info32
                                              have hroom83 : x7_44.length ≤ co52 := (Kd.N_reads' HO_7.out).2.1
                                              have hC83 : Kd.F (Kd.slice 5 (Kd.int .u8)) _ _ Ao52 x7_44.length x7_44 := (Kd.V_at (base := w.heap.size) (Kd.N_V HO_7.out)).2.2
                                              have hcut83 := cut_to (P := Try.prog) 28 32 .i64 Try.underlying28 hi083 Ao52 x7_44.length co52 (ji63) (of_decide_eq_true (by first | (with_reducible assumption) | assumption)) q83 hroom83
                                              have hr83 := Kd.F_take (m := ((ji63) : Int).toNat) hC83 (by omega)
                                              have hy83 : y415.length = ((ji63) : Int).toNat := (by rw [Ny415.out, List.length_take]; omega)
                                              rw [← Ny415.out] at hr83
                                              rw [← hy83] at hcut83
                                              have HO419 := Aside0.mk (show Kd.V (Kd.slice 5 (Kd.int .u8)) 32 _ w.heap.size _ (.slice Ao52 y415.length co52) y415 from Kd.V_mk (by omega) hr83)
                                              have HC419 := Aside0.mk (show y415.length ≤ co52 from by omega)
                                              clear hr83 hC83 hroom83 hi083 hsz83
                                              have KY83 := Aside0.mk hy83
                                              clear hy83
                                              replace q83 := eq_true q83
                                              have p420 : 0 ≤ ((ji63) : Int) := of_decide_eq_true (by first | (with_reducible assumption) | assumption)
                                              have q420 : (ji63) < (x7_44.length : Int) := of_decide_eq_true (by first | (with_reducible assumption) | assumption)
                                              obtain ⟨ad420, A420_0, c420_0, e420, hx420_0, hl420_0, hi420_0⟩ := at_L1 (Kd.N_reads' HO_7.out).2.2 (ji63) p420 q420
                                              cases e420
                                              obtain ⟨ce420, hce420, hMe420, hcc420⟩ := Kd.N_get HO_7.out [] (ji63) p420 (by first | exact q420 | exact of_decide_eq_true (by first | (with_reducible assumption) | assumption) | (have e_ := (Kd.N_reads' HO_7.out).1; omega))
                                              obtain ⟨ua420_0, uc420_0, rfl, ul420_0, ge420_0⟩ := Kd.FK_slice_open hMe420
                                              have hv420_0 := hcc420 0 _ rfl
                                              rw [Nat.add_zero, show ((Kd.slice 5 (Kd.int .u8))).sz = 1 from rfl, Nat.mul_one] at hv420_0
                                              replace hv420_0 := Option.some.inj (hv420_0.symm.trans hx420_0)
                                              injection hv420_0 with hva_ hvn_ hvc_
                                              rw [hva_] at ge420_0
                                              rw [hvc_] at ul420_0
                                              have HL420_0 := Aside0.mk (show Kd.V (Kd.int .u8) 5 _ w.heap.size _ _ (rd_L1 x7_44 (ji63)) from Kd.V_mk ul420_0 ge420_0)
                                              clear hva_ hvn_ hvc_ ge420_0 ul420_0
                                              clear hcc420 hce420
                                              have HR420_0 := Aside0.mk hi420_0
                                              have HC420_0 := Aside0.mk hl420_0
                                              clear hi420_0 hl420_0
                                              replace p420 := eq_true p420
                                              replace q420 := eq_true q420
                                              have q84 : (t401 : Int) ≤ ((x7_44.length : Int) : Int) := of_decide_eq_true (by first | (with_reducible assumption) | assumption)
                                              obtain ⟨i084, hi084, _, hsz84, _⟩ := info_parts info32
                                              have hroom84 : x7_44.length ≤ co52 := (Kd.N_reads' HO_7.out).2.1
                                              have hC84 : Kd.F (Kd.slice 5 (Kd.int .u8)) _ _ (some ad420) x7_44.length x7_44 := (Kd.V_at (base := w.heap.size) (Kd.N_V HO_7.out)).2.2
                                              have q084 : (0 : Int) ≤ (t401 : Int) := of_decide_eq_true (by first | (with_reducible assumption) | assumption)
                                              have hcut84 := cut_from (P := Try.prog) 28 32 .i64 Try.underlying28 hi084 1 hsz84 (some ad420) x7_44.length co52 t401 q084 q84
                                              have hr84 := Kd.F_cut (m := (t401 : Int).toNat) (c := co52) hC84 (by omega) hroom84
                                              obtain ⟨A84, hA84⟩ : ∃ A1, A1 = (if co52 = (t401 : Int).toNat then (some ad420) else ((some ad420) : Option Addr).map (·.add ((t401 : Int).toNat * 1))) := ⟨_, rfl⟩
                                              obtain ⟨c84, hc84⟩ : ∃ c1, c1 = co52 - (t401 : Int).toNat := ⟨_, rfl⟩
                                              have hy84 : y421.length = x7_44.length - (t401 : Int).toNat := (by rw [Ny421.out, List.length_drop] <;> omega)
                                              rw [show (x7_44).drop (t401 : Int).toNat = y421 from Ny421.out.symm] at hr84
                                              replace hr84 : Kd.F (Kd.slice 5 (Kd.int .u8)) _ _ A84 y421.length y421 := (by rw [hA84]; exact hr84)
                                              rw [← hy84, ← hA84, ← hc84] at hcut84
                                              have HO425 := Aside0.mk (show Kd.V (Kd.slice 5 (Kd.int .u8)) 32 _ w.heap.size _ (.slice A84 y421.length c84) y421 from Kd.V_mk (by rw [hy84, hc84]; exact Nat.sub_le_sub_right hroom84 _) hr84)
                                              have HC425 := Aside0.mk (show y421.length ≤ c84 from by rw [hy84, hc84]; exact Nat.sub_le_sub_right hroom84 _)
                                              clear hr84 hC84 hroom84 hi084 hsz84 hc84
                                              have KY84 := Aside0.mk hy84
                                              have KA84 := Aside0.mk hA84
                                              clear hy84 hA84
                                              replace q84 := eq_true q84
                                              refine start_ (n := 14) (S := fun w' => w'.cell? (ad420.add ((ji63)).toNat) = some (.slice A420_0 (rd_L1 x7_44 (ji63)).length c420_0)) (ds := []) #[false, false, false, false, false, false, false, false, false, false, false, false, false, false] (by kernel_rfl) rfl rfl (hx420_0) (fun hHeld => ?_); refine with_tabW coppicelaw9_CutBranchesAlways.tab29 coppicelaw9_CutBranchesAlways.bits29 (fun HT_ HW_ => ?_)
                                              generalize w81.drew = w82 at HO_7 HO407 HO413 HB HL420_0 HO419 HO425 HR420_0 hx420_0 hHeld ⊢
                                              refine pure_ (i := 0) (N := some 130) (v := ?_) (a' := ?_) #[true, false, false, false, false, false, false, false, false, false, false, false, false, false] rfl rfl (any_of HT_.out (by kernel_rfl)) (fun _ _ _ h => h) (Or.inl ⟨by rfl, ?_⟩) ?_ ?_
                                              rotate_left
                                              · intro w'
                                                go_simp
                                                with_reducible rfl
                                              rotate_left
                                              · simp only [Act.put, List.setIfInBounds_toArray, List.set_cons_zero, List.set_cons_succ, i64_w, i32_w]
                                                rfl
                                              refine pure_ (i := 1) (N := some 131) (v := ?_) (a' := ?_) #[true, true, false, false, false, false, false, false, false, false, false, false, false, false] rfl rfl (any_of HT_.out (by kernel_rfl)) (fun _ _ _ h => h) (Or.inl ⟨by rfl, ?_⟩) ?_ ?_
                                              rotate_left
                                              · intro w'
                                                go_simp
                                                with_reducible rfl
                                              rotate_left
                                              · simp only [Act.put, List.setIfInBounds_toArray, List.set_cons_zero, List.set_cons_succ, i64_w, i32_w]
                                                rfl
                                              refine pure_ (i := 2) (N := some 132) (v := ?_) (a' := ?_) #[true, true, true, false, false, false, false, false, false, false, false, false, false, false] rfl rfl (any_of HT_.out (by kernel_rfl)) (fun _ _ _ h => h) (Or.inl ⟨by rfl, ?_⟩) ?_ ?_
                                              rotate_left
                                              · intro w'
                                                go_simp
                                                with_reducible rfl
                                              rotate_left
                                              · simp only [Act.put, List.setIfInBounds_toArray, List.set_cons_zero, List.set_cons_succ, i64_w, i32_w]
                                                rfl
                                              refine pure_ (i := 3) (N := some 133) (v := ?_) (a' := ?_) #[true, true, true, true, false, false, false, false, false, false, false, false, false, false] rfl rfl (any_of HT_.out (by kernel_rfl)) (fun _ _ _ h => h) (Or.inl ⟨by rfl, ?_⟩) ?_ ?_
                                              rotate_left
                                              · intro w'
                                                go_simp
                                                with_reducible rfl
                                              rotate_left
                                              · simp only [Act.put, List.setIfInBounds_toArray, List.set_cons_zero, List.set_cons_succ, i64_w, i32_w]
                                                rfl
                                              refine pure_ (i := 4) (N := some 134) (v := ?_) (a' := ?_) #[true, true, true, true, true, false, false, false, false, false, false, false, false, false] rfl rfl (any_of HT_.out (by kernel_rfl)) (fun _ _ _ h => h) (Or.inl ⟨by rfl, ?_⟩) ?_ ?_
                                              rotate_left
                                              · intro w'
                                                go_simp
                                                with_reducible rfl
                                              rotate_left
                                              · simp only [Act.put, List.setIfInBounds_toArray, List.set_cons_zero, List.set_cons_succ, i64_w, i32_w]
                                                rfl
                                              refine pure_ (i := 5) (N := some 135) (v := ?_) (a' := ?_) #[true, true, true, true, true, true, false, false, false, false, false, false, false, false] rfl rfl (any_of HT_.out (by kernel_rfl)) (fun _ _ _ h => h) (Or.inl ⟨by rfl, ?_⟩) ?_ ?_
                                              rotate_left
                                              · intro w'
                                                go_simp
                                                with_reducible rfl
                                              rotate_left
                                              · simp only [Act.put, List.setIfInBounds_toArray, List.set_cons_zero, List.set_cons_succ, i64_w, i32_w]
                                                rfl
                                              refine pure_ (i := 6) (N := some 136) (v := ?_) (a' := ?_) #[true, true, true, true, true, true, true, false, false, false, false, false, false, false] rfl rfl (any_of HT_.out (by kernel_rfl)) (fun _ _ _ h => h) (Or.inl ⟨by rfl, ?_⟩) ?_ ?_
                                              rotate_left
                                              · intro w'
                                                go_simp
                                                with_reducible rfl
                                              rotate_left
                                              · simp only [Act.put, List.setIfInBounds_toArray, List.set_cons_zero, List.set_cons_succ, i64_w, i32_w]
                                                rfl
                                              refine pure_ (i := 7) (N := some 137) (v := ?_) (a' := ?_) #[true, true, true, true, true, true, true, true, false, false, false, false, false, false] rfl rfl (any_of HT_.out (by kernel_rfl)) (fun _ _ _ h => h) (Or.inl ⟨by rfl, ?_⟩) ?_ ?_
                                              rotate_left
                                              · intro w'
                                                go_simp
                                                with_reducible rfl
                                              rotate_left
                                              · simp only [Act.put, List.setIfInBounds_toArray, List.set_cons_zero, List.set_cons_succ, i64_w, i32_w]
                                                rfl
                                              refine pure_ (i := 9) (N := some 139) (v := ?_) (a' := ?_) #[true, true, true, true, true, true, true, true, false, true, false, false, false, false] rfl rfl (any_of HT_.out (by kernel_rfl)) (fun _ _ _ h => h) (Or.inl ⟨by rfl, ?_⟩) ?_ ?_
                                              rotate_left
                                              · intro w'
                                                go_simp
                                                with_reducible rfl
                                              rotate_left
                                              · simp only [Act.put, List.setIfInBounds_toArray, List.set_cons_zero, List.set_cons_succ, i64_w, i32_w]
                                                rfl
                                              refine pure_ (i := 10) (N := some 140) (v := ?_) (a' := ?_) #[true, true, true, true, true, true, true, true, false, true, true, false, false, false] rfl rfl (any_of HT_.out (by kernel_rfl)) (fun _ _ _ h => h) (Or.inl ⟨by rfl, ?_⟩) ?_ ?_
                                              rotate_left
                                              · intro w'
                                                go_simp
                                                with_reducible rfl
                                              rotate_left
                                              · simp only [Act.put, List.setIfInBounds_toArray, List.set_cons_zero, List.set_cons_succ, i64_w, i32_w]
                                                rfl
                                              refine pure_ (i := 11) (N := some 141) (v := ?_) (a' := ?_) #[true, true, true, true, true, true, true, true, false, true, true, true, false, false] rfl rfl (any_of HT_.out (by kernel_rfl)) (fun _ _ _ h => h) (Or.inl ⟨by rfl, ?_⟩) ?_ ?_
                                              rotate_left
                                              · intro w'
                                                go_simp
                                                with_reducible rfl
                                              rotate_left
                                              · simp only [Act.put, List.setIfInBounds_toArray, List.set_cons_zero, List.set_cons_succ, i64_w, i32_w]
                                                rfl
                                              refine take_ (i := 8) (N := some 138) (v := ?_) (a' := ?_) #[true, true, true, true, true, true, true, true, true, true, true, true, false, false] rfl rfl (take_ofW HT_.out HW_.out (by kernel_rfl)) (fun _ _ _ h => h) (Or.inl ⟨by rfl, ?_⟩) hHeld ?_ ?_
                                              rotate_left
                                              · intro w' s0
                                                go_simp
                                                with_reducible rfl
                                              rotate_left
                                              · simp only [Act.put, List.setIfInBounds_toArray, List.set_cons_zero, List.set_cons_succ, i64_w, i32_w]
                                                rfl
                                              refine one_ (i := 12) (N := some 142) #[true, true, true, true, true, true, true, true, true, true, true, true, true, false] rfl rfl (one_of HT_.out (by kernel_rfl)) (by decide) (fun K hK => ?_)
                                              refine goes_ Try.func21 (by kernel_rfl) rfl #[.slice (some ad420) y415.length co52, .slice A420_0 (rd_L1 x7_44 (ji63)).length c420_0, .slice A84 y421.length c84] (by rfl) rfl rfl (by (try simp only [List.map_toArray, List.map_cons, List.map_nil]); first | done | (simp only [hji63]; rfl) | rfl | (have he_ := (hcut80 w).symm.trans (hcut84 w); simp only [Result.ok.injEq, Value.slice.injEq, and_true] at he_; go_simp; (first | exact ⟨by rw [Ny403.out, Ny415.out], he_.1, he_.2.1, he_.2.2⟩ | exact ⟨by rw [Ny403.out, Ny415.out], he_⟩ | exact he_ | rw [Ny403.out, Ny415.out])) | (simp only [List.length_drop, List.length_take]; rfl)) ?_
                                              with_reducible refine (cut_JoinBranches.calls kj59 (fun k_ => ((P0_ k_ ∨ P1_ k_) ∨ w.heap.size ≤ k_)) _ _ y415 (fun k_ => (((P0_ k_ ∨ P1_ k_) ∨ w.heap.size ≤ k_) ∧ some k_ ≠ (.slice (some ad420) x7_44.length co52 : Value).ownBlock)) _ _ (rd_L1 x7_44 (ji63)) (fun k_ => ((P0_ k_ ∨ P1_ k_) ∨ w.heap.size ≤ k_)) _ _ y421 t426 _ ?side1 ?side2 ?side3 A75.out).mono ?_
                                              (case side1 => exact HO419.out)
                                              (case side2 => exact HL420_0.out)
                                              (case side3 => exact HO425.out)
                                              rintro e w85 ⟨rfl, hb⟩
                                              have HS0_ := (hb.cell (World.block_lt_of_cell? _ _ (hHeld))).trans (hHeld)
                                              refine ⟨_, rfl, ?_⟩
                                              have n0_ := Aside0.mk (Kd.N_below (by (with_reducible repeat (first | apply Kd.N_alloc | apply Kd.N_drewN | apply Kd.N_drew)); exact HO_7.out) hb)
                                              have n1_ := Aside0.mk (Kd.V_below (by (with_reducible repeat (first | apply Kd.V_alloc | apply Kd.V_drewN | apply Kd.V_drew)); exact HO407.out) hb)
                                              have n2_ := Aside0.mk (Kd.V_below (by (with_reducible repeat (first | apply Kd.V_alloc | apply Kd.V_drewN | apply Kd.V_drew)); exact HO413.out) hb)
                                              have n3_ := Aside0.mk (Kd.V_below (by (with_reducible repeat (first | apply Kd.V_alloc | apply Kd.V_drewN | apply Kd.V_drew)); exact HO419.out) hb)
                                              have n4_ := Aside0.mk (Kd.V_below (by (with_reducible repeat (first | apply Kd.V_alloc | apply Kd.V_drewN | apply Kd.V_drew)); exact HL420_0.out) hb)
                                              have n5_ := Aside0.mk (Kd.V_below (by (with_reducible repeat (first | apply Kd.V_alloc | apply Kd.V_drewN | apply Kd.V_drew)); exact HO425.out) hb)
                                              have n6_ := Aside0.mk (Kd.C_below (by repeat (first | (with_reducible exact HR420_0.out) | (with_reducible refine Kd.C_alloc ?_ _) | (with_reducible refine Kd.C_drewN ?_ _) | (with_reducible refine Kd.C_drew ?_) | exact HR420_0.out)) hb)
                                              have n7_ := Aside0.mk (below_step (by repeat (first | (with_reducible first | exact HB.out | apply below_alloc | apply pw_below_drewN | apply below_drew1) | exact HB.out)) hb)
                                              clear HO_7
                                              clear HO407
                                              clear HO413
                                              clear HO419
                                              clear HL420_0
                                              clear HO425
                                              clear HR420_0
                                              clear HB
                                              have HO_7 := n0_
                                              have HO407 := n1_
                                              have HO413 := n2_
                                              have HO419 := n3_
                                              have HL420_0 := n4_
                                              have HO425 := n5_
                                              have HR420_0 := n6_
                                              have HB := n7_
                                              clear n0_ n1_ n2_ n3_ n4_ n5_ n6_ n7_
                                              (try clear hb)
                                              (try clear hb2)
                                              (try clear hk)
                                              (try clear hi)
                                              refine hK.out _ _ (HS0_) (fun hHeld => ?_)
                                              clear hK K
                                              refine norm_ (a' := ?_) ?_ ?_
                                              rotate_left
                                              · show Act.put _ (some 142) _ = _
                                                simp only [Act.put, List.setIfInBounds_toArray, List.set_cons_zero, List.set_cons_succ, i64_w, i32_w]
                                                rfl
                                              refine pure_ (i := 13) (N := some 14) (v := ?_) (a' := ?_) #[true, true, true, true, true, true, true, true, true, true, true, true, true, true] rfl rfl (any_of HT_.out (by kernel_rfl)) (fun _ _ _ h => h) (Or.inl ⟨by rfl, ?_⟩) ?_ ?_
                                              rotate_left
                                              · intro w'
                                                go_simp
                                                with_reducible rfl
                                              rotate_left
                                              · simp only [Act.put, List.setIfInBounds_toArray, List.set_cons_zero, List.set_cons_succ, i64_w, i32_w]
                                                rfl
                                              refine done_ (done_of HT_.out (by kernel_rfl)) ?_
                                              try go_wp2
                                              go_ret
                                              exact ⟨by first | rfl | (simp [errW_none, errW_some] <;> rfl) | (simp only [← hji63]; first | rfl | (simp [errW_none, errW_some] <;> rfl)) | (simp [*, errW_none, errW_some] <;> rfl), by repeat (first | (with_reducible first | exact HB.out | apply below_alloc | apply pw_below_drewN | apply below_drew1) | exact HB.out)⟩
                                            · rw [if_neg c77] at H
                                              have c77b0 : decide (t414 ≤ 4092) = false := decide_eq_false c77
                                              clear c77
                                              obtain rfl := Option.some.inj H
                                              have q86 : ((ji63) : Int) ≤ ((x7_44.length : Int) : Int) := of_decide_eq_true (by first | (with_reducible assumption) | assumption)
                                              obtain ⟨i086, hi086, _, hsz86, _⟩ := info_parts info32
                                              have hroom86 : x7_44.length ≤ co52 := (Kd.N_reads' HO_7.out).2.1
                                              have hC86 : Kd.F (Kd.slice 5 (Kd.int .u8)) _ _ Ao52 x7_44.length x7_44 := (Kd.V_at (base := w.heap.size) (Kd.N_V HO_7.out)).2.2
                                              have hcut86 := cut_to (P := Try.prog) 28 32 .i64 Try.underlying28 hi086 Ao52 x7_44.length co52 (ji63) (of_decide_eq_true (by first | (with_reducible assumption) | assumption)) q86 hroom86
                                              have hr86 := Kd.F_take (m := ((ji63) : Int).toNat) hC86 (by omega)
                                              have hy86 : y403.length = ((ji63) : Int).toNat := (by rw [Ny403.out, List.length_take]; omega)
                                              rw [← Ny403.out] at hr86
                                              rw [← hy86] at hcut86
                                              have HO407 := Aside0.mk (show Kd.V (Kd.slice 5 (Kd.int .u8)) 32 _ w.heap.size _ (.slice Ao52 y403.length co52) y403 from Kd.V_mk (by omega) hr86)
                                              have HC407 := Aside0.mk (show y403.length ≤ co52 from by omega)
                                              clear hr86 hC86 hroom86 hi086 hsz86
                                              have KY86 := Aside0.mk hy86
                                              clear hy86
                                              replace q86 := eq_true q86
                                              try go_wp2_with (first | ((with_reducible refine gate_callee (f := 25) rfl ?_); refine goesL_ (some 125) rfl rfl Try.func25 (by kernel_rfl) rfl #[.slice Ao52 y403.length co52] rfl (by (try simp only [List.map_toArray, List.map_cons, List.map_nil]); first | done | rfl | (simp only [List.length_drop, List.length_take]; rfl)) ?_; (with_reducible refine (branch_Size.calls kj59 _ _ y403 t408 _ ?side1 ?side2 A66.out).mono ?_); (case side1 => repeat (first | exact (Kd.V_reads' HO407.out).2.2 | (with_reducible refine Kd.C_alloc ?_ _) | (with_reducible refine Kd.C_drewN ?_ _) | (with_reducible refine Kd.C_drew ?_))); (case side2 => exact (Kd.V_reads' HO407.out).2.1); rintro e w87 ⟨rfl, hb⟩; refine ⟨_, rfl, ?_⟩; have n0_ := Aside0.mk (Kd.N_below (by (with_reducible repeat (first | apply Kd.N_alloc | apply Kd.N_drewN | apply Kd.N_drew)); exact HO_7.out) hb); have n1_ := Aside0.mk (Kd.V_below (by (with_reducible repeat (first | apply Kd.V_alloc | apply Kd.V_drewN | apply Kd.V_drew)); exact HO407.out) hb); have n2_ := Aside0.mk (below_step (by repeat (first | (with_reducible first | exact HB.out | apply below_alloc | apply pw_below_drewN | apply below_drew1) | exact HB.out)) hb); clear HO_7; clear HO407; clear HB; have HO_7 := n0_; have HO407 := n1_; have HB := n2_; clear n0_ n1_ n2_; (try clear hb); (try clear hb2); (try clear hk); (try clear hi); have q88 : (t401 : Int) ≤ ((x7_44.length : Int) : Int) := of_decide_eq_true (by first | (with_reducible assumption) | assumption); obtain ⟨i088, hi088, _, hsz88, _⟩ := info_parts info32; have hroom88 : x7_44.length ≤ co52 := (Kd.N_reads' HO_7.out).2.1; have hC88 : Kd.F (Kd.slice 5 (Kd.int .u8)) _ _ Ao52 x7_44.length x7_44 := (Kd.V_at (base := w.heap.size) (Kd.N_V HO_7.out)).2.2; have q088 : (0 : Int) ≤ (t401 : Int) := of_decide_eq_true (by first | (with_reducible assumption) | assumption); have hcut88 := cut_from (P := Try.prog) 28 32 .i64 Try.underlying28 hi088 1 hsz88 Ao52 x7_44.length co52 t401 q088 q88; have hr88 := Kd.F_cut (m := (t401 : Int).toNat) (c := co52) hC88 (by omega) hroom88; obtain ⟨A88, hA88⟩ : ∃ A1, A1 = (if co52 = (t401 : Int).toNat then Ao52 else (Ao52 : Option Addr).map (·.add ((t401 : Int).toNat * 1))) := ⟨_, rfl⟩; obtain ⟨c88, hc88⟩ : ∃ c1, c1 = co52 - (t401 : Int).toNat := ⟨_, rfl⟩; have hy88 : y409.length = x7_44.length - (t401 : Int).toNat := (by rw [Ny409.out, List.length_drop] <;> omega); rw [show (x7_44).drop (t401 : Int).toNat = y409 from Ny409.out.symm] at hr88; replace hr88 : Kd.F (Kd.slice 5 (Kd.int .u8)) _ _ A88 y409.length y409 := (by rw [hA88]; exact hr88); rw [← hy88, ← hA88, ← hc88] at hcut88; have HO413 := Aside0.mk (show Kd.V (Kd.slice 5 (Kd.int .u8)) 32 _ w.heap.size _ (.slice A88 y409.length c88) y409 from Kd.V_mk (by rw [hy88, hc88]; exact Nat.sub_le_sub_right hroom88 _) hr88); have HC413 := Aside0.mk (show y409.length ≤ c88 from by rw [hy88, hc88]; exact Nat.sub_le_sub_right hroom88 _); clear hr88 hC88 hroom88 hi088 hsz88 hc88; have KY88 := Aside0.mk hy88; have KA88 := Aside0.mk hA88; clear hy88 hA88; replace q88 := eq_true q88) | ((with_reducible refine gate_callee (f := 25) rfl ?_); refine goesL_ (some 129) rfl rfl Try.func25 (by kernel_rfl) rfl #[.slice A88 y409.length c88] rfl (by (try simp only [List.map_toArray, List.map_cons, List.map_nil]); first | done | rfl | (simp only [List.length_drop, List.length_take]; rfl)) ?_; (with_reducible refine (branch_Size.calls kj59 _ _ y409 t414 _ ?side1 ?side2 A69.out).mono ?_); (case side1 => repeat (first | exact (Kd.V_reads' HO413.out).2.2 | (with_reducible refine Kd.C_alloc ?_ _) | (with_reducible refine Kd.C_drewN ?_ _) | (with_reducible refine Kd.C_drew ?_))); (case side2 => exact (Kd.V_reads' HO413.out).2.1); rintro e w89 ⟨rfl, hb⟩; refine ⟨_, rfl, ?_⟩; have n0_ := Aside0.mk (Kd.N_below (by (with_reducible repeat (first | apply Kd.N_alloc | apply Kd.N_drewN | apply Kd.N_drew)); exact HO_7.out) hb); have n1_ := Aside0.mk (Kd.V_below (by (with_reducible repeat (first | apply Kd.V_alloc | apply Kd.V_drewN | apply Kd.V_drew)); exact HO407.out) hb); have n2_ := Aside0.mk (Kd.V_below (by (with_reducible repeat (first | apply Kd.V_alloc | apply Kd.V_drewN | apply Kd.V_drew)); exact HO413.out) hb); have n3_ := Aside0.mk (below_step (by repeat (first | (with_reducible first | exact HB.out | apply below_alloc | apply pw_below_drewN | apply below_drew1) | exact HB.out)) hb); clear HO_7; clear HO407; clear HO413; clear HB; have HO_7 := n0_; have HO407 := n1_; have HO413 := n2_; have HB := n3_; clear n0_ n1_ n2_ n3_; (try clear hb); (try clear hb2); (try clear hk); (try clear hi)))
                                              have n0_ := Aside0.mk (Kd.N_drew HO_7.out)
                                              have n1_ := Aside0.mk (Kd.V_drew HO407.out)
                                              have n2_ := Aside0.mk (Kd.V_drew HO413.out)
                                              have n3_ := Aside0.mk (below_drew1 HB.out)
                                              clear HO_7
                                              clear HO407
                                              clear HO413
                                              clear HB
                                              have HO_7 := n0_
                                              have HO407 := n1_
                                              have HO413 := n2_
                                              have HB := n3_
                                              clear n0_ n1_ n2_ n3_
                                              have q91 : ((ji63) : Int) ≤ ((x7_44.length : Int) : Int) := of_decide_eq_true (by first | (with_reducible assumption) | assumption)
                                              obtain ⟨i091, hi091, _, hsz91, _⟩ := info_parts info32
                                              have hroom91 : x7_44.length ≤ co52 := (Kd.N_reads' HO_7.out).2.1
                                              have hC91 : Kd.F (Kd.slice 5 (Kd.int .u8)) _ _ Ao52 x7_44.length x7_44 := (Kd.V_at (base := w.heap.size) (Kd.N_V HO_7.out)).2.2
                                              have hcut91 := cut_to (P := Try.prog) 28 32 .i64 Try.underlying28 hi091 Ao52 x7_44.length co52 (ji63) (of_decide_eq_true (by first | (with_reducible assumption) | assumption)) q91 hroom91
                                              have hr91 := Kd.F_take (m := ((ji63) : Int).toNat) hC91 (by omega)
                                              have hy91 : y415.length = ((ji63) : Int).toNat := (by rw [Ny415.out, List.length_take]; omega)
                                              rw [← Ny415.out] at hr91
                                              rw [← hy91] at hcut91
                                              have HO419 := Aside0.mk (show Kd.V (Kd.slice 5 (Kd.int .u8)) 32 _ w.heap.size _ (.slice Ao52 y415.length co52) y415 from Kd.V_mk (by omega) hr91)
                                              have HC419 := Aside0.mk (show y415.length ≤ co52 from by omega)
                                              clear hr91 hC91 hroom91 hi091 hsz91
                                              have KY91 := Aside0.mk hy91
                                              clear hy91
                                              replace q91 := eq_true q91
                                              have p420 : 0 ≤ ((ji63) : Int) := of_decide_eq_true (by first | (with_reducible assumption) | assumption)
                                              have q420 : (ji63) < (x7_44.length : Int) := of_decide_eq_true (by first | (with_reducible assumption) | assumption)
                                              obtain ⟨ad420, A420_0, c420_0, e420, hx420_0, hl420_0, hi420_0⟩ := at_L1 (Kd.N_reads' HO_7.out).2.2 (ji63) p420 q420
                                              cases e420
                                              obtain ⟨ce420, hce420, hMe420, hcc420⟩ := Kd.N_get HO_7.out [] (ji63) p420 (by first | exact q420 | exact of_decide_eq_true (by first | (with_reducible assumption) | assumption) | (have e_ := (Kd.N_reads' HO_7.out).1; omega))
                                              obtain ⟨ua420_0, uc420_0, rfl, ul420_0, ge420_0⟩ := Kd.FK_slice_open hMe420
                                              have hv420_0 := hcc420 0 _ rfl
                                              rw [Nat.add_zero, show ((Kd.slice 5 (Kd.int .u8))).sz = 1 from rfl, Nat.mul_one] at hv420_0
                                              replace hv420_0 := Option.some.inj (hv420_0.symm.trans hx420_0)
                                              injection hv420_0 with hva_ hvn_ hvc_
                                              rw [hva_] at ge420_0
                                              rw [hvc_] at ul420_0
                                              have HL420_0 := Aside0.mk (show Kd.V (Kd.int .u8) 5 _ w.heap.size _ _ (rd_L1 x7_44 (ji63)) from Kd.V_mk ul420_0 ge420_0)
                                              clear hva_ hvn_ hvc_ ge420_0 ul420_0
                                              clear hcc420 hce420
                                              have HR420_0 := Aside0.mk hi420_0
                                              have HC420_0 := Aside0.mk hl420_0
                                              clear hi420_0 hl420_0
                                              replace p420 := eq_true p420
                                              replace q420 := eq_true q420
                                              have q92 : (t401 : Int) ≤ ((x7_44.length : Int) : Int) := of_decide_eq_true (by first | (with_reducible assumption) | assumption)
                                              obtain ⟨i092, hi092, _, hsz92, _⟩ := info_parts info32
                                              have hroom92 : x7_44.length ≤ co52 := (Kd.N_reads' HO_7.out).2.1
                                              have hC92 : Kd.F (Kd.slice 5 (Kd.int .u8)) _ _ (some ad420) x7_44.length x7_44 := (Kd.V_at (base := w.heap.size) (Kd.N_V HO_7.out)).2.2
                                              have q092 : (0 : Int) ≤ (t401 : Int) := of_decide_eq_true (by first | (with_reducible assumption) | assumption)
                                              have hcut92 := cut_from (P := Try.prog) 28 32 .i64 Try.underlying28 hi092 1 hsz92 (some ad420) x7_44.length co52 t401 q092 q92
                                              have hr92 := Kd.F_cut (m := (t401 : Int).toNat) (c := co52) hC92 (by omega) hroom92
                                              obtain ⟨A92, hA92⟩ : ∃ A1, A1 = (if co52 = (t401 : Int).toNat then (some ad420) else ((some ad420) : Option Addr).map (·.add ((t401 : Int).toNat * 1))) := ⟨_, rfl⟩
                                              obtain ⟨c92, hc92⟩ : ∃ c1, c1 = co52 - (t401 : Int).toNat := ⟨_, rfl⟩
                                              have hy92 : y421.length = x7_44.length - (t401 : Int).toNat := (by rw [Ny421.out, List.length_drop] <;> omega)
                                              rw [show (x7_44).drop (t401 : Int).toNat = y421 from Ny421.out.symm] at hr92
                                              replace hr92 : Kd.F (Kd.slice 5 (Kd.int .u8)) _ _ A92 y421.length y421 := (by rw [hA92]; exact hr92)
                                              rw [← hy92, ← hA92, ← hc92] at hcut92
                                              have HO425 := Aside0.mk (show Kd.V (Kd.slice 5 (Kd.int .u8)) 32 _ w.heap.size _ (.slice A92 y421.length c92) y421 from Kd.V_mk (by rw [hy92, hc92]; exact Nat.sub_le_sub_right hroom92 _) hr92)
                                              have HC425 := Aside0.mk (show y421.length ≤ c92 from by rw [hy92, hc92]; exact Nat.sub_le_sub_right hroom92 _)
                                              clear hr92 hC92 hroom92 hi092 hsz92 hc92
                                              have KY92 := Aside0.mk hy92
                                              have KA92 := Aside0.mk hA92
                                              clear hy92 hA92
                                              replace q92 := eq_true q92
                                              refine start_ (n := 14) (S := fun w' => w'.cell? (ad420.add ((ji63)).toNat) = some (.slice A420_0 (rd_L1 x7_44 (ji63)).length c420_0)) (ds := []) #[false, false, false, false, false, false, false, false, false, false, false, false, false, false] (by kernel_rfl) rfl rfl (hx420_0) (fun hHeld => ?_); refine with_tabW coppicelaw9_CutBranchesAlways.tab29 coppicelaw9_CutBranchesAlways.bits29 (fun HT_ HW_ => ?_)
                                              generalize w89.drew = w90 at HO_7 HO407 HO413 HB HL420_0 HO419 HO425 HR420_0 hx420_0 hHeld ⊢
                                              refine pure_ (i := 0) (N := some 130) (v := ?_) (a' := ?_) #[true, false, false, false, false, false, false, false, false, false, false, false, false, false] rfl rfl (any_of HT_.out (by kernel_rfl)) (fun _ _ _ h => h) (Or.inl ⟨by rfl, ?_⟩) ?_ ?_
                                              rotate_left
                                              · intro w'
                                                go_simp
                                                with_reducible rfl
                                              rotate_left
                                              · simp only [Act.put, List.setIfInBounds_toArray, List.set_cons_zero, List.set_cons_succ, i64_w, i32_w]
                                                rfl
                                              refine pure_ (i := 1) (N := some 131) (v := ?_) (a' := ?_) #[true, true, false, false, false, false, false, false, false, false, false, false, false, false] rfl rfl (any_of HT_.out (by kernel_rfl)) (fun _ _ _ h => h) (Or.inl ⟨by rfl, ?_⟩) ?_ ?_
                                              rotate_left
                                              · intro w'
                                                go_simp
                                                with_reducible rfl
                                              rotate_left
                                              · simp only [Act.put, List.setIfInBounds_toArray, List.set_cons_zero, List.set_cons_succ, i64_w, i32_w]
                                                rfl
                                              refine pure_ (i := 2) (N := some 132) (v := ?_) (a' := ?_) #[true, true, true, false, false, false, false, false, false, false, false, false, false, false] rfl rfl (any_of HT_.out (by kernel_rfl)) (fun _ _ _ h => h) (Or.inl ⟨by rfl, ?_⟩) ?_ ?_
                                              rotate_left
                                              · intro w'
                                                go_simp
                                                with_reducible rfl
                                              rotate_left
                                              · simp only [Act.put, List.setIfInBounds_toArray, List.set_cons_zero, List.set_cons_succ, i64_w, i32_w]
                                                rfl
                                              refine pure_ (i := 3) (N := some 133) (v := ?_) (a' := ?_) #[true, true, true, true, false, false, false, false, false, false, false, false, false, false] rfl rfl (any_of HT_.out (by kernel_rfl)) (fun _ _ _ h => h) (Or.inl ⟨by rfl, ?_⟩) ?_ ?_
                                              rotate_left
                                              · intro w'
                                                go_simp
                                                with_reducible rfl
                                              rotate_left
                                              · simp only [Act.put, List.setIfInBounds_toArray, List.set_cons_zero, List.set_cons_succ, i64_w, i32_w]
                                                rfl
                                              refine pure_ (i := 4) (N := some 134) (v := ?_) (a' := ?_) #[true, true, true, true, true, false, false, false, false, false, false, false, false, false] rfl rfl (any_of HT_.out (by kernel_rfl)) (fun _ _ _ h => h) (Or.inl ⟨by rfl, ?_⟩) ?_ ?_
                                              rotate_left
                                              · intro w'
                                                go_simp
                                                with_reducible rfl
                                              rotate_left
                                              · simp only [Act.put, List.setIfInBounds_toArray, List.set_cons_zero, List.set_cons_succ, i64_w, i32_w]
                                                rfl
                                              refine pure_ (i := 5) (N := some 135) (v := ?_) (a' := ?_) #[true, true, true, true, true, true, false, false, false, false, false, false, false, false] rfl rfl (any_of HT_.out (by kernel_rfl)) (fun _ _ _ h => h) (Or.inl ⟨by rfl, ?_⟩) ?_ ?_
                                              rotate_left
                                              · intro w'
                                                go_simp
                                                with_reducible rfl
                                              rotate_left
                                              · simp only [Act.put, List.setIfInBounds_toArray, List.set_cons_zero, List.set_cons_succ, i64_w, i32_w]
                                                rfl
                                              refine pure_ (i := 6) (N := some 136) (v := ?_) (a' := ?_) #[true, true, true, true, true, true, true, false, false, false, false, false, false, false] rfl rfl (any_of HT_.out (by kernel_rfl)) (fun _ _ _ h => h) (Or.inl ⟨by rfl, ?_⟩) ?_ ?_
                                              rotate_left
                                              · intro w'
                                                go_simp
                                                with_reducible rfl
                                              rotate_left
                                              · simp only [Act.put, List.setIfInBounds_toArray, List.set_cons_zero, List.set_cons_succ, i64_w, i32_w]
                                                rfl
                                              refine pure_ (i := 7) (N := some 137) (v := ?_) (a' := ?_) #[true, true, true, true, true, true, true, true, false, false, false, false, false, false] rfl rfl (any_of HT_.out (by kernel_rfl)) (fun _ _ _ h => h) (Or.inl ⟨by rfl, ?_⟩) ?_ ?_
                                              rotate_left
                                              · intro w'
                                                go_simp
                                                with_reducible rfl
                                              rotate_left
                                              · simp only [Act.put, List.setIfInBounds_toArray, List.set_cons_zero, List.set_cons_succ, i64_w, i32_w]
                                                rfl
                                              refine pure_ (i := 9) (N := some 139) (v := ?_) (a' := ?_) #[true, true, true, true, true, true, true, true, false, true, false, false, false, false] rfl rfl (any_of HT_.out (by kernel_rfl)) (fun _ _ _ h => h) (Or.inl ⟨by rfl, ?_⟩) ?_ ?_
                                              rotate_left
                                              · intro w'
                                                go_simp
                                                with_reducible rfl
                                              rotate_left
                                              · simp only [Act.put, List.setIfInBounds_toArray, List.set_cons_zero, List.set_cons_succ, i64_w, i32_w]
                                                rfl
                                              refine pure_ (i := 10) (N := some 140) (v := ?_) (a' := ?_) #[true, true, true, true, true, true, true, true, false, true, true, false, false, false] rfl rfl (any_of HT_.out (by kernel_rfl)) (fun _ _ _ h => h) (Or.inl ⟨by rfl, ?_⟩) ?_ ?_
                                              rotate_left
                                              · intro w'
                                                go_simp
                                                with_reducible rfl
                                              rotate_left
                                              · simp only [Act.put, List.setIfInBounds_toArray, List.set_cons_zero, List.set_cons_succ, i64_w, i32_w]
                                                rfl
                                              refine pure_ (i := 11) (N := some 141) (v := ?_) (a' := ?_) #[true, true, true, true, true, true, true, true, false, true, true, true, false, false] rfl rfl (any_of HT_.out (by kernel_rfl)) (fun _ _ _ h => h) (Or.inl ⟨by rfl, ?_⟩) ?_ ?_
                                              rotate_left
                                              · intro w'
                                                go_simp
                                                with_reducible rfl
                                              rotate_left
                                              · simp only [Act.put, List.setIfInBounds_toArray, List.set_cons_zero, List.set_cons_succ, i64_w, i32_w]
                                                rfl
                                              refine take_ (i := 8) (N := some 138) (v := ?_) (a' := ?_) #[true, true, true, true, true, true, true, true, true, true, true, true, false, false] rfl rfl (take_ofW HT_.out HW_.out (by kernel_rfl)) (fun _ _ _ h => h) (Or.inl ⟨by rfl, ?_⟩) hHeld ?_ ?_
                                              rotate_left
                                              · intro w' s0
                                                go_simp
                                                with_reducible rfl
                                              rotate_left
                                              · simp only [Act.put, List.setIfInBounds_toArray, List.set_cons_zero, List.set_cons_succ, i64_w, i32_w]
                                                rfl
                                              refine one_ (i := 12) (N := some 142) #[true, true, true, true, true, true, true, true, true, true, true, true, true, false] rfl rfl (one_of HT_.out (by kernel_rfl)) (by decide) (fun K hK => ?_)
                                              refine goes_ Try.func21 (by kernel_rfl) rfl #[.slice (some ad420) y415.length co52, .slice A420_0 (rd_L1 x7_44 (ji63)).length c420_0, .slice A92 y421.length c92] (by rfl) rfl rfl (by (try simp only [List.map_toArray, List.map_cons, List.map_nil]); first | done | (simp only [hji63]; rfl) | rfl | (have he_ := (hcut88 w).symm.trans (hcut92 w); simp only [Result.ok.injEq, Value.slice.injEq, and_true] at he_; go_simp; (first | exact ⟨by rw [Ny403.out, Ny415.out], he_.1, he_.2.1, he_.2.2⟩ | exact ⟨by rw [Ny403.out, Ny415.out], he_⟩ | exact he_ | rw [Ny403.out, Ny415.out])) | (simp only [List.length_drop, List.length_take]; rfl)) ?_
                                              with_reducible refine (cut_JoinBranches.calls kj59 (fun k_ => ((P0_ k_ ∨ P1_ k_) ∨ w.heap.size ≤ k_)) _ _ y415 (fun k_ => (((P0_ k_ ∨ P1_ k_) ∨ w.heap.size ≤ k_) ∧ some k_ ≠ (.slice (some ad420) x7_44.length co52 : Value).ownBlock)) _ _ (rd_L1 x7_44 (ji63)) (fun k_ => ((P0_ k_ ∨ P1_ k_) ∨ w.heap.size ≤ k_)) _ _ y421 t426 _ ?side1 ?side2 ?side3 A75.out).mono ?_
                                              (case side1 => exact HO419.out)
                                              (case side2 => exact HL420_0.out)
                                              (case side3 => exact HO425.out)
                                              rintro e w93 ⟨rfl, hb⟩
                                              have HS0_ := (hb.cell (World.block_lt_of_cell? _ _ (hHeld))).trans (hHeld)
                                              refine ⟨_, rfl, ?_⟩
                                              have n0_ := Aside0.mk (Kd.N_below (by (with_reducible repeat (first | apply Kd.N_alloc | apply Kd.N_drewN | apply Kd.N_drew)); exact HO_7.out) hb)
                                              have n1_ := Aside0.mk (Kd.V_below (by (with_reducible repeat (first | apply Kd.V_alloc | apply Kd.V_drewN | apply Kd.V_drew)); exact HO407.out) hb)
                                              have n2_ := Aside0.mk (Kd.V_below (by (with_reducible repeat (first | apply Kd.V_alloc | apply Kd.V_drewN | apply Kd.V_drew)); exact HO413.out) hb)
                                              have n3_ := Aside0.mk (Kd.V_below (by (with_reducible repeat (first | apply Kd.V_alloc | apply Kd.V_drewN | apply Kd.V_drew)); exact HO419.out) hb)
                                              have n4_ := Aside0.mk (Kd.V_below (by (with_reducible repeat (first | apply Kd.V_alloc | apply Kd.V_drewN | apply Kd.V_drew)); exact HL420_0.out) hb)
                                              have n5_ := Aside0.mk (Kd.V_below (by (with_reducible repeat (first | apply Kd.V_alloc | apply Kd.V_drewN | apply Kd.V_drew)); exact HO425.out) hb)
                                              have n6_ := Aside0.mk (Kd.C_below (by repeat (first | (with_reducible exact HR420_0.out) | (with_reducible refine Kd.C_alloc ?_ _) | (with_reducible refine Kd.C_drewN ?_ _) | (with_reducible refine Kd.C_drew ?_) | exact HR420_0.out)) hb)
                                              have n7_ := Aside0.mk (below_step (by repeat (first | (with_reducible first | exact HB.out | apply below_alloc | apply pw_below_drewN | apply below_drew1) | exact HB.out)) hb)
                                              clear HO_7
                                              clear HO407
                                              clear HO413
                                              clear HO419
                                              clear HL420_0
                                              clear HO425
                                              clear HR420_0
                                              clear HB
                                              have HO_7 := n0_
                                              have HO407 := n1_
                                              have HO413 := n2_
                                              have HO419 := n3_
                                              have HL420_0 := n4_
                                              have HO425 := n5_
                                              have HR420_0 := n6_
                                              have HB := n7_
                                              clear n0_ n1_ n2_ n3_ n4_ n5_ n6_ n7_
                                              (try clear hb)
                                              (try clear hb2)
                                              (try clear hk)
                                              (try clear hi)
                                              refine hK.out _ _ (HS0_) (fun hHeld => ?_)
                                              clear hK K
                                              refine norm_ (a' := ?_) ?_ ?_
                                              rotate_left
                                              · show Act.put _ (some 142) _ = _
                                                simp only [Act.put, List.setIfInBounds_toArray, List.set_cons_zero, List.set_cons_succ, i64_w, i32_w]
                                                rfl
                                              refine pure_ (i := 13) (N := some 14) (v := ?_) (a' := ?_) #[true, true, true, true, true, true, true, true, true, true, true, true, true, true] rfl rfl (any_of HT_.out (by kernel_rfl)) (fun _ _ _ h => h) (Or.inl ⟨by rfl, ?_⟩) ?_ ?_
                                              rotate_left
                                              · intro w'
                                                go_simp
                                                with_reducible rfl
                                              rotate_left
                                              · simp only [Act.put, List.setIfInBounds_toArray, List.set_cons_zero, List.set_cons_succ, i64_w, i32_w]
                                                rfl
                                              refine done_ (done_of HT_.out (by kernel_rfl)) ?_
                                              try go_wp2
                                              go_ret
                                              exact ⟨by first | rfl | (simp [errW_none, errW_some] <;> rfl) | (simp only [← hji63]; first | rfl | (simp [errW_none, errW_some] <;> rfl)) | (simp [*, errW_none, errW_some] <;> rfl), by repeat (first | (with_reducible first | exact HB.out | apply below_alloc | apply pw_below_drewN | apply below_drew1) | exact HB.out)⟩
                                          · rw [if_neg c76] at H
                                            have c76b0 : decide (t408 ≤ 4092) = false := decide_eq_false c76
                                            clear c76
                                            obtain rfl := Option.some.inj H
                                            have q94 : ((ji63) : Int) ≤ ((x7_44.length : Int) : Int) := of_decide_eq_true (by first | (with_reducible assumption) | assumption)
                                            obtain ⟨i094, hi094, _, hsz94, _⟩ := info_parts info32
                                            have hroom94 : x7_44.length ≤ co52 := (Kd.N_reads' HO_7.out).2.1
                                            have hC94 : Kd.F (Kd.slice 5 (Kd.int .u8)) _ _ Ao52 x7_44.length x7_44 := (Kd.V_at (base := w.heap.size) (Kd.N_V HO_7.out)).2.2
                                            have hcut94 := cut_to (P := Try.prog) 28 32 .i64 Try.underlying28 hi094 Ao52 x7_44.length co52 (ji63) (of_decide_eq_true (by first | (with_reducible assumption) | assumption)) q94 hroom94
                                            have hr94 := Kd.F_take (m := ((ji63) : Int).toNat) hC94 (by omega)
                                            have hy94 : y403.length = ((ji63) : Int).toNat := (by rw [Ny403.out, List.length_take]; omega)
                                            rw [← Ny403.out] at hr94
                                            rw [← hy94] at hcut94
                                            have HO407 := Aside0.mk (show Kd.V (Kd.slice 5 (Kd.int .u8)) 32 _ w.heap.size _ (.slice Ao52 y403.length co52) y403 from Kd.V_mk (by omega) hr94)
                                            have HC407 := Aside0.mk (show y403.length ≤ co52 from by omega)
                                            clear hr94 hC94 hroom94 hi094 hsz94
                                            have KY94 := Aside0.mk hy94
                                            clear hy94
                                            replace q94 := eq_true q94
                                            try go_wp2_with (first | ((with_reducible refine gate_callee (f := 25) rfl ?_); refine goesL_ (some 125) rfl rfl Try.func25 (by kernel_rfl) rfl #[.slice Ao52 y403.length co52] rfl (by (try simp only [List.map_toArray, List.map_cons, List.map_nil]); first | done | rfl | (simp only [List.length_drop, List.length_take]; rfl)) ?_; (with_reducible refine (branch_Size.calls kj59 _ _ y403 t408 _ ?side1 ?side2 A66.out).mono ?_); (case side1 => repeat (first | exact (Kd.V_reads' HO407.out).2.2 | (with_reducible refine Kd.C_alloc ?_ _) | (with_reducible refine Kd.C_drewN ?_ _) | (with_reducible refine Kd.C_drew ?_))); (case side2 => exact (Kd.V_reads' HO407.out).2.1); rintro e w95 ⟨rfl, hb⟩; refine ⟨_, rfl, ?_⟩; have n0_ := Aside0.mk (Kd.N_below (by (with_reducible repeat (first | apply Kd.N_alloc | apply Kd.N_drewN | apply Kd.N_drew)); exact HO_7.out) hb); have n1_ := Aside0.mk (Kd.V_below (by (with_reducible repeat (first | apply Kd.V_alloc | apply Kd.V_drewN | apply Kd.V_drew)); exact HO407.out) hb); have n2_ := Aside0.mk (below_step (by repeat (first | (with_reducible first | exact HB.out | apply below_alloc | apply pw_below_drewN | apply below_drew1) | exact HB.out)) hb); clear HO_7; clear HO407; clear HB; have HO_7 := n0_; have HO407 := n1_; have HB := n2_; clear n0_ n1_ n2_; (try clear hb); (try clear hb2); (try clear hk); (try clear hi); have q96 : (t401 : Int) ≤ ((x7_44.length : Int) : Int) := of_decide_eq_true (by first | (with_reducible assumption) | assumption); obtain ⟨i096, hi096, _, hsz96, _⟩ := info_parts info32; have hroom96 : x7_44.length ≤ co52 := (Kd.N_reads' HO_7.out).2.1; have hC96 : Kd.F (Kd.slice 5 (Kd.int .u8)) _ _ Ao52 x7_44.length x7_44 := (Kd.V_at (base := w.heap.size) (Kd.N_V HO_7.out)).2.2; have q096 : (0 : Int) ≤ (t401 : Int) := of_decide_eq_true (by first | (with_reducible assumption) | assumption); have hcut96 := cut_from (P := Try.prog) 28 32 .i64 Try.underlying28 hi096 1 hsz96 Ao52 x7_44.length co52 t401 q096 q96; have hr96 := Kd.F_cut (m := (t401 : Int).toNat) (c := co52) hC96 (by omega) hroom96; obtain ⟨A96, hA96⟩ : ∃ A1, A1 = (if co52 = (t401 : Int).toNat then Ao52 else (Ao52 : Option Addr).map (·.add ((t401 : Int).toNat * 1))) := ⟨_, rfl⟩; obtain ⟨c96, hc96⟩ : ∃ c1, c1 = co52 - (t401 : Int).toNat := ⟨_, rfl⟩; have hy96 : y409.length = x7_44.length - (t401 : Int).toNat := (by rw [Ny409.out, List.length_drop] <;> omega); rw [show (x7_44).drop (t401 : Int).toNat = y409 from Ny409.out.symm] at hr96; replace hr96 : Kd.F (Kd.slice 5 (Kd.int .u8)) _ _ A96 y409.length y409 := (by rw [hA96]; exact hr96); rw [← hy96, ← hA96, ← hc96] at hcut96; have HO413 := Aside0.mk (show Kd.V (Kd.slice 5 (Kd.int .u8)) 32 _ w.heap.size _ (.slice A96 y409.length c96) y409 from Kd.V_mk (by rw [hy96, hc96]; exact Nat.sub_le_sub_right hroom96 _) hr96); have HC413 := Aside0.mk (show y409.length ≤ c96 from by rw [hy96, hc96]; exact Nat.sub_le_sub_right hroom96 _); clear hr96 hC96 hroom96 hi096 hsz96 hc96; have KY96 := Aside0.mk hy96; have KA96 := Aside0.mk hA96; clear hy96 hA96; replace q96 := eq_true q96) | ((with_reducible refine gate_callee (f := 25) rfl ?_); refine goesL_ (some 129) rfl rfl Try.func25 (by kernel_rfl) rfl #[.slice A96 y409.length c96] rfl (by (try simp only [List.map_toArray, List.map_cons, List.map_nil]); first | done | rfl | (simp only [List.length_drop, List.length_take]; rfl)) ?_; (with_reducible refine (branch_Size.calls kj59 _ _ y409 t414 _ ?side1 ?side2 A69.out).mono ?_); (case side1 => repeat (first | exact (Kd.V_reads' HO413.out).2.2 | (with_reducible refine Kd.C_alloc ?_ _) | (with_reducible refine Kd.C_drewN ?_ _) | (with_reducible refine Kd.C_drew ?_))); (case side2 => exact (Kd.V_reads' HO413.out).2.1); rintro e w97 ⟨rfl, hb⟩; refine ⟨_, rfl, ?_⟩; have n0_ := Aside0.mk (Kd.N_below (by (with_reducible repeat (first | apply Kd.N_alloc | apply Kd.N_drewN | apply Kd.N_drew)); exact HO_7.out) hb); have n1_ := Aside0.mk (Kd.V_below (by (with_reducible repeat (first | apply Kd.V_alloc | apply Kd.V_drewN | apply Kd.V_drew)); exact HO407.out) hb); have n2_ := Aside0.mk (Kd.V_below (by (with_reducible repeat (first | apply Kd.V_alloc | apply Kd.V_drewN | apply Kd.V_drew)); exact HO413.out) hb); have n3_ := Aside0.mk (below_step (by repeat (first | (with_reducible first | exact HB.out | apply below_alloc | apply pw_below_drewN | apply below_drew1) | exact HB.out)) hb); clear HO_7; clear HO407; clear HO413; clear HB; have HO_7 := n0_; have HO407 := n1_; have HO413 := n2_; have HB := n3_; clear n0_ n1_ n2_ n3_; (try clear hb); (try clear hb2); (try clear hk); (try clear hi)))
                                            have n0_ := Aside0.mk (Kd.N_drew HO_7.out)
                                            have n1_ := Aside0.mk (Kd.V_drew HO407.out)
                                            have n2_ := Aside0.mk (Kd.V_drew HO413.out)
                                            have n3_ := Aside0.mk (below_drew1 HB.out)
                                            clear HO_7
                                            clear HO407
                                            clear HO413
                                            clear HB
                                            have HO_7 := n0_
                                            have HO407 := n1_
                                            have HO413 := n2_
                                            have HB := n3_
                                            clear n0_ n1_ n2_ n3_
                                            have q99 : ((ji63) : Int) ≤ ((x7_44.length : Int) : Int) := of_decide_eq_true (by first | (with_reducible assumption) | assumption)
                                            obtain ⟨i099, hi099, _, hsz99, _⟩ := info_parts info32
                                            have hroom99 : x7_44.length ≤ co52 := (Kd.N_reads' HO_7.out).2.1
                                            have hC99 : Kd.F (Kd.slice 5 (Kd.int .u8)) _ _ Ao52 x7_44.length x7_44 := (Kd.V_at (base := w.heap.size) (Kd.N_V HO_7.out)).2.2
                                            have hcut99 := cut_to (P := Try.prog) 28 32 .i64 Try.underlying28 hi099 Ao52 x7_44.length co52 (ji63) (of_decide_eq_true (by first | (with_reducible assumption) | assumption)) q99 hroom99
                                            have hr99 := Kd.F_take (m := ((ji63) : Int).toNat) hC99 (by omega)
                                            have hy99 : y415.length = ((ji63) : Int).toNat := (by rw [Ny415.out, List.length_take]; omega)
                                            rw [← Ny415.out] at hr99
                                            rw [← hy99] at hcut99
                                            have HO419 := Aside0.mk (show Kd.V (Kd.slice 5 (Kd.int .u8)) 32 _ w.heap.size _ (.slice Ao52 y415.length co52) y415 from Kd.V_mk (by omega) hr99)
                                            have HC419 := Aside0.mk (show y415.length ≤ co52 from by omega)
                                            clear hr99 hC99 hroom99 hi099 hsz99
                                            have KY99 := Aside0.mk hy99
                                            clear hy99
                                            replace q99 := eq_true q99
                                            have p420 : 0 ≤ ((ji63) : Int) := of_decide_eq_true (by first | (with_reducible assumption) | assumption)
                                            have q420 : (ji63) < (x7_44.length : Int) := of_decide_eq_true (by first | (with_reducible assumption) | assumption)
                                            obtain ⟨ad420, A420_0, c420_0, e420, hx420_0, hl420_0, hi420_0⟩ := at_L1 (Kd.N_reads' HO_7.out).2.2 (ji63) p420 q420
                                            cases e420
                                            obtain ⟨ce420, hce420, hMe420, hcc420⟩ := Kd.N_get HO_7.out [] (ji63) p420 (by first | exact q420 | exact of_decide_eq_true (by first | (with_reducible assumption) | assumption) | (have e_ := (Kd.N_reads' HO_7.out).1; omega))
                                            obtain ⟨ua420_0, uc420_0, rfl, ul420_0, ge420_0⟩ := Kd.FK_slice_open hMe420
                                            have hv420_0 := hcc420 0 _ rfl
                                            rw [Nat.add_zero, show ((Kd.slice 5 (Kd.int .u8))).sz = 1 from rfl, Nat.mul_one] at hv420_0
                                            replace hv420_0 := Option.some.inj (hv420_0.symm.trans hx420_0)
                                            injection hv420_0 with hva_ hvn_ hvc_
                                            rw [hva_] at ge420_0
                                            rw [hvc_] at ul420_0
                                            have HL420_0 := Aside0.mk (show Kd.V (Kd.int .u8) 5 _ w.heap.size _ _ (rd_L1 x7_44 (ji63)) from Kd.V_mk ul420_0 ge420_0)
                                            clear hva_ hvn_ hvc_ ge420_0 ul420_0
                                            clear hcc420 hce420
                                            have HR420_0 := Aside0.mk hi420_0
                                            have HC420_0 := Aside0.mk hl420_0
                                            clear hi420_0 hl420_0
                                            replace p420 := eq_true p420
                                            replace q420 := eq_true q420
                                            have q100 : (t401 : Int) ≤ ((x7_44.length : Int) : Int) := of_decide_eq_true (by first | (with_reducible assumption) | assumption)
                                            obtain ⟨i0100, hi0100, _, hsz100, _⟩ := info_parts info32
                                            have hroom100 : x7_44.length ≤ co52 := (Kd.N_reads' HO_7.out).2.1
                                            have hC100 : Kd.F (Kd.slice 5 (Kd.int .u8)) _ _ (some ad420) x7_44.length x7_44 := (Kd.V_at (base := w.heap.size) (Kd.N_V HO_7.out)).2.2
                                            have q0100 : (0 : Int) ≤ (t401 : Int) := of_decide_eq_true (by first | (with_reducible assumption) | assumption)
                                            have hcut100 := cut_from (P := Try.prog) 28 32 .i64 Try.underlying28 hi0100 1 hsz100 (some ad420) x7_44.length co52 t401 q0100 q100
                                            have hr100 := Kd.F_cut (m := (t401 : Int).toNat) (c := co52) hC100 (by omega) hroom100
                                            obtain ⟨A100, hA100⟩ : ∃ A1, A1 = (if co52 = (t401 : Int).toNat then (some ad420) else ((some ad420) : Option Addr).map (·.add ((t401 : Int).toNat * 1))) := ⟨_, rfl⟩
                                            obtain ⟨c100, hc100⟩ : ∃ c1, c1 = co52 - (t401 : Int).toNat := ⟨_, rfl⟩
                                            have hy100 : y421.length = x7_44.length - (t401 : Int).toNat := (by rw [Ny421.out, List.length_drop] <;> omega)
                                            rw [show (x7_44).drop (t401 : Int).toNat = y421 from Ny421.out.symm] at hr100
                                            replace hr100 : Kd.F (Kd.slice 5 (Kd.int .u8)) _ _ A100 y421.length y421 := (by rw [hA100]; exact hr100)
                                            rw [← hy100, ← hA100, ← hc100] at hcut100
                                            have HO425 := Aside0.mk (show Kd.V (Kd.slice 5 (Kd.int .u8)) 32 _ w.heap.size _ (.slice A100 y421.length c100) y421 from Kd.V_mk (by rw [hy100, hc100]; exact Nat.sub_le_sub_right hroom100 _) hr100)
                                            have HC425 := Aside0.mk (show y421.length ≤ c100 from by rw [hy100, hc100]; exact Nat.sub_le_sub_right hroom100 _)
                                            clear hr100 hC100 hroom100 hi0100 hsz100 hc100
                                            have KY100 := Aside0.mk hy100
                                            have KA100 := Aside0.mk hA100
                                            clear hy100 hA100
                                            replace q100 := eq_true q100
                                            refine start_ (n := 14) (S := fun w' => w'.cell? (ad420.add ((ji63)).toNat) = some (.slice A420_0 (rd_L1 x7_44 (ji63)).length c420_0)) (ds := []) #[false, false, false, false, false, false, false, false, false, false, false, false, false, false] (by kernel_rfl) rfl rfl (hx420_0) (fun hHeld => ?_); refine with_tabW coppicelaw9_CutBranchesAlways.tab29 coppicelaw9_CutBranchesAlways.bits29 (fun HT_ HW_ => ?_)
                                            generalize w97.drew = w98 at HO_7 HO407 HO413 HB HL420_0 HO419 HO425 HR420_0 hx420_0 hHeld ⊢
                                            refine pure_ (i := 0) (N := some 130) (v := ?_) (a' := ?_) #[true, false, false, false, false, false, false, false, false, false, false, false, false, false] rfl rfl (any_of HT_.out (by kernel_rfl)) (fun _ _ _ h => h) (Or.inl ⟨by rfl, ?_⟩) ?_ ?_
                                            rotate_left
                                            · intro w'
                                              go_simp
                                              with_reducible rfl
                                            rotate_left
                                            · simp only [Act.put, List.setIfInBounds_toArray, List.set_cons_zero, List.set_cons_succ, i64_w, i32_w]
                                              rfl
                                            refine pure_ (i := 1) (N := some 131) (v := ?_) (a' := ?_) #[true, true, false, false, false, false, false, false, false, false, false, false, false, false] rfl rfl (any_of HT_.out (by kernel_rfl)) (fun _ _ _ h => h) (Or.inl ⟨by rfl, ?_⟩) ?_ ?_
                                            rotate_left
                                            · intro w'
                                              go_simp
                                              with_reducible rfl
                                            rotate_left
                                            · simp only [Act.put, List.setIfInBounds_toArray, List.set_cons_zero, List.set_cons_succ, i64_w, i32_w]
                                              rfl
                                            refine pure_ (i := 2) (N := some 132) (v := ?_) (a' := ?_) #[true, true, true, false, false, false, false, false, false, false, false, false, false, false] rfl rfl (any_of HT_.out (by kernel_rfl)) (fun _ _ _ h => h) (Or.inl ⟨by rfl, ?_⟩) ?_ ?_
                                            rotate_left
                                            · intro w'
                                              go_simp
                                              with_reducible rfl
                                            rotate_left
                                            · simp only [Act.put, List.setIfInBounds_toArray, List.set_cons_zero, List.set_cons_succ, i64_w, i32_w]
                                              rfl
                                            refine pure_ (i := 3) (N := some 133) (v := ?_) (a' := ?_) #[true, true, true, true, false, false, false, false, false, false, false, false, false, false] rfl rfl (any_of HT_.out (by kernel_rfl)) (fun _ _ _ h => h) (Or.inl ⟨by rfl, ?_⟩) ?_ ?_
                                            rotate_left
                                            · intro w'
                                              go_simp
                                              with_reducible rfl
                                            rotate_left
                                            · simp only [Act.put, List.setIfInBounds_toArray, List.set_cons_zero, List.set_cons_succ, i64_w, i32_w]
                                              rfl
                                            refine pure_ (i := 4) (N := some 134) (v := ?_) (a' := ?_) #[true, true, true, true, true, false, false, false, false, false, false, false, false, false] rfl rfl (any_of HT_.out (by kernel_rfl)) (fun _ _ _ h => h) (Or.inl ⟨by rfl, ?_⟩) ?_ ?_
                                            rotate_left
                                            · intro w'
                                              go_simp
                                              with_reducible rfl
                                            rotate_left
                                            · simp only [Act.put, List.setIfInBounds_toArray, List.set_cons_zero, List.set_cons_succ, i64_w, i32_w]
                                              rfl
                                            refine pure_ (i := 5) (N := some 135) (v := ?_) (a' := ?_) #[true, true, true, true, true, true, false, false, false, false, false, false, false, false] rfl rfl (any_of HT_.out (by kernel_rfl)) (fun _ _ _ h => h) (Or.inl ⟨by rfl, ?_⟩) ?_ ?_
                                            rotate_left
                                            · intro w'
                                              go_simp
                                              with_reducible rfl
                                            rotate_left
                                            · simp only [Act.put, List.setIfInBounds_toArray, List.set_cons_zero, List.set_cons_succ, i64_w, i32_w]
                                              rfl
                                            refine pure_ (i := 6) (N := some 136) (v := ?_) (a' := ?_) #[true, true, true, true, true, true, true, false, false, false, false, false, false, false] rfl rfl (any_of HT_.out (by kernel_rfl)) (fun _ _ _ h => h) (Or.inl ⟨by rfl, ?_⟩) ?_ ?_
                                            rotate_left
                                            · intro w'
                                              go_simp
                                              with_reducible rfl
                                            rotate_left
                                            · simp only [Act.put, List.setIfInBounds_toArray, List.set_cons_zero, List.set_cons_succ, i64_w, i32_w]
                                              rfl
                                            refine pure_ (i := 7) (N := some 137) (v := ?_) (a' := ?_) #[true, true, true, true, true, true, true, true, false, false, false, false, false, false] rfl rfl (any_of HT_.out (by kernel_rfl)) (fun _ _ _ h => h) (Or.inl ⟨by rfl, ?_⟩) ?_ ?_
                                            rotate_left
                                            · intro w'
                                              go_simp
                                              with_reducible rfl
                                            rotate_left
                                            · simp only [Act.put, List.setIfInBounds_toArray, List.set_cons_zero, List.set_cons_succ, i64_w, i32_w]
                                              rfl
                                            refine pure_ (i := 9) (N := some 139) (v := ?_) (a' := ?_) #[true, true, true, true, true, true, true, true, false, true, false, false, false, false] rfl rfl (any_of HT_.out (by kernel_rfl)) (fun _ _ _ h => h) (Or.inl ⟨by rfl, ?_⟩) ?_ ?_
                                            rotate_left
                                            · intro w'
                                              go_simp
                                              with_reducible rfl
                                            rotate_left
                                            · simp only [Act.put, List.setIfInBounds_toArray, List.set_cons_zero, List.set_cons_succ, i64_w, i32_w]
                                              rfl
                                            refine pure_ (i := 10) (N := some 140) (v := ?_) (a' := ?_) #[true, true, true, true, true, true, true, true, false, true, true, false, false, false] rfl rfl (any_of HT_.out (by kernel_rfl)) (fun _ _ _ h => h) (Or.inl ⟨by rfl, ?_⟩) ?_ ?_
                                            rotate_left
                                            · intro w'
                                              go_simp
                                              with_reducible rfl
                                            rotate_left
                                            · simp only [Act.put, List.setIfInBounds_toArray, List.set_cons_zero, List.set_cons_succ, i64_w, i32_w]
                                              rfl
                                            refine pure_ (i := 11) (N := some 141) (v := ?_) (a' := ?_) #[true, true, true, true, true, true, true, true, false, true, true, true, false, false] rfl rfl (any_of HT_.out (by kernel_rfl)) (fun _ _ _ h => h) (Or.inl ⟨by rfl, ?_⟩) ?_ ?_
                                            rotate_left
                                            · intro w'
                                              go_simp
                                              with_reducible rfl
                                            rotate_left
                                            · simp only [Act.put, List.setIfInBounds_toArray, List.set_cons_zero, List.set_cons_succ, i64_w, i32_w]
                                              rfl
                                            refine take_ (i := 8) (N := some 138) (v := ?_) (a' := ?_) #[true, true, true, true, true, true, true, true, true, true, true, true, false, false] rfl rfl (take_ofW HT_.out HW_.out (by kernel_rfl)) (fun _ _ _ h => h) (Or.inl ⟨by rfl, ?_⟩) hHeld ?_ ?_
                                            rotate_left
                                            · intro w' s0
                                              go_simp
                                              with_reducible rfl
                                            rotate_left
                                            · simp only [Act.put, List.setIfInBounds_toArray, List.set_cons_zero, List.set_cons_succ, i64_w, i32_w]
                                              rfl
                                            refine one_ (i := 12) (N := some 142) #[true, true, true, true, true, true, true, true, true, true, true, true, true, false] rfl rfl (one_of HT_.out (by kernel_rfl)) (by decide) (fun K hK => ?_)
                                            refine goes_ Try.func21 (by kernel_rfl) rfl #[.slice (some ad420) y415.length co52, .slice A420_0 (rd_L1 x7_44 (ji63)).length c420_0, .slice A100 y421.length c100] (by rfl) rfl rfl (by (try simp only [List.map_toArray, List.map_cons, List.map_nil]); first | done | (simp only [hji63]; rfl) | rfl | (have he_ := (hcut96 w).symm.trans (hcut100 w); simp only [Result.ok.injEq, Value.slice.injEq, and_true] at he_; go_simp; (first | exact ⟨by rw [Ny403.out, Ny415.out], he_.1, he_.2.1, he_.2.2⟩ | exact ⟨by rw [Ny403.out, Ny415.out], he_⟩ | exact he_ | rw [Ny403.out, Ny415.out])) | (simp only [List.length_drop, List.length_take]; rfl)) ?_
                                            with_reducible refine (cut_JoinBranches.calls kj59 (fun k_ => ((P0_ k_ ∨ P1_ k_) ∨ w.heap.size ≤ k_)) _ _ y415 (fun k_ => (((P0_ k_ ∨ P1_ k_) ∨ w.heap.size ≤ k_) ∧ some k_ ≠ (.slice (some ad420) x7_44.length co52 : Value).ownBlock)) _ _ (rd_L1 x7_44 (ji63)) (fun k_ => ((P0_ k_ ∨ P1_ k_) ∨ w.heap.size ≤ k_)) _ _ y421 t426 _ ?side1 ?side2 ?side3 A75.out).mono ?_
                                            (case side1 => exact HO419.out)
                                            (case side2 => exact HL420_0.out)
                                            (case side3 => exact HO425.out)
                                            rintro e w101 ⟨rfl, hb⟩
                                            have HS0_ := (hb.cell (World.block_lt_of_cell? _ _ (hHeld))).trans (hHeld)
                                            refine ⟨_, rfl, ?_⟩
                                            have n0_ := Aside0.mk (Kd.N_below (by (with_reducible repeat (first | apply Kd.N_alloc | apply Kd.N_drewN | apply Kd.N_drew)); exact HO_7.out) hb)
                                            have n1_ := Aside0.mk (Kd.V_below (by (with_reducible repeat (first | apply Kd.V_alloc | apply Kd.V_drewN | apply Kd.V_drew)); exact HO407.out) hb)
                                            have n2_ := Aside0.mk (Kd.V_below (by (with_reducible repeat (first | apply Kd.V_alloc | apply Kd.V_drewN | apply Kd.V_drew)); exact HO413.out) hb)
                                            have n3_ := Aside0.mk (Kd.V_below (by (with_reducible repeat (first | apply Kd.V_alloc | apply Kd.V_drewN | apply Kd.V_drew)); exact HO419.out) hb)
                                            have n4_ := Aside0.mk (Kd.V_below (by (with_reducible repeat (first | apply Kd.V_alloc | apply Kd.V_drewN | apply Kd.V_drew)); exact HL420_0.out) hb)
                                            have n5_ := Aside0.mk (Kd.V_below (by (with_reducible repeat (first | apply Kd.V_alloc | apply Kd.V_drewN | apply Kd.V_drew)); exact HO425.out) hb)
                                            have n6_ := Aside0.mk (Kd.C_below (by repeat (first | (with_reducible exact HR420_0.out) | (with_reducible refine Kd.C_alloc ?_ _) | (with_reducible refine Kd.C_drewN ?_ _) | (with_reducible refine Kd.C_drew ?_) | exact HR420_0.out)) hb)
                                            have n7_ := Aside0.mk (below_step (by repeat (first | (with_reducible first | exact HB.out | apply below_alloc | apply pw_below_drewN | apply below_drew1) | exact HB.out)) hb)
                                            clear HO_7
                                            clear HO407
                                            clear HO413
                                            clear HO419
                                            clear HL420_0
                                            clear HO425
                                            clear HR420_0
                                            clear HB
                                            have HO_7 := n0_
                                            have HO407 := n1_
                                            have HO413 := n2_
                                            have HO419 := n3_
                                            have HL420_0 := n4_
                                            have HO425 := n5_
                                            have HR420_0 := n6_
                                            have HB := n7_
                                            clear n0_ n1_ n2_ n3_ n4_ n5_ n6_ n7_
                                            (try clear hb)
                                            (try clear hb2)
                                            (try clear hk)
                                            (try clear hi)
                                            refine hK.out _ _ (HS0_) (fun hHeld => ?_)
                                            clear hK K
                                            refine norm_ (a' := ?_) ?_ ?_
                                            rotate_left
                                            · show Act.put _ (some 142) _ = _
                                              simp only [Act.put, List.setIfInBounds_toArray, List.set_cons_zero, List.set_cons_succ, i64_w, i32_w]
                                              rfl
                                            refine pure_ (i := 13) (N := some 14) (v := ?_) (a' := ?_) #[true, true, true, true, true, true, true, true, true, true, true, true, true, true] rfl rfl (any_of HT_.out (by kernel_rfl)) (fun _ _ _ h => h) (Or.inl ⟨by rfl, ?_⟩) ?_ ?_
                                            rotate_left
                                            · intro w'
                                              go_simp
                                              with_reducible rfl
                                            rotate_left
                                            · simp only [Act.put, List.setIfInBounds_toArray, List.set_cons_zero, List.set_cons_succ, i64_w, i32_w]
                                              rfl
                                            refine done_ (done_of HT_.out (by kernel_rfl)) ?_
                                            try go_wp2
                                            go_ret
                                            exact ⟨by first | rfl | (simp [errW_none, errW_some] <;> rfl) | (simp only [← hji63]; first | rfl | (simp [errW_none, errW_some] <;> rfl)) | (simp [*, errW_none, errW_some] <;> rfl), by repeat (first | (with_reducible first | exact HB.out | apply below_alloc | apply pw_below_drewN | apply below_drew1) | exact HB.out)⟩
                                        · rw [if_neg c72] at H
                                          exact absurd H (by simp)
                                      · rw [if_neg c68] at H
                                        exact absurd H (by simp)
                                    · rw [if_neg c67] at H
                                      exact absurd H (by simp)
                                  · rw [if_neg c65] at H
                                    exact absurd H (by simp)
                                · rw [if_neg c64] at H
                                  exact absurd H (by simp)

end Go.Proofs.Yteaiefkadmlabaa.P
