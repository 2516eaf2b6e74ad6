/- Machine steps of the program, written by a program of this session out of the translation. -/
import Derived.Test.YteaiefkadmlabaaP0
import Derived.Test.YteaiefkadmlabaaP11
import Derived.Test.YteaiefkadmlabaaP12
import Derived.Test.YteaiefkadmlabaaP7
import Derived.Test.YteaiefkadmlabaaHBranch
import Derived.Test.YteaiefkadmlabaaHFirst
namespace Go.Proofs.Yteaiefkadmlabaa.P
open Go.RowKit Go.Proofs.YteaiefkadmlabaaW.PrintWords Go.Proofs.YteaiefkadmlabaaW.PrintLast Go.Proofs.YteaiefkadmlabaaW.PrintMore
attribute [local go_sem] max2_int min2_int max_two min_two max_three min_three max_four min_four   -- for this text's walks alone
set_option linter.unusedVariables false
set_option linter.unusedSimpArgs false

/-! ### coppiceref5_Size: function 30 -/
def coppiceref5_Size.l0 : Nat → List (List Int) → Int → Int → Int → Option (Int)
  | 0, _, _, _, _ => none
  | k + 1, x0, x3, x4, x5 => if x5 < (x0.length : Int) then (if 0 ≤ x5 then ((coppiceref1_VLen.f k (IntKind.u64.wrap (wrap64 (((rd_L1 x0 x5).length : Int) - x3)))).bind fun t239 => (coppiceref5_Size.l0 k x0 x3 (wrap64 ((wrap64 ((wrap64 (x4 + 10)) + t239)) + (wrap64 (((rd_L1 x0 x5).length : Int) - x3)))) (wrap64 (x5 + 1)))) else (none)) else (some x4)
def coppiceref5_Size.f (k : Nat) (l0 : List (List Int)) : Option (Int) := (coppiceref5_Prefix.f k l0).bind fun t236 => ((coppiceref1_VLen.f k (IntKind.u64.wrap (t236))).bind fun t237 => (coppiceref5_Size.l0 k l0 t236 (wrap64 ((wrap64 (12 + t237)) + t236)) 0))
theorem coppiceref5_Size.mono_l : ∀ k, (∀ y0 y1 y2 y3, LeO (coppiceref5_Size.l0 k y0 y1 y2 y3) (coppiceref5_Size.l0 (k + 1) y0 y1 y2 y3))
  | 0 => fun _ _ _ _ r h => by simp [coppiceref5_Size.l0] at h
  | k + 1 => by
    have ih0 := coppiceref5_Size.mono_l k
    · intro y0 y1 y2 y3
      unfold coppiceref5_Size.l0
      repeat' first
      | (with_reducible exact ih0 _ _ _ _)
      | (with_reducible exact coppiceref1_VLen.mono _ _)
      | (with_reducible exact coppiceref5_Prefix.mono _ _)
      | (with_reducible exact LeO.refl _)
      | (with_reducible exact LeO.none _)
      | (with_reducible refine LeO.ite ?_ ?_)
      | (with_reducible refine LeO.bind ?_ (fun _ => ?_))
      | exact ih0 _ _ _ _
      | exact coppiceref1_VLen.mono _ _
      | exact coppiceref5_Prefix.mono _ _
      | exact LeO.none _
      | refine LeO.ite ?_ ?_
      | refine LeO.bind ?_ (fun _ => ?_)
theorem coppiceref5_Size.mono : ∀ a0 k, LeO (coppiceref5_Size.f k a0) (coppiceref5_Size.f (k + 1) a0) := by
  intro a0 k
  have ih0 := coppiceref5_Size.mono_l k
  unfold coppiceref5_Size.f
  repeat' first
      | (with_reducible exact ih0 _ _ _ _)
      | (with_reducible exact coppiceref1_VLen.mono _ _)
      | (with_reducible exact coppiceref5_Prefix.mono _ _)
      | (with_reducible exact LeO.refl _)
      | (with_reducible exact LeO.none _)
      | (with_reducible refine LeO.ite ?_ ?_)
      | (with_reducible refine LeO.bind ?_ (fun _ => ?_))
      | exact ih0 _ _ _ _
      | exact coppiceref1_VLen.mono _ _
      | exact coppiceref5_Prefix.mono _ _
      | exact LeO.none _
      | refine LeO.ite ?_ ?_
      | refine LeO.bind ?_ (fun _ => ?_)
set_option maxHeartbeats 8000000 in
set_option maxRecDepth 100000 in
theorem coppiceref5_Size.calls (k : Nat) (A0 : Option Addr) (c0 : Nat) (l0 : List (List Int)) (r : Int) (w : World) (hr0 : Kd.C (Kd.slice 5 (Kd.int .u8)) w A0 l0.length l0) (hc0 : l0.length ≤ c0) (h : coppiceref5_Size.f k l0 = some r) :
    Calls Try.prog 30 #[.slice A0 l0.length c0] w fun e w' => e = .returned (.int .i64 r) ∧ Below w.heap.size w w' := by
  have HR0 := Aside0.mk hr0
  have HC0 := Aside0.mk hc0
  clear hr0 hc0
  have HB := Aside0.mk (Below.refl w.heap.size w)
  have H : ((coppiceref5_Prefix.f k l0).bind fun t236 => ((coppiceref1_VLen.f k (IntKind.u64.wrap (t236))).bind fun t237 => (coppiceref5_Size.l0 k l0 t236 (wrap64 ((wrap64 (12 + t237)) + t236)) 0))) = some r := h
  clear h
  replace H := Option.bind_eq_some_iff.mp H
  obtain ⟨t236, A20, H⟩ := H
  replace H : ((coppiceref1_VLen.f k (IntKind.u64.wrap (t236))).bind fun t237 => (coppiceref5_Size.l0 k l0 t236 (wrap64 ((wrap64 (12 + t237)) + t236)) 0)) = some r := H
  have A2 := Aside0.mk A20
  clear A20
  replace H := Option.bind_eq_some_iff.mp H
  obtain ⟨t237, A30, H⟩ := H
  replace H : (coppiceref5_Size.l0 k l0 t236 (wrap64 ((wrap64 (12 + t237)) + t236)) 0) = some r := H
  have A3 := Aside0.mk A30
  clear A30
  have H' := Aside0.mk H
  clear H
  go_enter Try.func30, Try.ntmps30
  go_wp2_with (first | ((with_reducible refine gate_callee (f := 52) rfl ?_); refine goesL_ (some 8) rfl rfl Try.func52 (by kernel_rfl) rfl #[.slice A0 l0.length c0] rfl (by (try simp only [List.map_toArray, List.map_cons, List.map_nil]); first | done | rfl | (simp only [List.length_drop, List.length_take]; rfl)) ?_; (with_reducible refine (coppiceref5_Prefix.calls k _ _ l0 t236 _ ?side1 ?side2 A2.out).mono ?_); (case side1 => repeat (first | exact HR0.out | (with_reducible refine Kd.C_alloc ?_ _) | (with_reducible refine Kd.C_drewN ?_ _) | (with_reducible refine Kd.C_drew ?_))); (case side2 => exact HC0.out); rintro e w4 ⟨rfl, hb⟩; refine ⟨_, rfl, ?_⟩; have n0_ := Aside0.mk (below_step (by repeat (first | (with_reducible first | exact HB.out | apply below_alloc | apply pw_below_drewN | apply below_drew1) | exact HB.out)) hb); clear HB; have HB := n0_; clear n0_; (try clear hb); (try clear hb2); (try clear hk); (try clear hi)) | ((with_reducible refine gate_callee (f := 49) rfl ?_); refine goesL_ (some 11) rfl rfl Try.func49 (by kernel_rfl) rfl #[.int .u64 (IntKind.u64.wrap (t236))] rfl (by (try simp only [List.map_toArray, List.map_cons, List.map_nil]); first | done | rfl | (simp only [List.length_drop, List.length_take]; rfl)) ?_; (with_reducible refine (coppiceref1_VLen.calls k (IntKind.u64.wrap (t236)) t237 _ A3.out).mono ?_); rintro e w' ⟨rfl, ⟨nd, rfl⟩⟩; refine ⟨_, rfl, ?_⟩))
  go_loopg [4, 5] k (fun kq v4 v5 w' => ∃ (x4_1 : Int) (x5_1 : Int), v4 = .int .i64 x4_1 ∧ v5 = .int .i64 x5_1 ∧ Aside0 (coppiceref5_Size.l0 kq l0 t236 x4_1 x5_1 = some r) ∧ Aside0 (kq ≤ k) ∧ Aside0 (Below w.heap.size w w'))
  case atStart => exact ⟨(wrap64 ((wrap64 (12 + t237)) + t236)), (0), (by first | rfl | (simp; done) | (simp [*]; done)), (by first | rfl | (simp; done) | (simp [*]; done)), H', ⟨Nat.le_refl _⟩, ⟨by repeat (first | (with_reducible first | exact HB.out | apply below_alloc | apply pw_below_drewN | apply below_drew1) | exact HB.out)⟩⟩
  case round =>
    clear H'
    try clear p2
    try clear c3
    try clear c4
    obtain ⟨x4_1, x5_1, rfl, rfl, HA, HK1, HB⟩ := hrel
    cases gk with
    | zero => exact absurd HA.out (by simp [coppiceref5_Size.l0])
    | succ k1 =>
      have H := HA.out
      clear HA
      simp only [coppiceref5_Size.l0] at H
      by_cases c5 : x5_1 < (l0.length : Int)
      · rw [if_pos c5] at H
        have c5b0 : decide (x5_1 < (l0.length : Int)) = true := decide_eq_true c5
        clear c5
        by_cases c6 : 0 ≤ x5_1
        · rw [if_pos c6] at H
          have c6b0 : decide (0 ≤ x5_1) = true := decide_eq_true c6
          clear c6
          replace H := Option.bind_eq_some_iff.mp H
          obtain ⟨t239, A70, H⟩ := H
          replace H : (coppiceref5_Size.l0 k1 l0 t236 (wrap64 ((wrap64 ((wrap64 (x4_1 + 10)) + t239)) + (wrap64 (((rd_L1 l0 x5_1).length : Int) - t236)))) (wrap64 (x5_1 + 1))) = some r := H
          have A7 := Aside0.mk A70
          clear A70
          have H' := Aside0.mk H
          clear H
          have p238 : 0 ≤ (x5_1 : Int) := of_decide_eq_true (by first | (with_reducible assumption) | assumption)
          have q238 : x5_1 < (l0.length : Int) := of_decide_eq_true (by first | (with_reducible assumption) | assumption)
          obtain ⟨ad238, A238_0, c238_0, e238, hx238_0, hl238_0, hi238_0⟩ := at_L1 HR0.out x5_1 p238 q238
          cases e238
          replace hx238_0 := (HB.out.cell (World.block_lt_of_cell? w _ hx238_0)).trans hx238_0
          have HR238_0 := Aside0.mk hi238_0
          have HC238_0 := Aside0.mk hl238_0
          clear hi238_0 hl238_0
          replace p238 := eq_true p238
          replace q238 := eq_true q238
          go_wp2_with (first | ((with_reducible refine gate_callee (f := 49) rfl ?_); refine goesL_ (some 32) rfl rfl Try.func49 (by kernel_rfl) rfl #[.int .u64 (IntKind.u64.wrap (wrap64 (((rd_L1 l0 x5_1).length : Int) - t236)))] rfl (by (try simp only [List.map_toArray, List.map_cons, List.map_nil]); first | done | rfl | (simp only [List.length_drop, List.length_take]; rfl)) ?_; (with_reducible refine (coppiceref1_VLen.calls k1 (IntKind.u64.wrap (wrap64 (((rd_L1 l0 x5_1).length : Int) - t236))) t239 _ A7.out).mono ?_); rintro e w' ⟨rfl, ⟨nd, rfl⟩⟩; refine ⟨_, rfl, ?_⟩))
          go_roundg k1
          case measure => have := HK1.out; omega
          case rel => exact ⟨(wrap64 ((wrap64 ((wrap64 (x4_1 + 10)) + t239)) + (wrap64 (((rd_L1 l0 x5_1).length : Int) - t236)))), (wrap64 (x5_1 + 1)), (by first | rfl | (simp; done) | (simp [*]; done)), (by first | rfl | (simp; done) | (simp [*]; done)), H', ⟨by have := HK1.out; omega⟩, ⟨by repeat (first | (with_reducible first | exact HB.out | apply below_alloc | apply pw_below_drewN | apply below_drew1) | exact HB.out)⟩⟩
        · rw [if_neg c6] at H
          exact absurd H (by simp)
      · rw [if_neg c5] at H
        have c5b0 : decide (x5_1 < (l0.length : Int)) = false := decide_eq_false c5
        clear c5
        obtain rfl := Option.some.inj H
        go_wp2
        go_ret
        exact ⟨by first | rfl | (simp [errW_none, errW_some] <;> rfl) | (simp [*, errW_none, errW_some] <;> rfl), by repeat (first | (with_reducible first | exact HB.out | apply below_alloc | apply pw_below_drewN | apply below_drew1) | exact HB.out)⟩

/-! ### coppiceref9_Branch: function 19 -/
mutual
def coppiceref9_Branch.l0 : Nat → List (List Int) → Int → Int → Int → Option (Int)
  | 0, _, _, _, _ => none
  | k + 1, x0, x3, x4, x5 => if x5 ≤ (x0.length : Int) then (if 0 ≤ (wrap64 (x5 - 1)) then (if (wrap64 (x5 - 1)) ≤ (x0.length : Int) then ((coppiceref5_Size.f k (x0.take ((wrap64 (x5 - 1)) : Int).toNat)).bind fun t244 => (if 0 ≤ x5 then ((coppiceref5_Size.f k (x0.drop (x5 : Int).toNat)).bind fun t249 => (if t244 > 4092 then (coppiceref9_Branch.j1 k x0 x3 x4 x5 t244 t249 true) else (coppiceref9_Branch.j1 k x0 x3 x4 x5 t244 t249 (decide (t249 > 4092))))) else (none))) else (none)) else (none)) else (some x3)
def coppiceref9_Branch.j1 : Nat → List (List Int) → Int → Int → Int → Int → Int → Bool → Option (Int)
  | 0, _, _, _, _, _, _, _ => none
  | k + 1, x0, x3, x4, x5, x6, x7, x28 => if x28 = true then (coppiceref9_Branch.l0 k x0 x3 x4 (wrap64 (x5 + 1))) else (if x3 = 0 then (coppiceref9_Branch.l0 k x0 x5 (mx x6 x7) (wrap64 (x5 + 1))) else (if (mx x6 x7) < x4 then (coppiceref9_Branch.l0 k x0 x5 (mx x6 x7) (wrap64 (x5 + 1))) else (coppiceref9_Branch.l0 k x0 x3 x4 (wrap64 (x5 + 1)))))
end
def coppiceref9_Branch.f (k : Nat) (l0 : List (List Int)) : Option (Int) := coppiceref9_Branch.l0 k l0 0 0 1
theorem coppiceref9_Branch.mono_l : ∀ k, (∀ y0 y1 y2 y3, LeO (coppiceref9_Branch.l0 k y0 y1 y2 y3) (coppiceref9_Branch.l0 (k + 1) y0 y1 y2 y3)) ∧ (∀ y0 y1 y2 y3 y4 y5 y6, LeO (coppiceref9_Branch.j1 k y0 y1 y2 y3 y4 y5 y6) (coppiceref9_Branch.j1 (k + 1) y0 y1 y2 y3 y4 y5 y6))
  | 0 => ⟨fun _ _ _ _ r h => by simp [coppiceref9_Branch.l0] at h, fun _ _ _ _ _ _ _ r h => by simp [coppiceref9_Branch.j1] at h⟩
  | k + 1 => by
    obtain ⟨ih0, ih1⟩ := coppiceref9_Branch.mono_l k
    refine ⟨?_, ?_⟩
    · intro y0 y1 y2 y3
      unfold coppiceref9_Branch.l0
      repeat' first
      | (with_reducible exact ih0 _ _ _ _)
      | (with_reducible exact ih1 _ _ _ _ _ _ _)
      | (with_reducible exact coppiceref5_Size.mono _ _)
      | (with_reducible exact LeO.refl _)
      | (with_reducible exact LeO.none _)
      | (with_reducible refine LeO.ite ?_ ?_)
      | (with_reducible refine LeO.bind ?_ (fun _ => ?_))
      | exact ih0 _ _ _ _
      | exact ih1 _ _ _ _ _ _ _
      | exact coppiceref5_Size.mono _ _
      | exact LeO.none _
      | refine LeO.ite ?_ ?_
      | refine LeO.bind ?_ (fun _ => ?_)
    · intro y0 y1 y2 y3 y4 y5 y6
      unfold coppiceref9_Branch.j1
      repeat' first
      | (with_reducible exact ih0 _ _ _ _)
      | (with_reducible exact ih1 _ _ _ _ _ _ _)
      | (with_reducible exact coppiceref5_Size.mono _ _)
      | (with_reducible exact LeO.refl _)
      | (with_reducible exact LeO.none _)
      | (with_reducible refine LeO.ite ?_ ?_)
      | (with_reducible refine LeO.bind ?_ (fun _ => ?_))
      | exact ih0 _ _ _ _
      | exact ih1 _ _ _ _ _ _ _
      | exact coppiceref5_Size.mono _ _
      | exact LeO.none _
      | refine LeO.ite ?_ ?_
      | refine LeO.bind ?_ (fun _ => ?_)
theorem coppiceref9_Branch.mono : ∀ a0 k, LeO (coppiceref9_Branch.f k a0) (coppiceref9_Branch.f (k + 1) a0) := by
  intro a0 k
  obtain ⟨ih0, ih1⟩ := coppiceref9_Branch.mono_l k
  unfold coppiceref9_Branch.f
  repeat' first
      | (with_reducible exact ih0 _ _ _ _)
      | (with_reducible exact ih1 _ _ _ _ _ _ _)
      | (with_reducible exact coppiceref5_Size.mono _ _)
      | (with_reducible exact LeO.refl _)
      | (with_reducible exact LeO.none _)
      | (with_reducible refine LeO.ite ?_ ?_)
      | (with_reducible refine LeO.bind ?_ (fun _ => ?_))
      | exact ih0 _ _ _ _
      | exact ih1 _ _ _ _ _ _ _
      | exact coppiceref5_Size.mono _ _
      | exact LeO.none _
      | refine LeO.ite ?_ ?_
      | refine LeO.bind ?_ (fun _ => ?_)
set_option maxHeartbeats 8000000 in
set_option maxRecDepth 100000 in
theorem coppiceref9_Branch.calls (k : Nat) (A0 : Option Addr) (c0 : Nat) (l0 : List (List Int)) (r : Int) (w : World) (hr0 : Kd.C (Kd.slice 5 (Kd.int .u8)) w A0 l0.length l0) (hc0 : l0.length ≤ c0) (h : coppiceref9_Branch.f k l0 = some r) :
    Calls Try.prog 19 #[.slice A0 l0.length c0] w fun e w' => e = .returned (.int .i64 r) ∧ Below w.heap.size w w' := by
  have HR0 := Aside0.mk hr0
  have HC0 := Aside0.mk hc0
  clear hr0 hc0
  have HB := Aside0.mk (Below.refl w.heap.size w)
  have H : (coppiceref9_Branch.l0 k l0 0 0 1) = some r := h
  clear h
  have H' := Aside0.mk H
  clear H
  go_enter Try.func19, Try.ntmps19
  go_wp2
  go_loopg [3, 4, 5] k (fun kq v3 v4 v5 w' => ∃ (x3_1 : Int) (x4_1 : Int) (x5_1 : Int), v3 = .int .i64 x3_1 ∧ v4 = .int .i64 x4_1 ∧ v5 = .int .i64 x5_1 ∧ Aside0 (coppiceref9_Branch.l0 kq l0 x3_1 x4_1 x5_1 = some r) ∧ Aside0 (kq ≤ k) ∧ Aside0 (Below w.heap.size w w'))
  case atStart => exact ⟨(0), (0), (1), (by first | rfl | (simp; done) | (simp [*]; done)), (by first | rfl | (simp; done) | (simp [*]; done)), (by first | rfl | (simp; done) | (simp [*]; done)), H', ⟨Nat.le_refl _⟩, ⟨by repeat (first | (with_reducible first | exact HB.out | apply below_alloc | apply pw_below_drewN | apply below_drew1) | exact HB.out)⟩⟩
  case round =>
    clear H'
    try clear c1
    obtain ⟨x3_1, x4_1, x5_1, rfl, rfl, rfl, HA, HK1, HB⟩ := hrel
    cases gk with
    | zero => exact absurd HA.out (by simp [coppiceref9_Branch.l0])
    | succ k1 =>
      have H := HA.out
      clear HA
      simp only [coppiceref9_Branch.l0] at H
      by_cases c2 : x5_1 ≤ (l0.length : Int)
      · rw [if_pos c2] at H
        have c2b0 : decide (x5_1 ≤ (l0.length : Int)) = true := decide_eq_true c2
        clear c2
        obtain ⟨ji3, hji3⟩ : ∃ j_ : Int, (wrap64 (x5_1 - 1)) = j_ := ⟨_, rfl⟩
        replace H : (if 0 ≤ (ji3) then (if (ji3) ≤ (l0.length : Int) then ((coppiceref5_Size.f k1 (l0.take ((ji3) : Int).toNat)).bind fun t244 => (if 0 ≤ x5_1 then ((coppiceref5_Size.f k1 (l0.drop (x5_1 : Int).toNat)).bind fun t249 => (if t244 > 4092 then (coppiceref9_Branch.j1 k1 l0 x3_1 x4_1 x5_1 t244 t249 true) else (coppiceref9_Branch.j1 k1 l0 x3_1 x4_1 x5_1 t244 t249 (decide (t249 > 4092))))) else (none))) else (none)) else (none)) = some r := by first | (rw [hji3] at H; exact H) | (simp only [hji3] at H ⊢; exact H)
        have hji3w : (IntKind.i64.wrap (x5_1 - 1)) = ji3 := (i64_w _).trans hji3
        by_cases c4 : 0 ≤ (ji3)
        · rw [if_pos c4] at H
          have c4b0 := eq_true c4
          have c4b1 : decide (0 ≤ (ji3)) = true := decide_eq_true c4
          clear c4
          by_cases c5 : (ji3) ≤ (l0.length : Int)
          · rw [if_pos c5] at H
            have c5b0 := eq_true c5
            have c5b1 : decide ((ji3) ≤ (l0.length : Int)) = true := decide_eq_true c5
            clear c5
            obtain ⟨y240, hy240⟩ : ∃ y_ : List (List Int), y_ = (l0.take ((ji3) : Int).toNat) := ⟨_, rfl⟩
            replace H : ((coppiceref5_Size.f k1 y240).bind fun t244 => (if 0 ≤ x5_1 then ((coppiceref5_Size.f k1 (l0.drop (x5_1 : Int).toNat)).bind fun t249 => (if t244 > 4092 then (coppiceref9_Branch.j1 k1 l0 x3_1 x4_1 x5_1 t244 t249 true) else (coppiceref9_Branch.j1 k1 l0 x3_1 x4_1 x5_1 t244 t249 (decide (t249 > 4092))))) else (none))) = some r := by first | (rw [hy240]; with_reducible exact H) | (have H2_ := (Option.bind_some _ _).symm.trans H; rw [hy240]; with_reducible exact H2_) | (have H2_ := (Option.bind_some _ _).symm.trans H; with_reducible exact H2_) | with_reducible exact H | (rw [hy240]; exact H) | exact H
            have Ny240 := Aside0.mk hy240
            clear hy240
            replace H := Option.bind_eq_some_iff.mp H
            obtain ⟨t244, A60, H⟩ := H
            replace H : (if 0 ≤ x5_1 then ((coppiceref5_Size.f k1 (l0.drop (x5_1 : Int).toNat)).bind fun t249 => (if t244 > 4092 then (coppiceref9_Branch.j1 k1 l0 x3_1 x4_1 x5_1 t244 t249 true) else (coppiceref9_Branch.j1 k1 l0 x3_1 x4_1 x5_1 t244 t249 (decide (t249 > 4092))))) else (none)) = some r := H
            have A6 := Aside0.mk A60
            clear A60
            by_cases c7 : 0 ≤ x5_1
            · rw [if_pos c7] at H
              have c7b0 := eq_true c7
              have c7b1 : decide (0 ≤ x5_1) = true := decide_eq_true c7
              clear c7
              have c8b0 := eq_true (of_decide_eq_true (by first | (with_reducible assumption) | assumption) : x5_1 ≤ (l0.length : Int))
              obtain ⟨y245, hy245⟩ : ∃ y_ : List (List Int), y_ = (l0.drop (x5_1 : Int).toNat) := ⟨_, rfl⟩
              replace H : ((coppiceref5_Size.f k1 y245).bind fun t249 => (if t244 > 4092 then (coppiceref9_Branch.j1 k1 l0 x3_1 x4_1 x5_1 t244 t249 true) else (coppiceref9_Branch.j1 k1 l0 x3_1 x4_1 x5_1 t244 t249 (decide (t249 > 4092))))) = some r := by first | (rw [hy245]; with_reducible exact H) | (have H2_ := (Option.bind_some _ _).symm.trans H; rw [hy245]; with_reducible exact H2_) | (have H2_ := (Option.bind_some _ _).symm.trans H; with_reducible exact H2_) | with_reducible exact H | (rw [hy245]; exact H) | exact H
              have Ny245 := Aside0.mk hy245
              clear hy245
              replace H := Option.bind_eq_some_iff.mp H
              obtain ⟨t249, A90, H⟩ := H
              replace H : (if t244 > 4092 then (coppiceref9_Branch.j1 k1 l0 x3_1 x4_1 x5_1 t244 t249 true) else (coppiceref9_Branch.j1 k1 l0 x3_1 x4_1 x5_1 t244 t249 (decide (t249 > 4092)))) = some r := H
              have A9 := Aside0.mk A90
              clear A90
              have HC10 := Aside0.mk H
              clear H
              have q11 : ((ji3) : Int) ≤ ((l0.length : Int) : Int) := of_decide_eq_true (by first | (with_reducible assumption) | assumption)
              obtain ⟨i011, hi011, _, hsz11, _⟩ := info_parts info32
              have hroom11 : l0.length ≤ c0 := HC0.out
              have hC11 : Kd.C (Kd.slice 5 (Kd.int .u8)) _ A0 l0.length l0 := HR0.out
              have hcut11 := cut_to (P := Try.prog) 28 32 .i64 Try.underlying28 hi011 A0 l0.length c0 (ji3) (of_decide_eq_true (by first | (with_reducible assumption) | assumption)) q11 hroom11
              have hr11 := Kd.C_take (m := ((ji3) : Int).toNat) hC11 (by omega)
              have hy11 : y240.length = ((ji3) : Int).toNat := (by rw [Ny240.out, List.length_take]; omega)
              rw [← Ny240.out] at hr11
              rw [← hy11] at hcut11
              have HR243 := Aside0.mk hr11
              have HC243 := Aside0.mk (show y240.length ≤ c0 from by omega)
              clear hr11 hC11 hroom11 hi011 hsz11
              have KY11 := Aside0.mk hy11
              clear hy11
              replace q11 := eq_true q11
              go_upto_region 8 with (first | ((with_reducible refine gate_callee (f := 30) rfl ?_); refine goesL_ (some 18) rfl rfl Try.func30 (by kernel_rfl) rfl #[.slice A0 y240.length c0] rfl (by (try simp only [List.map_toArray, List.map_cons, List.map_nil]); first | done | rfl | (simp only [List.length_drop, List.length_take]; rfl)) ?_; (with_reducible refine (coppiceref5_Size.calls k1 _ _ y240 t244 _ ?side1 ?side2 A6.out).mono ?_); (case side1 => repeat (first | exact (Kd.C_below HR243.out HB.out) | (with_reducible refine Kd.C_alloc ?_ _) | (with_reducible refine Kd.C_drewN ?_ _) | (with_reducible refine Kd.C_drew ?_))); (case side2 => exact HC243.out); rintro e w12 ⟨rfl, hb⟩; refine ⟨_, rfl, ?_⟩; have n0_ := Aside0.mk (below_step (by repeat (first | (with_reducible first | exact HB.out | apply below_alloc | apply pw_below_drewN | apply below_drew1) | exact HB.out)) hb); clear HB; have HB := n0_; clear n0_; (try clear hb); (try clear hb2); (try clear hk); (try clear hi); have q13 : (x5_1 : Int) ≤ ((l0.length : Int) : Int) := of_decide_eq_true (by first | (with_reducible assumption) | assumption); obtain ⟨i013, hi013, _, hsz13, _⟩ := info_parts info32; have hroom13 : l0.length ≤ c0 := HC0.out; have hC13 : Kd.C (Kd.slice 5 (Kd.int .u8)) _ A0 l0.length l0 := HR0.out; have q013 : (0 : Int) ≤ (x5_1 : Int) := of_decide_eq_true (by first | (with_reducible assumption) | assumption); have hcut13 := cut_from (P := Try.prog) 28 32 .i64 Try.underlying28 hi013 1 hsz13 A0 l0.length c0 x5_1 q013 q13; have hr13 := Kd.C_drop (m := (x5_1 : Int).toNat) (c := c0) hC13 (by omega) hroom13; obtain ⟨A13, hA13⟩ : ∃ A1, A1 = (if c0 = (x5_1 : Int).toNat then A0 else (A0 : Option Addr).map (·.add ((x5_1 : Int).toNat * 1))) := ⟨_, rfl⟩; obtain ⟨c13, hc13⟩ : ∃ c1, c1 = c0 - (x5_1 : Int).toNat := ⟨_, rfl⟩; have hy13 : y245.length = l0.length - (x5_1 : Int).toNat := (by rw [Ny245.out, List.length_drop] <;> omega); rw [show (l0).drop (x5_1 : Int).toNat = y245 from Ny245.out.symm] at hr13; replace hr13 : Kd.C (Kd.slice 5 (Kd.int .u8)) _ A13 y245.length y245 := (by rw [hA13]; exact hr13); rw [← hy13, ← hA13, ← hc13] at hcut13; have HR248 := Aside0.mk hr13; have HC248 := Aside0.mk (show y245.length ≤ c13 from by rw [hy13, hc13]; exact Nat.sub_le_sub_right hroom13 _); clear hr13 hC13 hroom13 hi013 hsz13 hc13; have KY13 := Aside0.mk hy13; have KA13 := Aside0.mk hA13; clear hy13 hA13; replace q13 := eq_true q13) | ((with_reducible refine gate_callee (f := 30) rfl ?_); refine goesL_ (some 22) rfl rfl Try.func30 (by kernel_rfl) rfl #[.slice A13 y245.length c13] rfl (by (try simp only [List.map_toArray, List.map_cons, List.map_nil]); first | done | rfl | (simp only [List.length_drop, List.length_take]; rfl)) ?_; (with_reducible refine (coppiceref5_Size.calls k1 _ _ y245 t249 _ ?side1 ?side2 A9.out).mono ?_); (case side1 => repeat (first | exact (Kd.C_below HR248.out HB.out) | (with_reducible refine Kd.C_alloc ?_ _) | (with_reducible refine Kd.C_drewN ?_ _) | (with_reducible refine Kd.C_drew ?_))); (case side2 => exact HC248.out); rintro e w14 ⟨rfl, hb⟩; refine ⟨_, rfl, ?_⟩; have n0_ := Aside0.mk (below_step (by repeat (first | (with_reducible first | exact HB.out | apply below_alloc | apply pw_below_drewN | apply below_drew1) | exact HB.out)) hb); clear HB; have HB := n0_; clear n0_; (try clear hb); (try clear hb2); (try clear hk); (try clear hi)))
              (try simp only [Act.put, List.setIfInBounds_toArray, List.set_cons_zero, List.set_cons_succ])
              go_cut [28] (fun v28 wc => ∃ (kq : Nat) (x28_9 : Bool), v28 = .bool x28_9 ∧ Aside0 (coppiceref9_Branch.j1 kq l0 x3_1 x4_1 x5_1 t244 t249 x28_9 = some r) ∧ Aside0 (kq ≤ k1) ∧ Aside0 (Below w.heap.size w wc))
              case first =>
                have H := HC10.out
                clear HC10
                by_cases c15 : t244 > 4092
                · rw [if_pos c15] at H
                  have c15b0 : decide (4092 < t244) = true := decide_eq_true c15
                  clear c15
                  (first | rw [c15b0] | (simp only [i64_w, i32_w]; rw [c15b0]) | skip)
                  have H' := Aside0.mk H
                  clear H
                  go_wp2
                  go_meet
                  case rel => exact ⟨_, (true), (by first | rfl | (simp; done) | (simp [*]; done)), H', ⟨by have := HK1.out; first | omega | exact Nat.le_refl _⟩, ⟨by repeat (first | (with_reducible first | exact HB.out | apply below_alloc | apply pw_below_drewN | apply below_drew1) | exact HB.out)⟩⟩
                · rw [if_neg c15] at H
                  have c15b0 : decide (4092 < t244) = false := decide_eq_false c15
                  clear c15
                  (first | rw [c15b0] | (simp only [i64_w, i32_w]; rw [c15b0]) | skip)
                  have H' := Aside0.mk H
                  clear H
                  go_wp2
                  go_meet
                  case rel => exact ⟨_, (decide (t249 > 4092)), (by first | rfl | (simp; done) | (simp [*]; done)), H', ⟨by have := HK1.out; first | omega | exact Nat.le_refl _⟩, ⟨by repeat (first | (with_reducible first | exact HB.out | apply below_alloc | apply pw_below_drewN | apply below_drew1) | exact HB.out)⟩⟩
              case rest =>
                clear HC10
                try clear c1
                try clear q1
                try clear c2
                try clear c2b0
                try clear p2
                try clear c3
                try clear c4
                try clear c4b0
                try clear c4b1
                try clear c5
                try clear c5b0
                try clear c5b1
                try clear p6
                try clear c7
                try clear c7b0
                try clear c7b1
                try clear c8
                try clear c8b0
                try clear q11
                try clear c13
                try clear q13
                try clear c15
                try clear c15b0
                try clear q013
                try clear q11
                try clear q13
                obtain ⟨kq, x28_9, rfl, HA, HJ9, HB⟩ := hcut
                cases kq with
                | zero => exact absurd HA.out (by simp [coppiceref9_Branch.j1])
                | succ kj9 =>
                  have H := HA.out
                  clear HA
                  simp only [coppiceref9_Branch.j1] at H
                  by_cases c16 : x28_9 = true
                  · subst c16
                    have H1 : (coppiceref9_Branch.l0 kj9 l0 x3_1 x4_1 (wrap64 (x5_1 + 1))) = some r := by rw [if_pos rfl] at H; exact H
                    clear H
                    have H := H1
                    clear H1
                    have H' := Aside0.mk H
                    clear H
                    go_wp2
                    go_roundg kj9
                    case measure => have := HK1.out; have := HJ9.out; omega
                    case rel => exact ⟨(x3_1), (x4_1), (wrap64 (x5_1 + 1)), (by first | rfl | (simp; done) | (simp [*]; done)), (by first | rfl | (simp; done) | (simp [*]; done)), (by first | rfl | (simp; done) | (simp [*]; done)), H', ⟨by have := HK1.out; have := HJ9.out; omega⟩, ⟨by repeat (first | (with_reducible first | exact HB.out | apply below_alloc | apply pw_below_drewN | apply below_drew1) | exact HB.out)⟩⟩
                  · replace c16 := Bool.eq_false_iff.mpr c16
                    subst c16
                    have H1 : (if x3_1 = 0 then (coppiceref9_Branch.l0 kj9 l0 x5_1 (mx t244 t249) (wrap64 (x5_1 + 1))) else (if (mx t244 t249) < x4_1 then (coppiceref9_Branch.l0 kj9 l0 x5_1 (mx t244 t249) (wrap64 (x5_1 + 1))) else (coppiceref9_Branch.l0 kj9 l0 x3_1 x4_1 (wrap64 (x5_1 + 1))))) = some r := by rw [if_neg (show ¬ (false = true) by decide)] at H; exact H
                    clear H
                    have H := H1
                    clear H1
                    by_cases c17 : x3_1 = 0
                    · rw [if_pos c17] at H
                      have c17b0 : (x3_1 == 0) = true := beq_iff_eq.mpr c17
                      have c17b1 : (x3_1 != 0) = false := bne_eq_false_iff_eq.mpr c17
                      clear c17
                      obtain ⟨ji18, hji18⟩ : ∃ j_ : Int, (mx t244 t249) = j_ := ⟨_, rfl⟩
                      replace H : (coppiceref9_Branch.l0 kj9 l0 x5_1 ji18 (wrap64 (x5_1 + 1))) = some r := by first | (rw [hji18] at H; exact H) | (simp only [hji18] at H ⊢; exact H)
                      have hji18_ : (if t244 < t249 then t249 else t244) = ji18 := hji18
                      have H' := Aside0.mk H
                      clear H
                      go_wp2
                      go_roundg kj9
                      case measure => have := HK1.out; have := HJ9.out; omega
                      case rel => exact ⟨(x5_1), (ji18), (wrap64 (x5_1 + 1)), (by first | rfl | (simp; done) | (simp [*]; done)), (by first | rfl | (simp; done) | (simp only [← hji18] <;> (first | rfl | simp)) | (simp [*]; done)), (by first | rfl | (simp; done) | (simp [*]; done)), H', ⟨by have := HK1.out; have := HJ9.out; omega⟩, ⟨by repeat (first | (with_reducible first | exact HB.out | apply below_alloc | apply pw_below_drewN | apply below_drew1) | exact HB.out)⟩⟩
                    · rw [if_neg c17] at H
                      have c17b0 : (x3_1 == 0) = false := beq_eq_false_iff_ne.mpr c17
                      have c17b1 : (x3_1 != 0) = true := bne_iff_ne.mpr c17
                      obtain ⟨ji19, hji19⟩ : ∃ j_ : Int, (mx t244 t249) = j_ := ⟨_, rfl⟩
                      replace H : (if (ji19) < x4_1 then (coppiceref9_Branch.l0 kj9 l0 x5_1 ji19 (wrap64 (x5_1 + 1))) else (coppiceref9_Branch.l0 kj9 l0 x3_1 x4_1 (wrap64 (x5_1 + 1)))) = some r := by first | (rw [hji19] at H; exact H) | (simp only [hji19] at H ⊢; exact H)
                      have hji19_ : (if t244 < t249 then t249 else t244) = ji19 := hji19
                      by_cases c20 : (ji19) < x4_1
                      · rw [if_pos c20] at H
                        have c20b0 : decide ((ji19) < x4_1) = true := decide_eq_true c20
                        clear c20
                        have H' := Aside0.mk H
                        clear H
                        go_wp2
                        go_roundg kj9
                        case measure => have := HK1.out; have := HJ9.out; omega
                        case rel => exact ⟨(x5_1), (ji19), (wrap64 (x5_1 + 1)), (by first | rfl | (simp; done) | (simp [*]; done)), (by first | rfl | (simp; done) | (simp only [← hji19] <;> (first | rfl | simp)) | (simp [*]; done)), (by first | rfl | (simp; done) | (simp [*]; done)), H', ⟨by have := HK1.out; have := HJ9.out; omega⟩, ⟨by repeat (first | (with_reducible first | exact HB.out | apply below_alloc | apply pw_below_drewN | apply below_drew1) | exact HB.out)⟩⟩
                      · rw [if_neg c20] at H
                        have c20b0 : decide ((ji19) < x4_1) = false := decide_eq_false c20
                        clear c20
                        have H' := Aside0.mk H
                        clear H
                        go_wp2
                        go_roundg kj9
                        case measure => have := HK1.out; have := HJ9.out; omega
                        case rel => exact ⟨(x3_1), (x4_1), (wrap64 (x5_1 + 1)), (by first | rfl | (simp; done) | (simp [*]; done)), (by first | rfl | (simp; done) | (simp [*]; done)), (by first | rfl | (simp; done) | (simp [*]; done)), H', ⟨by have := HK1.out; have := HJ9.out; omega⟩, ⟨by repeat (first | (with_reducible first | exact HB.out | apply below_alloc | apply pw_below_drewN | apply below_drew1) | exact HB.out)⟩⟩
            · rw [if_neg c7] at H
              exact absurd H (by simp)
          · rw [if_neg c5] at H
            exact absurd H (by simp)
        · rw [if_neg c4] at H
          exact absurd H (by simp)
      · rw [if_neg c2] at H
        have c2b0 : decide (x5_1 ≤ (l0.length : Int)) = false := decide_eq_false c2
        clear c2
        obtain rfl := Option.some.inj H
        go_wp2
        go_ret
        exact ⟨by first | rfl | (simp [errW_none, errW_some] <;> rfl) | (simp [*, errW_none, errW_some] <;> rfl), by repeat (first | (with_reducible first | exact HB.out | apply below_alloc | apply pw_below_drewN | apply below_drew1) | exact HB.out)⟩

/-! ### coppiceref9_JoinLeaves: function 22 -/
def coppiceref9_JoinLeaves.f (k : Nat) (l0 : List (S38)) (l1 : List (S38)) : Option (Bool) := if ([] : List (S38)).length + l0.length < 2199023255552 then ((some (([] : List (S38)) ++ l0 : List (S38))).bind fun y256 => (if y256.length + l1.length < 2199023255552 then ((coppiceref4_Size.f k (y256 ++ l1)).bind fun t262 => (some (decide (t262 ≤ 3000)))) else (none))) else (none)
theorem coppiceref9_JoinLeaves.mono : ∀ a0 a1 k, LeO (coppiceref9_JoinLeaves.f k a0 a1) (coppiceref9_JoinLeaves.f (k + 1) a0 a1) := by
  intro a0 a1 k
  unfold coppiceref9_JoinLeaves.f
  repeat' first
      | (with_reducible exact coppiceref4_Size.mono _ _)
      | (with_reducible exact LeO.refl _)
      | (with_reducible exact LeO.none _)
      | (with_reducible refine LeO.ite ?_ ?_)
      | (with_reducible refine LeO.bind ?_ (fun _ => ?_))
      | exact coppiceref4_Size.mono _ _
      | exact LeO.none _
      | refine LeO.ite ?_ ?_
      | refine LeO.bind ?_ (fun _ => ?_)
set_option maxHeartbeats 8000000 in
set_option maxRecDepth 100000 in
theorem coppiceref9_JoinLeaves.calls (k : Nat) (P0_ : Nat → Prop) (A0 : Option Addr) (c0 : Nat) (l0 : List (S38)) (P1_ : Nat → Prop) (A1 : Option Addr) (c1 : Nat) (l1 : List (S38)) (r : Bool) (w : World) (hs0 : Kd.V k38 38 w w.heap.size (fun k_ => P0_ k_) (.slice A0 l0.length c0) l0) (hs1 : Kd.V k38 38 w w.heap.size (fun k_ => P1_ k_) (.slice A1 l1.length c1) l1) (h : coppiceref9_JoinLeaves.f k l0 l1 = some r) :
    Calls Try.prog 22 #[.slice A0 l0.length c0, .slice A1 l1.length c1] w fun e w' => e = .returned (.bool r) ∧ Below w.heap.size w w' := by
  have HO0 := Aside0.mk (show Kd.V k38 38 w w.heap.size (fun k_ => ((P0_ k_ ∨ P1_ k_) ∨ w.heap.size ≤ k_)) (.slice A0 l0.length c0) l0 from Kd.V_mono hs0 (fun k_ hk => .inl (.inl hk)))
  have HO1 := Aside0.mk (show Kd.V k38 38 w w.heap.size (fun k_ => ((P0_ k_ ∨ P1_ k_) ∨ w.heap.size ≤ k_)) (.slice A1 l1.length c1) l1 from Kd.V_mono hs1 (fun k_ hk => .inl (.inr hk)))
  have HB := Aside0.mk (Below.refl w.heap.size w)
  have H : (if ([] : List (S38)).length + l0.length < 2199023255552 then ((some (([] : List (S38)) ++ l0 : List (S38))).bind fun y256 => (if y256.length + l1.length < 2199023255552 then ((coppiceref4_Size.f k (y256 ++ l1)).bind fun t262 => (some (decide (t262 ≤ 3000)))) else (none))) else (none)) = some r := h
  clear h
  by_cases c3 : ([] : List (S38)).length + l0.length < 2199023255552
  · rw [if_pos c3] at H
    have LMc3 := Aside0.mk c3
    clear c3
    obtain ⟨y256, hy256⟩ : ∃ y_ : List (S38), y_ = (([] : List (S38)) ++ l0) := ⟨_, rfl⟩
    replace H : (if y256.length + l1.length < 2199023255552 then ((coppiceref4_Size.f k (y256 ++ l1)).bind fun t262 => (some (decide (t262 ≤ 3000)))) else (none)) = some r := by first | (rw [hy256]; with_reducible exact H) | (have H2_ := (Option.bind_some _ _).symm.trans H; rw [hy256]; with_reducible exact H2_) | (have H2_ := (Option.bind_some _ _).symm.trans H; with_reducible exact H2_) | with_reducible exact H | (rw [hy256]; exact H) | exact H
    have Ny256 := Aside0.mk hy256
    clear hy256
    by_cases c4 : y256.length + l1.length < 2199023255552
    · rw [if_pos c4] at H
      have LMc4 := Aside0.mk c4
      clear c4
      obtain ⟨y259, hy259⟩ : ∃ y_ : List (S38), y_ = (y256 ++ l1) := ⟨_, rfl⟩
      replace H : ((coppiceref4_Size.f k y259).bind fun t262 => (some (decide (t262 ≤ 3000)))) = some r := by first | (rw [hy259]; with_reducible exact H) | (have H2_ := (Option.bind_some _ _).symm.trans H; rw [hy259]; with_reducible exact H2_) | (have H2_ := (Option.bind_some _ _).symm.trans H; with_reducible exact H2_) | with_reducible exact H | (rw [hy259]; exact H) | exact H
      have Ny259 := Aside0.mk hy259
      clear hy259
      replace H := Option.bind_eq_some_iff.mp H
      obtain ⟨t262, A50, H⟩ := H
      replace H : (some (decide (t262 ≤ 3000))) = some r := H
      have A5 := Aside0.mk A50
      clear A50
      obtain rfl := Option.some.inj H
      go_enter Try.func22, Try.ntmps22
      go_wp2_with (first | ((with_reducible refine gate_builtin (b := .append) (xs := #[.tmp 6, .tmp 7]) rfl ?_); at_builtin; refine Kd.N_append_rows k38 (w0 := w) w.heap.size rfl (.tmp 6) (.tmp 7) 24 38 (.agg #[(.slice none 0 0), (.slice none 0 0), (.int .i64 0), (.int .i64 0)]) 64 rfl Try.underlying24 info38 rfl (by decide) (by omega) (.slice none 0 0) ([] : List (S38)) l0 _ _ _ (fun k_ => ((P0_ k_ ∨ P1_ k_) ∨ w.heap.size ≤ k_)) (fun k_ => ((fun k_ => ((P0_ k_ ∨ P1_ k_) ∨ w.heap.size ≤ k_))) k_ ∧ some k_ ≠ (.slice none 0 0 : Value).ownBlock) rfl rfl ?aO ?aR (fun _ hk => hk) ?aF ?aB ?aS ?aL ?_; (case aR => exact (by skip; exact Kd.V_F (Kd.V_mono (ok' := (fun k_ => ((fun k_ => ((P0_ k_ ∨ P1_ k_) ∨ w.heap.size ≤ k_))) k_ ∧ some k_ ≠ (.slice none 0 0 : Value).ownBlock)) (HO0.out) (fun k_ hk => ⟨hk, (by simp [Value.ownBlock])⟩)))); (case aB => exact (by repeat (first | (with_reducible first | exact HB.out | apply below_alloc | apply pw_below_drewN | apply below_drew1) | exact HB.out))); (case aF => exact (fun k_ hk => (.inr (Nat.le_trans (below_size (by repeat (first | (with_reducible first | exact HB.out | apply below_alloc | apply pw_below_drewN | apply below_drew1) | exact HB.out))) hk)))); (case aO => exact ((Kd.N_nil _ _ _ _ (fun k_ => ((P0_ k_ ∨ P1_ k_) ∨ w.heap.size ≤ k_))))); (case aS => exact (below_size (by repeat (first | (with_reducible first | exact HB.out | apply below_alloc | apply pw_below_drewN | apply below_drew1) | exact HB.out)))); (case aL => have := LMc3.out; omega); intro v257 w6 ho hb hg hat; rw [← Ny256.out] at ho; have n0_ := Aside0.mk (Kd.V_afterv (Kd.V_apart_nil (by (with_reducible repeat (first | apply Kd.V_alloc | apply Kd.V_drewN | apply Kd.V_drew)); exact HO0.out)) hg hat); have n1_ := Aside0.mk (Kd.V_afterv (Kd.V_apart_nil (by (with_reducible repeat (first | apply Kd.V_alloc | apply Kd.V_drewN | apply Kd.V_drew)); exact HO1.out)) hg hat); have n2_ := Aside0.mk (hb); have n3_ := Aside0.mk (ho); clear HO0; clear HO1; clear HB; have HO0 := n0_; have HO1 := n1_; have HB := n2_; have HO258 := n3_; clear n0_ n1_ n2_ n3_; clear ho hb hg hat) | ((with_reducible refine gate_builtin (b := .append) (xs := #[.tmp 9, .tmp 10]) rfl ?_); at_builtin; refine Kd.N_append_rows k38 (w0 := w) w.heap.size rfl (.tmp 9) (.tmp 10) 24 38 (.agg #[(.slice none 0 0), (.slice none 0 0), (.int .i64 0), (.int .i64 0)]) 64 rfl Try.underlying24 info38 rfl (by decide) (by omega) v257 y256 l1 _ _ _ (fun k_ => ((P0_ k_ ∨ P1_ k_) ∨ w.heap.size ≤ k_)) (fun k_ => ((fun k_ => ((P0_ k_ ∨ P1_ k_) ∨ w.heap.size ≤ k_))) k_ ∧ some k_ ≠ (v257 : Value).ownBlock) rfl rfl ?aO ?aR (fun _ hk => hk) ?aF ?aB ?aS ?aL ?_; (case aR => exact (by skip; exact Kd.V_F (Kd.V_mono (ok' := (fun k_ => ((fun k_ => ((P0_ k_ ∨ P1_ k_) ∨ w.heap.size ≤ k_))) k_ ∧ some k_ ≠ (v257 : Value).ownBlock)) (HO1.out) (fun k_ hk => ⟨hk.1, hk.2⟩)))); (case aB => exact (by repeat (first | (with_reducible first | exact HB.out | apply below_alloc | apply pw_below_drewN | apply below_drew1) | exact HB.out))); (case aF => exact (fun k_ hk => (.inr (Nat.le_trans (below_size (by repeat (first | (with_reducible first | exact HB.out | apply below_alloc | apply pw_below_drewN | apply below_drew1) | exact HB.out))) hk)))); (case aO => exact (by (with_reducible repeat (first | apply Kd.N_alloc | apply Kd.N_drewN | apply Kd.N_drew)); exact HO258.out)); (case aS => exact (below_size (by repeat (first | (with_reducible first | exact HB.out | apply below_alloc | apply pw_below_drewN | apply below_drew1) | exact HB.out)))); (case aL => have := LMc4.out; omega); intro v260 w7 ho hb hg hat; rw [← Ny259.out] at ho; have n0_ := Aside0.mk (Kd.V_afterv (ok := (fun k_ => ((P0_ k_ ∨ P1_ k_) ∨ w.heap.size ≤ k_))) (by (with_reducible repeat (first | apply Kd.V_alloc | apply Kd.V_drewN | apply Kd.V_drew)); exact HO0.out) hg hat); have n1_ := Aside0.mk (Kd.V_afterv (ok := (fun k_ => ((P0_ k_ ∨ P1_ k_) ∨ w.heap.size ≤ k_))) (by (with_reducible repeat (first | apply Kd.V_alloc | apply Kd.V_drewN | apply Kd.V_drew)); exact HO1.out) hg hat); have n2_ := Aside0.mk (hb); have n3_ := Aside0.mk (ho); clear HO0; clear HO1; clear HB; clear HO258; have HO0 := n0_; have HO1 := n1_; have HB := n2_; have HO261 := n3_; clear n0_ n1_ n2_ n3_; clear ho hb hg hat; obtain ⟨Ao8, co8, eo8⟩ := Kd.N_slice HO261.out; subst eo8) | ((with_reducible refine gate_callee (f := 28) rfl ?_); refine goesL_ (some 13) rfl rfl Try.func28 (by kernel_rfl) rfl #[.slice Ao8 y259.length co8] rfl (by (try simp only [List.map_toArray, List.map_cons, List.map_nil]); first | done | rfl | (simp only [List.length_drop, List.length_take]; rfl)) ?_; (with_reducible refine (coppiceref4_Size.calls k _ _ y259 t262 _ ?side1 ?side2 A5.out).mono ?_); (case side1 => repeat (first | exact (Kd.N_reads' HO261.out).2.2 | (with_reducible refine Kd.C_alloc ?_ _) | (with_reducible refine Kd.C_drewN ?_ _) | (with_reducible refine Kd.C_drew ?_))); (case side2 => exact (Kd.N_reads' HO261.out).2.1); rintro e w' ⟨rfl, ⟨nd, rfl⟩⟩; refine ⟨_, rfl, ?_⟩))
      go_ret
      exact ⟨by first | rfl | (simp [errW_none, errW_some] <;> rfl) | (simp [*, errW_none, errW_some] <;> rfl), by repeat (first | (with_reducible first | exact HB.out | apply below_alloc | apply pw_below_drewN | apply below_drew1) | exact HB.out)⟩
    · rw [if_neg c4] at H
      exact absurd H (by simp)
  · rw [if_neg c3] at H
    exact absurd H (by simp)

/-! ### coppiceref9_JoinBranches: function 23 -/
def coppiceref9_JoinBranches.f (k : Nat) (l0 : List (List Int)) (l1 : List Int) (l2 : List (List Int)) : Option (Bool) := if ([] : List (List Int)).length + l0.length < 5864062014805 then ((some (([] : List (List Int)) ++ l0 : List (List Int))).bind fun y263 => (if y263.length < 5864062014805 then ((some (y263 ++ [l1] : List (List Int))).bind fun y266 => (if y266.length + l2.length < 5864062014805 then ((coppiceref5_Size.f k (y266 ++ l2)).bind fun t272 => (some (decide (t272 ≤ 3000)))) else (none))) else (none))) else (none)
theorem coppiceref9_JoinBranches.mono : ∀ a0 a1 a2 k, LeO (coppiceref9_JoinBranches.f k a0 a1 a2) (coppiceref9_JoinBranches.f (k + 1) a0 a1 a2) := by
  intro a0 a1 a2 k
  unfold coppiceref9_JoinBranches.f
  repeat' first
      | (with_reducible exact coppiceref5_Size.mono _ _)
      | (with_reducible exact LeO.refl _)
      | (with_reducible exact LeO.none _)
      | (with_reducible refine LeO.ite ?_ ?_)
      | (with_reducible refine LeO.bind ?_ (fun _ => ?_))
      | exact coppiceref5_Size.mono _ _
      | exact LeO.none _
      | refine LeO.ite ?_ ?_
      | refine LeO.bind ?_ (fun _ => ?_)
set_option maxHeartbeats 8000000 in
set_option maxRecDepth 100000 in
theorem coppiceref9_JoinBranches.calls (k : Nat) (P0_ : Nat → Prop) (A0 : Option Addr) (c0 : Nat) (l0 : List (List Int)) (P1_ : Nat → Prop) (A1 : Option Addr) (c1 : Nat) (l1 : List Int) (P2_ : Nat → Prop) (A2 : Option Addr) (c2 : Nat) (l2 : List (List Int)) (r : Bool) (w : World) (hs0 : Kd.V (Kd.slice 5 (Kd.int .u8)) 32 w w.heap.size (fun k_ => P0_ k_) (.slice A0 l0.length c0) l0) (hs1 : Kd.V (Kd.int .u8) 5 w w.heap.size (fun k_ => P1_ k_) (.slice A1 l1.length c1) l1) (hs2 : Kd.V (Kd.slice 5 (Kd.int .u8)) 32 w w.heap.size (fun k_ => P2_ k_) (.slice A2 l2.length c2) l2) (h : coppiceref9_JoinBranches.f k l0 l1 l2 = some r) :
    Calls Try.prog 23 #[.slice A0 l0.length c0, .slice A1 l1.length c1, .slice A2 l2.length c2] w fun e w' => e = .returned (.bool r) ∧ Below w.heap.size w w' := by
  have HO0 := Aside0.mk (show Kd.V (Kd.slice 5 (Kd.int .u8)) 32 w w.heap.size (fun k_ => ((P0_ k_ ∨ P1_ k_ ∨ P2_ k_) ∨ w.heap.size ≤ k_)) (.slice A0 l0.length c0) l0 from Kd.V_mono hs0 (fun k_ hk => .inl (.inl hk)))
  have HO1 := Aside0.mk (show Kd.V (Kd.int .u8) 5 w w.heap.size (fun k_ => ((P0_ k_ ∨ P1_ k_ ∨ P2_ k_) ∨ w.heap.size ≤ k_)) (.slice A1 l1.length c1) l1 from Kd.V_mono hs1 (fun k_ hk => .inl (.inr (.inl hk))))
  have HO2 := Aside0.mk (show Kd.V (Kd.slice 5 (Kd.int .u8)) 32 w w.heap.size (fun k_ => ((P0_ k_ ∨ P1_ k_ ∨ P2_ k_) ∨ w.heap.size ≤ k_)) (.slice A2 l2.length c2) l2 from Kd.V_mono hs2 (fun k_ hk => .inl (.inr (.inr hk))))
  have HB := Aside0.mk (Below.refl w.heap.size w)
  have H : (if ([] : List (List Int)).length + l0.length < 5864062014805 then ((some (([] : List (List Int)) ++ l0 : List (List Int))).bind fun y263 => (if y263.length < 5864062014805 then ((some (y263 ++ [l1] : List (List Int))).bind fun y266 => (if y266.length + l2.length < 5864062014805 then ((coppiceref5_Size.f k (y266 ++ l2)).bind fun t272 => (some (decide (t272 ≤ 3000)))) else (none))) else (none))) else (none)) = some r := h
  clear h
  by_cases c4 : ([] : List (List Int)).length + l0.length < 5864062014805
  · rw [if_pos c4] at H
    have LMc4 := Aside0.mk c4
    clear c4
    obtain ⟨y263, hy263⟩ : ∃ y_ : List (List Int), y_ = (([] : List (List Int)) ++ l0) := ⟨_, rfl⟩
    replace H : (if y263.length < 5864062014805 then ((some (y263 ++ [l1] : List (List Int))).bind fun y266 => (if y266.length + l2.length < 5864062014805 then ((coppiceref5_Size.f k (y266 ++ l2)).bind fun t272 => (some (decide (t272 ≤ 3000)))) else (none))) else (none)) = some r := by first | (rw [hy263]; with_reducible exact H) | (have H2_ := (Option.bind_some _ _).symm.trans H; rw [hy263]; with_reducible exact H2_) | (have H2_ := (Option.bind_some _ _).symm.trans H; with_reducible exact H2_) | with_reducible exact H | (rw [hy263]; exact H) | exact H
    have Ny263 := Aside0.mk hy263
    clear hy263
    by_cases c5 : y263.length < 5864062014805
    · rw [if_pos c5] at H
      have LMc5 := Aside0.mk c5
      clear c5
      obtain ⟨y266, hy266⟩ : ∃ y_ : List (List Int), y_ = (y263 ++ [l1]) := ⟨_, rfl⟩
      replace H : (if y266.length + l2.length < 5864062014805 then ((coppiceref5_Size.f k (y266 ++ l2)).bind fun t272 => (some (decide (t272 ≤ 3000)))) else (none)) = some r := by first | (rw [hy266]; with_reducible exact H) | (have H2_ := (Option.bind_some _ _).symm.trans H; rw [hy266]; with_reducible exact H2_) | (have H2_ := (Option.bind_some _ _).symm.trans H; with_reducible exact H2_) | with_reducible exact H | (rw [hy266]; exact H) | exact H
      have Ny266 := Aside0.mk hy266
      clear hy266
      by_cases c6 : y266.length + l2.length < 5864062014805
      · rw [if_pos c6] at H
        have LMc6 := Aside0.mk c6
        clear c6
        obtain ⟨y269, hy269⟩ : ∃ y_ : List (List Int), y_ = (y266 ++ l2) := ⟨_, rfl⟩
        replace H : ((coppiceref5_Size.f k y269).bind fun t272 => (some (decide (t272 ≤ 3000)))) = some r := by first | (rw [hy269]; with_reducible exact H) | (have H2_ := (Option.bind_some _ _).symm.trans H; rw [hy269]; with_reducible exact H2_) | (have H2_ := (Option.bind_some _ _).symm.trans H; with_reducible exact H2_) | with_reducible exact H | (rw [hy269]; exact H) | exact H
        have Ny269 := Aside0.mk hy269
        clear hy269
        replace H := Option.bind_eq_some_iff.mp H
        obtain ⟨t272, A70, H⟩ := H
        replace H : (some (decide (t272 ≤ 3000))) = some r := H
        have A7 := Aside0.mk A70
        clear A70
        obtain rfl := Option.some.inj H
        go_enter Try.func23, Try.ntmps23
        go_wp2_with (first | ((with_reducible refine gate_builtin (b := .append) (xs := #[.tmp 8, .tmp 9]) rfl ?_); at_builtin; refine Kd.N_append_rows (Kd.slice 5 (Kd.int .u8)) (w0 := w) w.heap.size rfl (.tmp 8) (.tmp 9) 28 32 (.slice none 0 0) 24 rfl Try.underlying28 info32 rfl (by decide) (by omega) (.slice none 0 0) ([] : List (List Int)) l0 _ _ _ (fun k_ => ((P0_ k_ ∨ P1_ k_ ∨ P2_ k_) ∨ w.heap.size ≤ k_)) (fun k_ => ((fun k_ => ((P0_ k_ ∨ P1_ k_ ∨ P2_ k_) ∨ w.heap.size ≤ k_))) k_ ∧ some k_ ≠ (.slice none 0 0 : Value).ownBlock) rfl rfl ?aO ?aR (fun _ hk => hk) ?aF ?aB ?aS ?aL ?_; (case aR => exact (by skip; exact Kd.V_F (Kd.V_mono (ok' := (fun k_ => ((fun k_ => ((P0_ k_ ∨ P1_ k_ ∨ P2_ k_) ∨ w.heap.size ≤ k_))) k_ ∧ some k_ ≠ (.slice none 0 0 : Value).ownBlock)) (HO0.out) (fun k_ hk => ⟨hk, (by simp [Value.ownBlock])⟩)))); (case aB => exact (by repeat (first | (with_reducible first | exact HB.out | apply below_alloc | apply pw_below_drewN | apply below_drew1) | exact HB.out))); (case aF => exact (fun k_ hk => (.inr (Nat.le_trans (below_size (by repeat (first | (with_reducible first | exact HB.out | apply below_alloc | apply pw_below_drewN | apply below_drew1) | exact HB.out))) hk)))); (case aO => exact ((Kd.N_nil _ _ _ _ (fun k_ => ((P0_ k_ ∨ P1_ k_ ∨ P2_ k_) ∨ w.heap.size ≤ k_))))); (case aS => exact (below_size (by repeat (first | (with_reducible first | exact HB.out | apply below_alloc | apply pw_below_drewN | apply below_drew1) | exact HB.out)))); (case aL => have := LMc4.out; omega); intro v264 w8 ho hb hg hat; rw [← Ny263.out] at ho; have n0_ := Aside0.mk (Kd.V_afterv (Kd.V_apart_nil (by (with_reducible repeat (first | apply Kd.V_alloc | apply Kd.V_drewN | apply Kd.V_drew)); exact HO0.out)) hg hat); have n1_ := Aside0.mk (Kd.V_afterv (Kd.V_apart_nil (by (with_reducible repeat (first | apply Kd.V_alloc | apply Kd.V_drewN | apply Kd.V_drew)); exact HO1.out)) hg hat); have n2_ := Aside0.mk (Kd.V_afterv (Kd.V_apart_nil (by (with_reducible repeat (first | apply Kd.V_alloc | apply Kd.V_drewN | apply Kd.V_drew)); exact HO2.out)) hg hat); have n3_ := Aside0.mk (hb); have n4_ := Aside0.mk (ho); clear HO0; clear HO1; clear HO2; clear HB; have HO0 := n0_; have HO1 := n1_; have HO2 := n2_; have HB := n3_; have HO265 := n4_; clear n0_ n1_ n2_ n3_ n4_; clear ho hb hg hat) | ((with_reducible refine gate_builtin (b := .append) (xs := #[.tmp 11, .tmp 13]) rfl ?_); at_builtin; refine Kd.N_append (Kd.slice 5 (Kd.int .u8)) (w0 := w) w.heap.size rfl (.tmp 11) (.tmp 13) 28 32 (.slice none 0 0) 24 rfl Try.underlying28 info32 rfl (by decide) (by omega) v264 y263 l1 [.slice A1 l1.length c1] (fun k_ => ((P0_ k_ ∨ P1_ k_ ∨ P2_ k_) ∨ w.heap.size ≤ k_)) (fun k_ => ((fun k_ => ((P0_ k_ ∨ P1_ k_ ∨ P2_ k_) ∨ w.heap.size ≤ k_))) k_ ∧ some k_ ≠ (v264 : Value).ownBlock) rfl rfl ?aP (fun _ hk => hk) ?aF ?aO ?aB ?aS ?aL ?_; (case aP => exact (Kd.FK_slice_mk (Kd.V_reads' (Kd.V_mono (ok' := (fun k_ => ((fun k_ => ((P0_ k_ ∨ P1_ k_ ∨ P2_ k_) ∨ w.heap.size ≤ k_))) k_ ∧ some k_ ≠ (v264 : Value).ownBlock)) (HO1.out) (fun k_ hk => ⟨hk.1, hk.2⟩))).2.1 (Kd.V_F (Kd.V_mono (ok' := (fun k_ => ((fun k_ => ((P0_ k_ ∨ P1_ k_ ∨ P2_ k_) ∨ w.heap.size ≤ k_))) k_ ∧ some k_ ≠ (v264 : Value).ownBlock)) (HO1.out) (fun k_ hk => ⟨hk.1, hk.2⟩))))); (case aB => exact (by repeat (first | (with_reducible first | exact HB.out | apply below_alloc | apply pw_below_drewN | apply below_drew1) | exact HB.out))); (case aF => exact (fun k_ hk => (.inr (Nat.le_trans (below_size (by repeat (first | (with_reducible first | exact HB.out | apply below_alloc | apply pw_below_drewN | apply below_drew1) | exact HB.out))) hk)))); (case aO => exact (by (with_reducible repeat (first | apply Kd.N_alloc | apply Kd.N_drewN | apply Kd.N_drew)); exact HO265.out)); (case aS => exact (below_size (by repeat (first | (with_reducible first | exact HB.out | apply below_alloc | apply pw_below_drewN | apply below_drew1) | exact HB.out)))); (case aL => have := LMc5.out; omega); intro v267 w9 ho hb hg hat; rw [← Ny266.out] at ho; have n0_ := Aside0.mk (Kd.V_afterv (ok := (fun k_ => ((P0_ k_ ∨ P1_ k_ ∨ P2_ k_) ∨ w.heap.size ≤ k_))) (by (with_reducible repeat (first | apply Kd.V_alloc | apply Kd.V_drewN | apply Kd.V_drew)); exact HO0.out) hg hat); have n1_ := Aside0.mk (Kd.V_afterv (ok := (fun k_ => ((P0_ k_ ∨ P1_ k_ ∨ P2_ k_) ∨ w.heap.size ≤ k_))) (by (with_reducible repeat (first | apply Kd.V_alloc | apply Kd.V_drewN | apply Kd.V_drew)); exact HO1.out) hg hat); have n2_ := Aside0.mk (Kd.V_afterv (ok := (fun k_ => ((P0_ k_ ∨ P1_ k_ ∨ P2_ k_) ∨ w.heap.size ≤ k_))) (by (with_reducible repeat (first | apply Kd.V_alloc | apply Kd.V_drewN | apply Kd.V_drew)); exact HO2.out) hg hat); have n3_ := Aside0.mk (hb); have n4_ := Aside0.mk (ho); clear HO0; clear HO1; clear HO2; clear HB; clear HO265; have HO0 := n0_; have HO1 := n1_; have HO2 := n2_; have HB := n3_; have HO268 := n4_; clear n0_ n1_ n2_ n3_ n4_; clear ho hb hg hat) | ((with_reducible refine gate_builtin (b := .append) (xs := #[.tmp 15, .tmp 16]) rfl ?_); at_builtin; refine Kd.N_append_rows (Kd.slice 5 (Kd.int .u8)) (w0 := w) w.heap.size rfl (.tmp 15) (.tmp 16) 28 32 (.slice none 0 0) 24 rfl Try.underlying28 info32 rfl (by decide) (by omega) v267 y266 l2 _ _ _ (fun k_ => ((P0_ k_ ∨ P1_ k_ ∨ P2_ k_) ∨ w.heap.size ≤ k_)) (fun k_ => ((fun k_ => ((P0_ k_ ∨ P1_ k_ ∨ P2_ k_) ∨ w.heap.size ≤ k_))) k_ ∧ some k_ ≠ (v267 : Value).ownBlock) rfl rfl ?aO ?aR (fun _ hk => hk) ?aF ?aB ?aS ?aL ?_; (case aR => exact (by skip; exact Kd.V_F (Kd.V_mono (ok' := (fun k_ => ((fun k_ => ((P0_ k_ ∨ P1_ k_ ∨ P2_ k_) ∨ w.heap.size ≤ k_))) k_ ∧ some k_ ≠ (v267 : Value).ownBlock)) (HO2.out) (fun k_ hk => ⟨hk.1, hk.2⟩)))); (case aB => exact (by repeat (first | (with_reducible first | exact HB.out | apply below_alloc | apply pw_below_drewN | apply below_drew1) | exact HB.out))); (case aF => exact (fun k_ hk => (.inr (Nat.le_trans (below_size (by repeat (first | (with_reducible first | exact HB.out | apply below_alloc | apply pw_below_drewN | apply below_drew1) | exact HB.out))) hk)))); (case aO => exact (by (with_reducible repeat (first | apply Kd.N_alloc | apply Kd.N_drewN | apply Kd.N_drew)); exact HO268.out)); (case aS => exact (below_size (by repeat (first | (with_reducible first | exact HB.out | apply below_alloc | apply pw_below_drewN | apply below_drew1) | exact HB.out)))); (case aL => have := LMc6.out; omega); intro v270 w10 ho hb hg hat; rw [← Ny269.out] at ho; have n0_ := Aside0.mk (Kd.V_afterv (ok := (fun k_ => ((P0_ k_ ∨ P1_ k_ ∨ P2_ k_) ∨ w.heap.size ≤ k_))) (by (with_reducible repeat (first | apply Kd.V_alloc | apply Kd.V_drewN | apply Kd.V_drew)); exact HO0.out) hg hat); have n1_ := Aside0.mk (Kd.V_afterv (ok := (fun k_ => ((P0_ k_ ∨ P1_ k_ ∨ P2_ k_) ∨ w.heap.size ≤ k_))) (by (with_reducible repeat (first | apply Kd.V_alloc | apply Kd.V_drewN | apply Kd.V_drew)); exact HO1.out) hg hat); have n2_ := Aside0.mk (Kd.V_afterv (ok := (fun k_ => ((P0_ k_ ∨ P1_ k_ ∨ P2_ k_) ∨ w.heap.size ≤ k_))) (by (with_reducible repeat (first | apply Kd.V_alloc | apply Kd.V_drewN | apply Kd.V_drew)); exact HO2.out) hg hat); have n3_ := Aside0.mk (hb); have n4_ := Aside0.mk (ho); clear HO0; clear HO1; clear HO2; clear HB; clear HO268; have HO0 := n0_; have HO1 := n1_; have HO2 := n2_; have HB := n3_; have HO271 := n4_; clear n0_ n1_ n2_ n3_ n4_; clear ho hb hg hat; obtain ⟨Ao11, co11, eo11⟩ := Kd.N_slice HO271.out; subst eo11) | ((with_reducible refine gate_callee (f := 30) rfl ?_); refine goesL_ (some 19) rfl rfl Try.func30 (by kernel_rfl) rfl #[.slice Ao11 y269.length co11] rfl (by (try simp only [List.map_toArray, List.map_cons, List.map_nil]); first | done | rfl | (simp only [List.length_drop, List.length_take]; rfl)) ?_; (with_reducible refine (coppiceref5_Size.calls k _ _ y269 t272 _ ?side1 ?side2 A7.out).mono ?_); (case side1 => repeat (first | exact (Kd.N_reads' HO271.out).2.2 | (with_reducible refine Kd.C_alloc ?_ _) | (with_reducible refine Kd.C_drewN ?_ _) | (with_reducible refine Kd.C_drew ?_))); (case side2 => exact (Kd.N_reads' HO271.out).2.1); rintro e w12 ⟨rfl, hb⟩; refine ⟨_, rfl, ?_⟩; have n0_ := Aside0.mk (Kd.V_below (by (with_reducible repeat (first | apply Kd.V_alloc | apply Kd.V_drewN | apply Kd.V_drew)); exact HO0.out) hb); have n1_ := Aside0.mk (Kd.V_below (by (with_reducible repeat (first | apply Kd.V_alloc | apply Kd.V_drewN | apply Kd.V_drew)); exact HO1.out) hb); have n2_ := Aside0.mk (Kd.V_below (by (with_reducible repeat (first | apply Kd.V_alloc | apply Kd.V_drewN | apply Kd.V_drew)); exact HO2.out) hb); have n3_ := Aside0.mk (Kd.N_below (by (with_reducible repeat (first | apply Kd.N_alloc | apply Kd.N_drewN | apply Kd.N_drew)); exact HO271.out) hb); have n4_ := Aside0.mk (below_step (by repeat (first | (with_reducible first | exact HB.out | apply below_alloc | apply pw_below_drewN | apply below_drew1) | exact HB.out)) hb); clear HO0; clear HO1; clear HO2; clear HO271; clear HB; have HO0 := n0_; have HO1 := n1_; have HO2 := n2_; have HO271 := n3_; have HB := n4_; clear n0_ n1_ n2_ n3_ n4_; (try clear hb); (try clear hb2); (try clear hk); (try clear hi)))
        go_ret
        exact ⟨by first | rfl | (simp [errW_none, errW_some] <;> rfl) | (simp [*, errW_none, errW_some] <;> rfl), by repeat (first | (with_reducible first | exact HB.out | apply below_alloc | apply pw_below_drewN | apply below_drew1) | exact HB.out)⟩
      · rw [if_neg c6] at H
        exact absurd H (by simp)
    · rw [if_neg c5] at H
      exact absurd H (by simp)
  · rw [if_neg c4] at H
    exact absurd H (by simp)

end Go.Proofs.Yteaiefkadmlabaa.P
