/- Machine steps of the program, written by a program of this session out of the translation. -/
import Derived.Test.YteaiefkadmlabaaP0
import Derived.Test.YteaiefkadmlabaaP13
import Derived.Test.YteaiefkadmlabaaP14
import Derived.Test.YteaiefkadmlabaaP15
import Derived.Test.YteaiefkadmlabaaP7
import Derived.Test.YteaiefkadmlabaaHBranch
import Derived.Test.YteaiefkadmlabaaHFirst
namespace Go.Proofs.Yteaiefkadmlabaa.P
open Go.RowKit Go.Proofs.YteaiefkadmlabaaW.PrintWords Go.Proofs.YteaiefkadmlabaaW.PrintLast Go.Proofs.YteaiefkadmlabaaW.PrintMore
attribute [local go_sem] max2_int min2_int max_two min_two max_three min_three max_four min_four   -- for this text's walks alone
set_option linter.unusedVariables false
set_option linter.unusedSimpArgs false

/-! ### coppicelaw9_CutBranchesAlways: function 9 -/
mutual
def coppicelaw9_CutBranchesAlways.j0 : Nat → List (List Int) → List Int → Bool → Bool → Option (Bool)
  | 0, _, _, _, _ => none
  | k + 1, x0, x1, x5, x29 => if x29 = true then (some x5) else (coppicelaw9_CutBranchesAlways.l0 k x0 x1 x5 ([] : List (List Int)) false 0)
def coppicelaw9_CutBranchesAlways.l0 : Nat → List (List Int) → List Int → Bool → List (List Int) → Bool → Int → Option (Bool)
  | 0, _, _, _, _, _, _ => none
  | k + 1, x0, x1, x5, x7, x8, x9 => if x9 < (x0.length : Int) then (if 0 ≤ x9 then ((coppiceref3_Valid.f (rd_L1 x0 x9)).bind fun t372 => (if t372 = true then (if x9 > 0 then (if 0 ≤ (wrap64 (x9 - 1)) then (if (wrap64 (x9 - 1)) < (x0.length : Int) then ((coppiceref3_Compare.f k (rd_L1 x0 (wrap64 (x9 - 1))) (rd_L1 x0 x9)).bind fun t375 => (if t375 ≥ 0 then (coppicelaw9_CutBranchesAlways.j2 k x0 x1 x5 x7 x8 x9 true) else ((coppiceref3_Compare.f k (rd_L1 x0 x9) x1).bind fun t377 => (coppicelaw9_CutBranchesAlways.j2 k x0 x1 x5 x7 x8 x9 (t377 == 0))))) else (none)) else (none)) else ((coppiceref3_Compare.f k (rd_L1 x0 x9) x1).bind fun t379 => (coppicelaw9_CutBranchesAlways.j2 k x0 x1 x5 x7 x8 x9 (t379 == 0)))) else (coppicelaw9_CutBranchesAlways.j2 k x0 x1 x5 x7 x8 x9 true))) else (none)) else (if x8 = true then (coppicelaw9_CutBranchesAlways.j3 k x5 x7) else (if x7.length < 5864062014805 then (coppicelaw9_CutBranchesAlways.j3 k x5 (x7 ++ [x1])) else (none)))
def coppicelaw9_CutBranchesAlways.j2 : Nat → List (List Int) → List Int → Bool → List (List Int) → Bool → Int → Bool → Option (Bool)
  | 0, _, _, _, _, _, _, _ => none
  | k + 1, x0, x1, x5, x7, x8, x9, x69 => if x69 = true then (some x5) else (if x8 = true then (if 0 ≤ x9 then (if x9 < (x0.length : Int) then (if x7.length < 5864062014805 then (coppicelaw9_CutBranchesAlways.l0 k x0 x1 x5 (x7 ++ [rd_L1 x0 x9]) x8 (wrap64 (x9 + 1))) else (none)) else (none)) else (none)) else (if 0 ≤ x9 then (if x9 < (x0.length : Int) then ((coppiceref3_Compare.f k x1 (rd_L1 x0 x9)).bind fun t385 => (if t385 < 0 then (if x7.length < 5864062014805 then ((some (x7 ++ [x1] : List (List Int))).bind fun y386 => (if y386.length < 5864062014805 then (coppicelaw9_CutBranchesAlways.l0 k x0 x1 x5 (y386 ++ [rd_L1 x0 x9]) true (wrap64 (x9 + 1))) else (none))) else (none)) else (if x7.length < 5864062014805 then (coppicelaw9_CutBranchesAlways.l0 k x0 x1 x5 (x7 ++ [rd_L1 x0 x9]) x8 (wrap64 (x9 + 1))) else (none)))) else (none)) else (none)))
def coppicelaw9_CutBranchesAlways.j3 : Nat → Bool → List (List Int) → Option (Bool)
  | 0, _, _ => none
  | k + 1, x5, x7 => (branch_Size.f k x7).bind fun t400 => ((cut_Branch.f k x7).bind fun t401 => (if x5 = true then ((coppiceref5_Size.f k x7).bind fun t402 => (coppicelaw9_CutBranchesAlways.j4 k x7 t400 t401 (t400 != t402))) else (coppicelaw9_CutBranchesAlways.j4 k x7 t400 t401 true)))
def coppicelaw9_CutBranchesAlways.j4 : Nat → List (List Int) → Int → Int → Bool → Option (Bool)
  | 0, _, _, _, _ => none
  | k + 1, x7, x10, x11, x110 => if x110 = true then (some false) else (if x10 ≤ 4092 then (some true) else (if x11 < 2 then (coppicelaw9_CutBranchesAlways.j5 k x7 x11 true) else (coppicelaw9_CutBranchesAlways.j5 k x7 x11 (decide (x11 ≥ (x7.length : Int))))))
def coppicelaw9_CutBranchesAlways.j5 : Nat → List (List Int) → Int → Bool → Option (Bool)
  | 0, _, _, _ => none
  | k + 1, x7, x11, x120 => if x120 = true then (some false) else (if 0 ≤ (wrap64 (x11 - 1)) then (if (wrap64 (x11 - 1)) ≤ (x7.length : Int) then ((branch_Size.f k (x7.take ((wrap64 (x11 - 1)) : Int).toNat)).bind fun t408 => (if 0 ≤ x11 then (if x11 ≤ (x7.length : Int) then ((branch_Size.f k (x7.drop (x11 : Int).toNat)).bind fun t414 => (if (wrap64 (x11 - 1)) < (x7.length : Int) then ((cut_JoinBranches.f k (x7.take ((wrap64 (x11 - 1)) : Int).toNat) (rd_L1 x7 (wrap64 (x11 - 1))) (x7.drop (x11 : Int).toNat)).bind fun t426 => (if t408 ≤ 4092 then (if t414 ≤ 4092 then (some (!t426)) else (some false)) else (some false))) else (none))) else (none)) else (none))) else (none)) else (none))
end
def coppicelaw9_CutBranchesAlways.f (k : Nat) (l0 : List (List Int)) (l1 : List Int) : Option (Bool) := (coppicelaw9_first.f).bind fun t368 => ((coppiceref3_Valid.f l1).bind fun t369 => (if (l0.length : Int) > 400 then (coppicelaw9_CutBranchesAlways.j0 k l0 l1 t368 true) else (if t369 = true then ((coppiceref5_Size.f k l0).bind fun t370 => (coppicelaw9_CutBranchesAlways.j0 k l0 l1 t368 (decide (t370 > 4092)))) else (coppicelaw9_CutBranchesAlways.j0 k l0 l1 t368 true))))
theorem coppicelaw9_CutBranchesAlways.mono_l : ∀ k, (∀ y0 y1 y2 y3, LeO (coppicelaw9_CutBranchesAlways.j0 k y0 y1 y2 y3) (coppicelaw9_CutBranchesAlways.j0 (k + 1) y0 y1 y2 y3)) ∧ (∀ y0 y1 y2 y3 y4 y5, LeO (coppicelaw9_CutBranchesAlways.l0 k y0 y1 y2 y3 y4 y5) (coppicelaw9_CutBranchesAlways.l0 (k + 1) y0 y1 y2 y3 y4 y5)) ∧ (∀ y0 y1 y2 y3 y4 y5 y6, LeO (coppicelaw9_CutBranchesAlways.j2 k y0 y1 y2 y3 y4 y5 y6) (coppicelaw9_CutBranchesAlways.j2 (k + 1) y0 y1 y2 y3 y4 y5 y6)) ∧ (∀ y0 y1, LeO (coppicelaw9_CutBranchesAlways.j3 k y0 y1) (coppicelaw9_CutBranchesAlways.j3 (k + 1) y0 y1)) ∧ (∀ y0 y1 y2 y3, LeO (coppicelaw9_CutBranchesAlways.j4 k y0 y1 y2 y3) (coppicelaw9_CutBranchesAlways.j4 (k + 1) y0 y1 y2 y3)) ∧ (∀ y0 y1 y2, LeO (coppicelaw9_CutBranchesAlways.j5 k y0 y1 y2) (coppicelaw9_CutBranchesAlways.j5 (k + 1) y0 y1 y2))
  | 0 => ⟨fun _ _ _ _ r h => by simp [coppicelaw9_CutBranchesAlways.j0] at h, fun _ _ _ _ _ _ r h => by simp [coppicelaw9_CutBranchesAlways.l0] at h, fun _ _ _ _ _ _ _ r h => by simp [coppicelaw9_CutBranchesAlways.j2] at h, fun _ _ r h => by simp [coppicelaw9_CutBranchesAlways.j3] at h, fun _ _ _ _ r h => by simp [coppicelaw9_CutBranchesAlways.j4] at h, fun _ _ _ r h => by simp [coppicelaw9_CutBranchesAlways.j5] at h⟩
  | k + 1 => by
    obtain ⟨ih0, ih1, ih2, ih3, ih4, ih5⟩ := coppicelaw9_CutBranchesAlways.mono_l k
    refine ⟨?_, ?_, ?_, ?_, ?_, ?_⟩
    · intro y0 y1 y2 y3
      unfold coppicelaw9_CutBranchesAlways.j0
      repeat' first
      | (with_reducible exact ih0 _ _ _ _)
      | (with_reducible exact ih1 _ _ _ _ _ _)
      | (with_reducible exact ih2 _ _ _ _ _ _ _)
      | (with_reducible exact ih3 _ _)
      | (with_reducible exact ih4 _ _ _ _)
      | (with_reducible exact ih5 _ _ _)
      | (with_reducible exact branch_Size.mono _ _)
      | (with_reducible exact coppiceref3_Compare.mono _ _ _)
      | (with_reducible exact coppiceref5_Size.mono _ _)
      | (with_reducible exact cut_Branch.mono _ _)
      | (with_reducible exact cut_JoinBranches.mono _ _ _ _)
      | (with_reducible exact LeO.refl _)
      | (with_reducible exact LeO.none _)
      | (with_reducible refine LeO.ite ?_ ?_)
      | (with_reducible refine LeO.bind ?_ (fun _ => ?_))
      | exact ih0 _ _ _ _
      | exact ih1 _ _ _ _ _ _
      | exact ih2 _ _ _ _ _ _ _
      | exact ih3 _ _
      | exact ih4 _ _ _ _
      | exact ih5 _ _ _
      | exact branch_Size.mono _ _
      | exact coppiceref3_Compare.mono _ _ _
      | exact coppiceref5_Size.mono _ _
      | exact cut_Branch.mono _ _
      | exact cut_JoinBranches.mono _ _ _ _
      | exact LeO.none _
      | refine LeO.ite ?_ ?_
      | refine LeO.bind ?_ (fun _ => ?_)
    · intro y0 y1 y2 y3 y4 y5
      unfold coppicelaw9_CutBranchesAlways.l0
      repeat' first
      | (with_reducible exact ih0 _ _ _ _)
      | (with_reducible exact ih1 _ _ _ _ _ _)
      | (with_reducible exact ih2 _ _ _ _ _ _ _)
      | (with_reducible exact ih3 _ _)
      | (with_reducible exact ih4 _ _ _ _)
      | (with_reducible exact ih5 _ _ _)
      | (with_reducible exact branch_Size.mono _ _)
      | (with_reducible exact coppiceref3_Compare.mono _ _ _)
      | (with_reducible exact coppiceref5_Size.mono _ _)
      | (with_reducible exact cut_Branch.mono _ _)
      | (with_reducible exact cut_JoinBranches.mono _ _ _ _)
      | (with_reducible exact LeO.refl _)
      | (with_reducible exact LeO.none _)
      | (with_reducible refine LeO.ite ?_ ?_)
      | (with_reducible refine LeO.bind ?_ (fun _ => ?_))
      | exact ih0 _ _ _ _
      | exact ih1 _ _ _ _ _ _
      | exact ih2 _ _ _ _ _ _ _
      | exact ih3 _ _
      | exact ih4 _ _ _ _
      | exact ih5 _ _ _
      | exact branch_Size.mono _ _
      | exact coppiceref3_Compare.mono _ _ _
      | exact coppiceref5_Size.mono _ _
      | exact cut_Branch.mono _ _
      | exact cut_JoinBranches.mono _ _ _ _
      | exact LeO.none _
      | refine LeO.ite ?_ ?_
      | refine LeO.bind ?_ (fun _ => ?_)
    · intro y0 y1 y2 y3 y4 y5 y6
      unfold coppicelaw9_CutBranchesAlways.j2
      repeat' first
      | (with_reducible exact ih0 _ _ _ _)
      | (with_reducible exact ih1 _ _ _ _ _ _)
      | (with_reducible exact ih2 _ _ _ _ _ _ _)
      | (with_reducible exact ih3 _ _)
      | (with_reducible exact ih4 _ _ _ _)
      | (with_reducible exact ih5 _ _ _)
      | (with_reducible exact branch_Size.mono _ _)
      | (with_reducible exact coppiceref3_Compare.mono _ _ _)
      | (with_reducible exact coppiceref5_Size.mono _ _)
      | (with_reducible exact cut_Branch.mono _ _)
      | (with_reducible exact cut_JoinBranches.mono _ _ _ _)
      | (with_reducible exact LeO.refl _)
      | (with_reducible exact LeO.none _)
      | (with_reducible refine LeO.ite ?_ ?_)
      | (with_reducible refine LeO.bind ?_ (fun _ => ?_))
      | exact ih0 _ _ _ _
      | exact ih1 _ _ _ _ _ _
      | exact ih2 _ _ _ _ _ _ _
      | exact ih3 _ _
      | exact ih4 _ _ _ _
      | exact ih5 _ _ _
      | exact branch_Size.mono _ _
      | exact coppiceref3_Compare.mono _ _ _
      | exact coppiceref5_Size.mono _ _
      | exact cut_Branch.mono _ _
      | exact cut_JoinBranches.mono _ _ _ _
      | exact LeO.none _
      | refine LeO.ite ?_ ?_
      | refine LeO.bind ?_ (fun _ => ?_)
    · intro y0 y1
      unfold coppicelaw9_CutBranchesAlways.j3
      repeat' first
      | (with_reducible exact ih0 _ _ _ _)
      | (with_reducible exact ih1 _ _ _ _ _ _)
      | (with_reducible exact ih2 _ _ _ _ _ _ _)
      | (with_reducible exact ih3 _ _)
      | (with_reducible exact ih4 _ _ _ _)
      | (with_reducible exact ih5 _ _ _)
      | (with_reducible exact branch_Size.mono _ _)
      | (with_reducible exact coppiceref3_Compare.mono _ _ _)
      | (with_reducible exact coppiceref5_Size.mono _ _)
      | (with_reducible exact cut_Branch.mono _ _)
      | (with_reducible exact cut_JoinBranches.mono _ _ _ _)
      | (with_reducible exact LeO.refl _)
      | (with_reducible exact LeO.none _)
      | (with_reducible refine LeO.ite ?_ ?_)
      | (with_reducible refine LeO.bind ?_ (fun _ => ?_))
      | exact ih0 _ _ _ _
      | exact ih1 _ _ _ _ _ _
      | exact ih2 _ _ _ _ _ _ _
      | exact ih3 _ _
      | exact ih4 _ _ _ _
      | exact ih5 _ _ _
      | exact branch_Size.mono _ _
      | exact coppiceref3_Compare.mono _ _ _
      | exact coppiceref5_Size.mono _ _
      | exact cut_Branch.mono _ _
      | exact cut_JoinBranches.mono _ _ _ _
      | exact LeO.none _
      | refine LeO.ite ?_ ?_
      | refine LeO.bind ?_ (fun _ => ?_)
    · intro y0 y1 y2 y3
      unfold coppicelaw9_CutBranchesAlways.j4
      repeat' first
      | (with_reducible exact ih0 _ _ _ _)
      | (with_reducible exact ih1 _ _ _ _ _ _)
      | (with_reducible exact ih2 _ _ _ _ _ _ _)
      | (with_reducible exact ih3 _ _)
      | (with_reducible exact ih4 _ _ _ _)
      | (with_reducible exact ih5 _ _ _)
      | (with_reducible exact branch_Size.mono _ _)
      | (with_reducible exact coppiceref3_Compare.mono _ _ _)
      | (with_reducible exact coppiceref5_Size.mono _ _)
      | (with_reducible exact cut_Branch.mono _ _)
      | (with_reducible exact cut_JoinBranches.mono _ _ _ _)
      | (with_reducible exact LeO.refl _)
      | (with_reducible exact LeO.none _)
      | (with_reducible refine LeO.ite ?_ ?_)
      | (with_reducible refine LeO.bind ?_ (fun _ => ?_))
      | exact ih0 _ _ _ _
      | exact ih1 _ _ _ _ _ _
      | exact ih2 _ _ _ _ _ _ _
      | exact ih3 _ _
      | exact ih4 _ _ _ _
      | exact ih5 _ _ _
      | exact branch_Size.mono _ _
      | exact coppiceref3_Compare.mono _ _ _
      | exact coppiceref5_Size.mono _ _
      | exact cut_Branch.mono _ _
      | exact cut_JoinBranches.mono _ _ _ _
      | exact LeO.none _
      | refine LeO.ite ?_ ?_
      | refine LeO.bind ?_ (fun _ => ?_)
    · intro y0 y1 y2
      unfold coppicelaw9_CutBranchesAlways.j5
      repeat' first
      | (with_reducible exact ih0 _ _ _ _)
      | (with_reducible exact ih1 _ _ _ _ _ _)
      | (with_reducible exact ih2 _ _ _ _ _ _ _)
      | (with_reducible exact ih3 _ _)
      | (with_reducible exact ih4 _ _ _ _)
      | (with_reducible exact ih5 _ _ _)
      | (with_reducible exact branch_Size.mono _ _)
      | (with_reducible exact coppiceref3_Compare.mono _ _ _)
      | (with_reducible exact coppiceref5_Size.mono _ _)
      | (with_reducible exact cut_Branch.mono _ _)
      | (with_reducible exact cut_JoinBranches.mono _ _ _ _)
      | (with_reducible exact LeO.refl _)
      | (with_reducible exact LeO.none _)
      | (with_reducible refine LeO.ite ?_ ?_)
      | (with_reducible refine LeO.bind ?_ (fun _ => ?_))
      | exact ih0 _ _ _ _
      | exact ih1 _ _ _ _ _ _
      | exact ih2 _ _ _ _ _ _ _
      | exact ih3 _ _
      | exact ih4 _ _ _ _
      | exact ih5 _ _ _
      | exact branch_Size.mono _ _
      | exact coppiceref3_Compare.mono _ _ _
      | exact coppiceref5_Size.mono _ _
      | exact cut_Branch.mono _ _
      | exact cut_JoinBranches.mono _ _ _ _
      | exact LeO.none _
      | refine LeO.ite ?_ ?_
      | refine LeO.bind ?_ (fun _ => ?_)
theorem coppicelaw9_CutBranchesAlways.mono : ∀ a0 a1 k, LeO (coppicelaw9_CutBranchesAlways.f k a0 a1) (coppicelaw9_CutBranchesAlways.f (k + 1) a0 a1) := by
  intro a0 a1 k
  obtain ⟨ih0, ih1, ih2, ih3, ih4, ih5⟩ := coppicelaw9_CutBranchesAlways.mono_l k
  unfold coppicelaw9_CutBranchesAlways.f
  repeat' first
      | (with_reducible exact ih0 _ _ _ _)
      | (with_reducible exact ih1 _ _ _ _ _ _)
      | (with_reducible exact ih2 _ _ _ _ _ _ _)
      | (with_reducible exact ih3 _ _)
      | (with_reducible exact ih4 _ _ _ _)
      | (with_reducible exact ih5 _ _ _)
      | (with_reducible exact branch_Size.mono _ _)
      | (with_reducible exact coppiceref3_Compare.mono _ _ _)
      | (with_reducible exact coppiceref5_Size.mono _ _)
      | (with_reducible exact cut_Branch.mono _ _)
      | (with_reducible exact cut_JoinBranches.mono _ _ _ _)
      | (with_reducible exact LeO.refl _)
      | (with_reducible exact LeO.none _)
      | (with_reducible refine LeO.ite ?_ ?_)
      | (with_reducible refine LeO.bind ?_ (fun _ => ?_))
      | exact ih0 _ _ _ _
      | exact ih1 _ _ _ _ _ _
      | exact ih2 _ _ _ _ _ _ _
      | exact ih3 _ _
      | exact ih4 _ _ _ _
      | exact ih5 _ _ _
      | exact branch_Size.mono _ _
      | exact coppiceref3_Compare.mono _ _ _
      | exact coppiceref5_Size.mono _ _
      | exact cut_Branch.mono _ _
      | exact cut_JoinBranches.mono _ _ _ _
      | exact LeO.none _
      | refine LeO.ite ?_ ?_
      | refine LeO.bind ?_ (fun _ => ?_)
def coppicelaw9_CutBranchesAlways.T11 : Bool × List (List Nat × List Nat) := (true, [([], []), ([0], [0]), ([1], [1]), ([2], [2]), ([3, 2], [2, 3]), ([4, 2, 2], [2, 4]), ([5], [5]), ([5], [5]), ([7, 5], [5, 7]), ([6, 8, 5], [5, 6, 8]), ([9, 5], [5, 9]), ([5], [5]), ([5], [5]), ([11, 12, 5], [5, 11, 12]), ([13, 5], [5, 13]), ([10, 14, 5, 5], [5, 10, 14]), ([15, 5], [5, 15]), ([5, 16, 2], [2, 5, 16]), ([2, 17], [2, 17]), ([18, 15], [18]), ([19], [19]), ([19], [19]), ([20, 21, 19], [19, 20, 21]), ([22, 19], [19, 22]), ([19], [19]), ([23, 24, 19, 19], [19, 23, 24]), ([25, 19], [19, 25]), ([19, 26], [19, 26])])
def coppicelaw9_CutBranchesAlways.B11 : List Nat := [0, 1, 3, 7, 15, 31, 63, 63, 191, 511, 1023, 63, 63, 6207, 14399, 32767, 65535, 131071, 262143, 524287, 1048575, 1048575, 4194303, 8388607, 1048575, 33554431, 67108863, 134217727]
theorem coppicelaw9_CutBranchesAlways.tab11 : rtab .any (opsOf Try.f9 11) = coppicelaw9_CutBranchesAlways.T11 := by kernel_rfl
theorem coppicelaw9_CutBranchesAlways.bits11 : waitsOk coppicelaw9_CutBranchesAlways.T11.2 coppicelaw9_CutBranchesAlways.B11 = true := by kernel_rfl
def coppicelaw9_CutBranchesAlways.T29 : Bool × List (List Nat × List Nat) := (true, [([], []), ([], []), ([1], [1]), ([0, 2], [0, 2]), ([], []), ([], []), ([5], [5]), ([4, 6], [4, 6]), ([7], [7]), ([], []), ([], []), ([9, 10], [9, 10]), ([3, 8, 11], [3, 8, 11]), ([12, 12, 0, 1, 2, 3, 4, 5, 6, 7, 8, 9, 10, 11, 12], [12])])
def coppicelaw9_CutBranchesAlways.B29 : List Nat := [0, 0, 2, 7, 0, 0, 32, 112, 240, 0, 0, 1536, 4095, 8191]
theorem coppicelaw9_CutBranchesAlways.tab29 : rtab .any (opsOf Try.f9 29) = coppicelaw9_CutBranchesAlways.T29 := by kernel_rfl
theorem coppicelaw9_CutBranchesAlways.bits29 : waitsOk coppicelaw9_CutBranchesAlways.T29.2 coppicelaw9_CutBranchesAlways.B29 = true := by kernel_rfl

end Go.Proofs.Yteaiefkadmlabaa.P
