/- Parts of a proof, laid together by a program of this session (slim.py). -/
import Derived.Test.YtppjphghlclklaaGreatDoorY7
import Derived.Test.YtppjphghlclklaaGreatDoorY8
set_option maxHeartbeats 8000000
set_option maxRecDepth 100000
section
namespace Go.Proofs.YtppjphghlclklaaGreatDoor.P
open Go.RowKit Go.Proofs.YtppjphghlclklaaGreatDoorW.PrintWords Go.Proofs.YtppjphghlclklaaGreatDoorW.PrintLast Go.Proofs.YtppjphghlclklaaGreatDoorW.PrintMore
attribute [local go_sem] max2_int min2_int max_two min_two max_three min_three max_four min_four
set_option linter.unusedVariables false
set_option linter.unusedSimpArgs false
def it1 (x : It) : Bool := decide (1 ≤ x.f0.length ∧ x.f0.length ≤ 255 ∧ 0 ≤ x.f2 ∧ x.f2 ≤ 262144)
def it2 (x : It) : Bool := if x.f2 > 512 then decide (x.f1.length = 0 ∧ 2 ≤ x.f3 ∧ x.f3 < 524287) else decide ((x.f1.length : Int) = x.f2 ∧ x.f3 = 0)
def cmpI (a b : List Int) : Int := Lib.compareBytes (strOfNums a).data.toList (strOfNums b).data.toList
theorem compare_f (a b : List Int) : keys_Compare.f a b = some (cmpI a b) := rfl
def ordB : List (List Int) → Bool
 | [] => true
 | [_] => true
 | a :: b :: l => decide (cmpI a b < 0) && ordB (b :: l)
def mayR (l : List It) : Int := if l.length = 0 then 40 else if l.all it1 = true then (if l.all it2 = true then (if ordB (l.map (·.f0)) = true then 0 else 30) else 40) else 41
theorem may_ord (l : List It) (hs : l.length ≤ 70000) (d : Nat) : ∀ (i : Nat) (hi : i < l.length), i + 1 + d = l.length → Ev (fun k => leaf_may.l2 k l ((i + 1 : Nat) : Int)) (if ordB ((l.drop i).map (·.f0)) = true then 0 else 30) := by
 induction d with
 | zero =>
  intro i hi hd
  refine Ev.step (f := fun _ => some (if ordB ((l.drop i).map (·.f0)) = true then 0 else 30)) (fun k => ?_) (Ev.now _)
  simp only [leaf_may.l2]
  rw [if_neg (by omega), List.drop_eq_getElem_cons hi, List.drop_eq_nil_of_le (by omega)]
  simp [ordB]
 | succ d ih =>
  intro i hi hd
  have h1 : i + 1 < l.length := by omega
  have hw : wrap64 (((i + 1 : Nat) : Int) - 1) = (i : Int) := by unfold wrap64; omega
  have hw2 : wrap64 (((i + 1 : Nat) : Int) + 1) = ((i + 1 + 1 : Nat) : Int) := by unfold wrap64; omega
  have hd2 : (l.drop i).map (·.f0) = l[i].f0 :: l[i + 1].f0 :: (l.drop (i + 1 + 1)).map (·.f0) := by
   rw [List.drop_eq_getElem_cons hi, List.drop_eq_getElem_cons h1]; rfl
  have hd3 : (l.drop (i + 1)).map (·.f0) = l[i + 1].f0 :: (l.drop (i + 1 + 1)).map (·.f0) := by
   rw [List.drop_eq_getElem_cons h1]; rfl
  have hi2 := ih (i + 1) h1 (by omega)
  rw [hd3] at hi2
  by_cases c : cmpI l[i].f0 l[i + 1].f0 < 0
  · refine Ev.step (f := fun k => leaf_may.l2 k l ((i + 1 + 1 : Nat) : Int)) (fun k => ?_) ?_
    · simp only [leaf_may.l2]
      rw [if_pos (by omega), hw, if_pos (by omega), if_pos (by omega), if_pos (by omega), rd_item l i hi, rd_item l (i + 1) h1, compare_f]
      simp only [Option.bind_some]
      rw [if_neg (by omega), hw2]
    · rw [hd2, ordB, show decide (cmpI l[i].f0 l[i + 1].f0 < 0) = true from decide_eq_true c, Bool.true_and]
      exact hi2
  · refine Ev.step (f := fun _ => some 30) (fun k => ?_) ?_
    · simp only [leaf_may.l2]
      rw [if_pos (by omega), hw, if_pos (by omega), if_pos (by omega), if_pos (by omega), rd_item l i hi, rd_item l (i + 1) h1, compare_f]
      simp only [Option.bind_some]
      rw [if_pos (by omega)]
    · rw [hd2, ordB, show decide (cmpI l[i].f0 l[i + 1].f0 < 0) = false from decide_eq_false c, Bool.false_and]
      exact Ev.now _
theorem may_it2 (l : List It) (hs : l.length ≤ 70000) (hp : 0 < l.length) (d : Nat) : ∀ (i : Nat), i + d = l.length →
 Ev (fun k => leaf_may.l1 k l l l.length i) (if (l.drop i).all it2 = true then (if ordB (l.map (·.f0)) = true then 0 else 30) else 40) := by
 induction d with
 | zero =>
  intro i hi
  refine Ev.step (f := fun k => leaf_may.l2 k l ((0 + 1 : Nat) : Int)) (fun k => ?_) ?_
  · simp only [leaf_may.l1]
    rw [if_neg (by omega)]
    rfl
  · rw [List.drop_eq_nil_of_le (by omega)]
    have h := may_ord l hs (l.length - 1) 0 hp (by omega)
    simpa using h
 | succ d ih =>
  intro i hi
  have hlt : i < l.length := by omega
  have hih := ih (i + 1) (by omega)
  have hw : wrap64 ((i : Int) + 1) = ((i + 1 : Nat) : Int) := by unfold wrap64; omega
  obtain ⟨x, hx⟩ : ∃ x, x = l[i] := ⟨_, rfl⟩
  rw [List.drop_eq_getElem_cons hlt, ← hx, List.all_cons]
  obtain ⟨x7, h7⟩ : ∃ b : Bool, b = (if (x.f1.length : Int) = x.f2 then (x.f3 == 0) else false) := ⟨_, rfl⟩
  obtain ⟨x8, h8⟩ : ∃ b : Bool, b = (if (x.f1.length : Int) = 0 then (if x.f3 ≥ 2 then decide (x.f3 < 524287) else false) else false) := ⟨_, rfl⟩
  have hit : it2 x = if x.f2 > 512 then x8 else x7 := by
   unfold it2
   rw [h7, h8]
   by_cases c : x.f2 > 512
   · rw [if_pos c, if_pos c]
     by_cases c1 : (x.f1.length : Int) = 0
     · rw [if_pos c1]
       by_cases c2 : x.f3 ≥ 2
       · rw [if_pos c2]
         simp only [decide_eq_decide]
         omega
       · rw [if_neg c2]
         exact decide_eq_false (by omega)
     · rw [if_neg c1]
       exact decide_eq_false (by omega)
   · rw [if_neg c, if_neg c]
     by_cases c1 : (x.f1.length : Int) = x.f2
     · rw [if_pos c1]
       by_cases c2 : x.f3 = 0
       · rw [c2]
         exact decide_eq_true ⟨c1, rfl⟩
       · rw [show (x.f3 == 0) = false from beq_eq_false_iff_ne.mpr c2]
         exact decide_eq_false (by omega)
     · rw [if_neg c1]
       exact decide_eq_false (by omega)
  refine Ev.step (f := fun k => leaf_may.j2 k l x7 l l.length i x.f0 x.f1 x.f2 x.f3) (fun k => ?_) ?_
  · simp only [leaf_may.l1]
    rw [if_pos (by omega), if_pos (by omega), if_pos (by omega), rd_item l i hlt, ← hx, h7]
    by_cases c1 : (x.f1.length : Int) = x.f2
    · rw [if_pos c1, if_pos c1]
    · rw [if_neg c1, if_neg c1]
  refine Ev.step (f := fun k => leaf_may.j3 k l x7 x8 l l.length i x.f0 x.f1 x.f2 x.f3) (fun k => ?_) ?_
  · simp only [leaf_may.j2]
    rw [h8]
    by_cases c1 : (x.f1.length : Int) = 0
    · rw [if_pos c1, if_pos c1]
      by_cases c2 : x.f3 ≥ 2
      · rw [if_pos c2, if_pos c2]
      · rw [if_neg c2, if_neg c2]
    · rw [if_neg c1, if_neg c1]
  by_cases c : it2 x = true
  · rw [c, Bool.true_and]
    refine Ev.step (f := fun k => leaf_may.l1 k l l l.length ((i + 1 : Nat) : Int)) (fun k => ?_) hih
    simp only [leaf_may.j3, leaf_chained.f, Option.bind_some]
    rw [hit] at c
    by_cases c1 : x.f2 > 512
    · rw [if_pos c1] at c
      rw [if_pos (decide_eq_true c1), if_pos c, hw]
    · rw [if_neg c1] at c
      rw [if_neg (by simpa using c1), if_pos c, hw]
  · rw [Bool.eq_false_iff.mpr c, Bool.false_and]
    refine Ev.step (f := fun _ => some 40) (fun k => ?_) (Ev.now _)
    simp only [leaf_may.j3, leaf_chained.f, Option.bind_some]
    rw [hit] at c
    by_cases c1 : x.f2 > 512
    · rw [if_pos c1] at c
      rw [if_pos (decide_eq_true c1), if_neg c]
    · rw [if_neg c1] at c
      rw [if_neg (by simpa using c1), if_neg c]
theorem valid_f (a : List Int) : keys_Valid.f a = some (decide (1 ≤ a.length ∧ a.length ≤ 255)) := by
 unfold keys_Valid.f
 by_cases c : (a.length : Int) ≥ 1
 · rw [if_pos c]
   simp only [Option.some.injEq, decide_eq_decide]
   omega
 · rw [if_neg c]
   simp only [Option.some.injEq, Bool.false_eq, decide_eq_false_iff_not]
   omega
theorem may_it1 (l : List It) (hs : l.length ≤ 70000) (hp : 0 < l.length) (d : Nat) : ∀ (i : Nat), i + d = l.length →
 Ev (fun k => leaf_may.l0 k l l l.length i) (if (l.drop i).all it1 = true then (if l.all it2 = true then (if ordB (l.map (·.f0)) = true then 0 else 30) else 40) else 41) := by
 induction d with
 | zero =>
  intro i hi
  refine Ev.step (f := fun k => leaf_may.l1 k l l l.length ((0 : Nat) : Int)) (fun k => ?_) ?_
  · simp only [leaf_may.l0]
    rw [if_neg (by omega)]
    rfl
  · rw [List.drop_eq_nil_of_le (by omega)]
    have h := may_it2 l hs hp l.length 0 (by omega)
    simpa using h
 | succ d ih =>
  intro i hi
  have hlt : i < l.length := by omega
  have hih := ih (i + 1) (by omega)
  have hw : wrap64 ((i : Int) + 1) = ((i + 1 : Nat) : Int) := by unfold wrap64; omega
  obtain ⟨x, hx⟩ : ∃ x, x = l[i] := ⟨_, rfl⟩
  rw [List.drop_eq_getElem_cons hlt, ← hx, List.all_cons]
  by_cases c : it1 x = true
  · rw [c, Bool.true_and]
    refine Ev.step (f := fun k => leaf_may.l0 k l l l.length ((i + 1 : Nat) : Int)) (fun k => ?_) hih
    have hc := of_decide_eq_true c
    simp only [leaf_may.l0]
    rw [if_pos (by omega), if_pos (by omega), if_pos (by omega), rd_item l i hlt, ← hx, valid_f]
    simp only [Option.bind_some]
    rw [if_pos (decide_eq_true ⟨hc.1, hc.2.1⟩), if_neg (by omega), if_neg (by omega), hw]
  · rw [Bool.eq_false_iff.mpr c, Bool.false_and]
    refine Ev.step (f := fun _ => some 41) (fun k => ?_) (Ev.now _)
    have hc : ¬ (1 ≤ x.f0.length ∧ x.f0.length ≤ 255 ∧ 0 ≤ x.f2 ∧ x.f2 ≤ 262144) := fun h => c (decide_eq_true h)
    simp only [leaf_may.l0]
    rw [if_pos (by omega), if_pos (by omega), if_pos (by omega), rd_item l i hlt, ← hx, valid_f]
    simp only [Option.bind_some]
    by_cases c1 : 1 ≤ x.f0.length ∧ x.f0.length ≤ 255
    · rw [if_pos (decide_eq_true c1)]
      by_cases c2 : x.f2 < 0
      · rw [if_pos c2]
      · rw [if_neg c2, if_pos (by omega)]
    · rw [if_neg (by simpa using c1)]
theorem may_f (l : List It) (hs : l.length ≤ 70000) : Ev (fun k => leaf_may.f k l) (mayR l) := by
 unfold mayR
 by_cases c : l.length = 0
 · rw [if_pos c]
   refine ⟨0, fun k _ => ?_⟩
   show leaf_may.f k l = _
   unfold leaf_may.f
   rw [if_pos (by omega)]
 · rw [if_neg c]
   obtain ⟨K, h⟩ := may_it1 l hs (by omega) l.length 0 (by omega)
   refine ⟨K, fun k hk => ?_⟩
   have h1 := h k hk
   show leaf_may.f k l = _
   unfold leaf_may.f
   rw [if_neg (by omega)]
   exact h1
end Go.Proofs.YtppjphghlclklaaGreatDoor.P
end
