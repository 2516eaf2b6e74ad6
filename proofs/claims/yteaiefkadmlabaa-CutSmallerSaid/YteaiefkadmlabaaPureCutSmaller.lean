import Derived.Test.YteaiefkadmlabaaM5
import Derived.Test.YteaiefkadmlabaaP14
/-! What is left of a list is smaller, and joined where the whole is. -/
namespace Go.Proofs.Yteaiefkadmlabaa.Pure
open Go.RowKit Go.Proofs.YteaiefkadmlabaaW.PrintWords Go.Proofs.YteaiefkadmlabaaW.PrintMore Go.Proofs.Yteaiefkadmlabaa.P
/-- What of a list stays, from a place on. -/
def keep {α : Type} (out : List Bool) : Nat → List α → List α
  | _, [] => []
  | i, x :: xs => if out.getD i false = true then keep out (i + 1) xs else x :: keep out (i + 1) xs
theorem keep_sub {α : Type} (out : List Bool) (l : List α) : ∀ i, (keep out i l).Sublist l := by
  induction l with
  | nil => intro i; exact List.Sublist.slnil
  | cons x xs ih =>
    intro i
    simp only [keep]
    split
    · exact (ih (i + 1)).cons x
    · exact (ih (i + 1)).cons_cons x
theorem rdb (out : List Bool) (i : Nat) : rdOf false out (i : Int) = out.getD i false := by simp [rdOf]
theorem last_part (l m : List It) (hs : Small l) (hm : m.Sublist l) (hl : l.length ≤ 400) : Ev (fun k => coppicelaw9_CutSmaller.j3 k l m false) true := by
  have hml := hm.length_le
  have hsm : Small m := ⟨by omega, fun x hx => hs.2 x (hm.subset hx)⟩
  have h1 := joinL_f l [] (by rwa [List.append_nil]) (by omega) (by simp)
  have h2 := joinL_f m [] (by rwa [List.append_nil]) (by omega) (by simp)
  rw [List.append_nil] at h1 h2
  have hle : sizeL m ≤ sizeL l := by
    rcases Nat.lt_or_ge m.length l.length with h | h
    · exact Nat.le_of_lt (sizeL_lt hm h)
    · rw [hm.eq_of_length_le h]
      exact Nat.le_refl _
  refine Ev.step (f := fun k => (cut_JoinLeaves.f k l []).bind fun t => (cut_JoinLeaves.f k m []).bind fun u => if t = true then some u else some true) (fun k => ?_) ?_
  · simp only [coppicelaw9_CutSmaller.j3]
    rfl
  · refine Ev.bind h1 (Ev.bind h2 ?_)
    by_cases h : sizeL l ≤ 3000
    · rw [decide_eq_true h, decide_eq_true (show sizeL m ≤ 3000 by omega)]
      exact Ev.now _
    · rw [decide_eq_false h]
      exact Ev.now _
theorem sizes_part (l m : List It) (s t : List (List Int)) (out : List Bool) (hl : l.length ≤ 400) (ht : s.length ≤ 400) (hs : Small l) (hsb : SmallB s) (hm : m.Sublist l) (hts : t.Sublist s) (acc : List (List Int)) (i : Nat) (hi : s.length ≤ i) (hacc : acc = t) :
    Ev (fun k => coppicelaw9_CutSmaller.l1 k l s out m acc i) true := by
  subst hacc
  have hml := hm.length_le
  have hal := hts.length_le
  have hsm : Small m := ⟨by omega, fun x hx => hs.2 x (hm.subset hx)⟩
  have hst : SmallB acc := ⟨by omega, fun x hx => hsb.2 x (hts.subset hx)⟩
  obtain ⟨K1, h1⟩ := size_f l hs
  obtain ⟨K2, h2⟩ := size_f m hsm
  obtain ⟨K3, h3⟩ := sizeB_f s hsb
  obtain ⟨K4, h4⟩ := sizeB_f acc hst
  obtain ⟨K5, h5⟩ := last_part l m hs hm hl
  refine ⟨K1 + K2 + K3 + K4 + K5 + 1, fun k hk => ?_⟩
  obtain ⟨k, rfl⟩ : ∃ m, k = m + 1 := ⟨k - 1, by omega⟩
  have g1 : leaf_Size.f k l = _ := h1 k (by omega)
  have g2 : leaf_Size.f k m = _ := h2 k (by omega)
  have g3 : branch_Size.f k s = _ := h3 k (by omega)
  have g4 : branch_Size.f k acc = _ := h4 k (by omega)
  have g5 : coppicelaw9_CutSmaller.j3 k l m false = _ := h5 k (by omega)
  simp only [coppicelaw9_CutSmaller.l1]
  rw [if_neg (by omega), g1, g2, g3, g4]
  simp only [Option.bind_some]
  have hB : (acc.length : Int) < (s.length : Int) → decide ((sizeB acc : Int) ≥ (sizeB s : Int)) = false := fun h => by
    have := sizeB_lt hts (by omega)
    rw [decide_eq_false (by omega)]
  by_cases c1 : (m.length : Int) < (l.length : Int)
  · have hlt := sizeL_lt hm (by omega)
    rw [if_pos c1, if_neg (by omega)]
    by_cases c2 : (acc.length : Int) < (s.length : Int)
    · rw [if_pos c2, hB c2]; exact g5
    · rw [if_neg c2]; exact g5
  · rw [if_neg c1]
    by_cases c2 : (acc.length : Int) < (s.length : Int)
    · rw [if_pos c2, hB c2]; exact g5
    · rw [if_neg c2]; exact g5
theorem second_loop (l m : List It) (s : List (List Int)) (out : List Bool) (hl : l.length ≤ 400) (ht : s.length ≤ 400) (hs : Small l) (hsb : SmallB s) (hm : m.Sublist l) (d : Nat) : ∀ (i : Nat) (acc : List (List Int)), i + d = s.length → acc.length ≤ i → (acc ++ keep out i (s.drop i)).Sublist s →
    Ev (fun k => coppicelaw9_CutSmaller.l1 k l s out m acc i) true := by
  induction d with
  | zero =>
    intro i acc hi ha hsub
    rw [List.drop_eq_nil_of_le (by omega)] at hsub
    simp only [keep, List.append_nil] at hsub
    exact sizes_part l m s acc out hl ht hs hsb hm hsub acc i (by omega) rfl
  | succ d ih =>
    intro i acc hi ha hsub
    have hlt : i < s.length := by omega
    rw [List.drop_eq_getElem_cons hlt] at hsub
    simp only [keep] at hsub
    have hcast : wrap64 ((i : Int) + 1) = ((i + 1 : Nat) : Int) := by rw [wrap_id _ (by omega) (by omega)]; rfl
    by_cases hout : out.getD i false = true
    · rw [if_pos hout] at hsub
      have hio : i < out.length := by
        rcases Nat.lt_or_ge i out.length with h | h
        · exact h
        · simp [List.getD_eq_getElem?_getD, List.getElem?_eq_none h] at hout
      refine Ev.step (f := fun k => coppicelaw9_CutSmaller.l1 k l s out m acc ((i + 1 : Nat) : Int)) (fun k => ?_) (ih (i + 1) acc (by omega) (by omega) hsub)
      simp only [coppicelaw9_CutSmaller.l1]
      rw [if_pos (by omega), if_neg (by omega), if_pos (by omega), if_pos (by omega), rdb, if_pos hout, hcast]
    · rw [if_neg hout] at hsub
      refine Ev.step (f := fun k => coppicelaw9_CutSmaller.l1 k l s out m (acc ++ [s[i]]) ((i + 1 : Nat) : Int)) (fun k => ?_) (ih (i + 1) (acc ++ [s[i]]) (by omega) (by simp; omega) (by simpa using hsub))
      simp only [coppicelaw9_CutSmaller.l1]
      rw [if_pos (by omega), rd_list s i hlt, rdb]
      by_cases hio : i < out.length
      · rw [if_neg (by omega), if_pos (by omega), if_pos (by omega), if_neg hout, if_pos (by omega), hcast]
      · rw [if_pos (by omega), if_pos (by omega), if_pos (by omega), hcast]
theorem first_loop (l : List It) (s : List (List Int)) (out : List Bool) (hl : l.length ≤ 400) (ht : s.length ≤ 400) (hs : Small l) (hsb : SmallB s) (d : Nat) : ∀ (i : Nat) (acc : List It), i + d = l.length → acc.length ≤ i → (acc ++ keep out i (l.drop i)).Sublist l →
    Ev (fun k => coppicelaw9_CutSmaller.l0 k l s out acc i) true := by
  induction d with
  | zero =>
    intro i acc hi ha hsub
    rw [List.drop_eq_nil_of_le (by omega)] at hsub
    simp only [keep, List.append_nil] at hsub
    refine Ev.step (f := fun k => coppicelaw9_CutSmaller.l1 k l s out acc [] ((0 : Nat) : Int)) (fun k => ?_) (second_loop l acc s out hl ht hs hsb hsub s.length 0 [] (by omega) (by simp) (by simpa using keep_sub out s 0))
    simp only [coppicelaw9_CutSmaller.l0]
    rw [if_neg (by omega)]
    rfl
  | succ d ih =>
    intro i acc hi ha hsub
    have hlt : i < l.length := by omega
    rw [List.drop_eq_getElem_cons hlt] at hsub
    simp only [keep] at hsub
    have hcast : wrap64 ((i : Int) + 1) = ((i + 1 : Nat) : Int) := by rw [wrap_id _ (by omega) (by omega)]; rfl
    by_cases hout : out.getD i false = true
    · rw [if_pos hout] at hsub
      have hio : i < out.length := by
        rcases Nat.lt_or_ge i out.length with h | h
        · exact h
        · simp [List.getD_eq_getElem?_getD, List.getElem?_eq_none h] at hout
      refine Ev.step (f := fun k => coppicelaw9_CutSmaller.l0 k l s out acc ((i + 1 : Nat) : Int)) (fun k => ?_) (ih (i + 1) acc (by omega) (by omega) hsub)
      simp only [coppicelaw9_CutSmaller.l0]
      rw [if_pos (by omega), if_neg (by omega), if_pos (by omega), if_pos (by omega), rdb, if_pos hout, hcast]
    · rw [if_neg hout] at hsub
      refine Ev.step (f := fun k => coppicelaw9_CutSmaller.l0 k l s out (acc ++ [l[i]]) ((i + 1 : Nat) : Int)) (fun k => ?_) (ih (i + 1) (acc ++ [l[i]]) (by omega) (by simp; omega) (by simpa using hsub))
      simp only [coppicelaw9_CutSmaller.l0]
      rw [if_pos (by omega), rd_item l i hlt, rdb]
      by_cases hio : i < out.length
      · rw [if_neg (by omega), if_pos (by omega), if_pos (by omega), if_neg hout, if_pos (by omega), hcast]
      · rw [if_pos (by omega), if_pos (by omega), if_pos (by omega), hcast]
theorem CutSmaller (l : List It) (s : List (List Int)) (out : List Bool) (hL : Bitems l) (hS : Blists s) (_hO : Bbools out) : ∃ k, coppicelaw9_CutSmaller.f k l s out = some true := by
  have hj : ∀ k, coppicelaw9_CutSmaller.j0 (k + 1) l s out true true = some true := fun k => by simp [coppicelaw9_CutSmaller.j0]
  unfold coppicelaw9_CutSmaller.f coppicelaw9_first.f
  simp only [Option.bind_some, if_true]
  by_cases h1 : (l.length : Int) > 400
  · exact ⟨1, by rw [if_pos h1]; exact hj 0⟩
  by_cases h2 : (s.length : Int) > 400
  · exact ⟨1, by rw [if_neg h1, decide_eq_true h2]; exact hj 0⟩
  obtain ⟨K, h⟩ := first_loop l s out (by omega) (by omega) (hL.small (by omega)) (hS.small (by omega)) l.length 0 [] (by omega) (by simp) (by simpa using keep_sub out l 0)
  refine ⟨K + 1, ?_⟩
  have g : coppicelaw9_CutSmaller.l0 K l s out [] 0 = _ := h K (Nat.le_refl _)
  rw [if_neg h1, decide_eq_false h2]
  simp only [coppicelaw9_CutSmaller.j0]
  rw [if_neg (by simp)]
  exact g
end Go.Proofs.Yteaiefkadmlabaa.Pure
