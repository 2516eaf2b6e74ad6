import Derived.Test.YteaiefkadmlabaaM3
/-! Plain facts on joins. -/
namespace Go.Proofs.Yteaiefkadmlabaa.P
open Go.RowKit Go.Proofs.YteaiefkadmlabaaW.PrintWords Go.Proofs.YteaiefkadmlabaaW.PrintMore
theorem bind_one {α β : Type} (x : α) (f : α → Option β) (r : Option β) (h : f x = r) : (some x).bind f = r := h
/-- Two lists put together, under limits that are no numerals (a numeral near 2^42 here is too much for the kernel). -/
theorem tog_gen {α : Type} (a b : List α) (N M : Nat) (ha : a.length ≤ 1000) (hb : b.length ≤ 1000) (hN : 5000 < N) (hM : 5000 < M) :
    (if 0 ≤ wrap64 ((a.length : Int) + (b.length : Int)) then (if (wrap64 ((a.length : Int) + (b.length : Int)) : Int).toNat ≤ M then ((some (([] : List α) : List α)).bind fun y => (if y.length + a.length < N then ((some (y ++ a : List α)).bind fun z => (if z.length + b.length < N then (some (z ++ b)) else (none))) else (none))) else (none)) else (none)) = some (a ++ b) := by
  have h5 : wrap64 ((a.length : Int) + b.length) = (a.length : Int) + b.length := wrap_id _ (by omega) (by omega)
  rw [h5, if_pos (by omega), if_pos (by omega)]
  refine bind_one _ _ _ ?_
  rw [if_pos (by simp; omega)]
  refine bind_one _ _ _ ?_
  rw [if_pos (by simp; omega)]
  rfl
theorem togL_f (a b : List It) (ha : a.length ≤ 1000) (hb : b.length ≤ 1000) : api_Item_41.f a b = some (a ++ b) := tog_gen a b 2199023255552 4398046511104 ha hb (by omega) (by omega)
theorem togB_f (a b : List (List Int)) (ha : a.length ≤ 1000) (hb : b.length ≤ 1000) : cut_together_byte.f a b = some (a ++ b) := tog_gen a b 5864062014805 11728124029610 ha hb (by omega) (by omega)
theorem tog2_gen {α β : Type} (a b : List α) (N : Nat) (ha : a.length ≤ 1000) (hb : b.length ≤ 1000) (hN : 5000 < N) (f : List α → Option β) :
    (if ([] : List α).length + a.length < N then ((some (([] : List α) ++ a : List α)).bind fun y => (if y.length + b.length < N then f (y ++ b) else (none))) else (none)) = f (a ++ b) := by
  rw [if_pos (by simp; omega)]
  refine bind_one _ _ _ ?_
  rw [if_pos (by simp; omega)]
  rfl
theorem tog3_gen {α β : Type} (a : List α) (s : α) (b : List α) (N : Nat) (ha : a.length ≤ 1000) (hb : b.length ≤ 1000) (hN : 5000 < N) (f : List α → Option β) :
    (if ([] : List α).length + a.length < N then ((some (([] : List α) ++ a : List α)).bind fun y => (if y.length < N then ((some (y ++ [s] : List α)).bind fun z => (if z.length + b.length < N then f (z ++ b) else (none))) else (none))) else (none)) = f (a ++ [s] ++ b) := by
  rw [if_pos (by simp; omega)]
  refine bind_one _ _ _ ?_
  rw [if_pos (by simp; omega)]
  refine bind_one _ _ _ ?_
  rw [if_pos (by simp; omega)]
  rfl
theorem Small.append {a b : List It} (ha : Small a) (hb : Small b) (hl : a.length + b.length ≤ 2000) : Small (a ++ b) := ⟨by rw [List.length_append]; exact hl, fun x hx => by
  rcases List.mem_append.1 hx with h | h
  · exact ha.2 x h
  · exact hb.2 x h⟩
theorem SmallB.append {a b : List (List Int)} (ha : SmallB a) (hb : SmallB b) (hl : a.length + b.length ≤ 2000) : SmallB (a ++ b) := ⟨by rw [List.length_append]; exact hl, fun x hx => by
  rcases List.mem_append.1 hx with h | h
  · exact ha.2 x h
  · exact hb.2 x h⟩
theorem joinL_f (a b : List It) (hs : Small (a ++ b)) (ha : a.length ≤ 1000) (hb : b.length ≤ 1000) : Ev (fun k => cut_JoinLeaves.f k a b) (decide (sizeL (a ++ b) ≤ 3000)) := by
  obtain ⟨K, h⟩ := size_f _ hs
  refine ⟨K, fun k hk => ?_⟩
  have g : leaf_Size.f k (a ++ b) = _ := h k hk
  show cut_JoinLeaves.f k a b = _
  unfold cut_JoinLeaves.f
  rw [togL_f a b ha hb]
  simp only [Option.bind_some]
  rw [g]
  simp only [Option.bind_some]
  congr 1
  by_cases h : sizeL (a ++ b) ≤ 3000
  · rw [decide_eq_true h, decide_eq_true (by omega)]
  · rw [decide_eq_false h, decide_eq_false (by omega)]
theorem rjoinL_f (a b : List It) (hs : Small (a ++ b)) (ha : a.length ≤ 1000) (hb : b.length ≤ 1000) : Ev (fun k => coppiceref9_JoinLeaves.f k a b) (decide (sizeL (a ++ b) ≤ 3000)) := by
  obtain ⟨K, h⟩ := rsize_f _ hs
  refine ⟨K, fun k hk => ?_⟩
  have g : coppiceref4_Size.f k (a ++ b) = _ := h k hk
  show coppiceref9_JoinLeaves.f k a b = _
  refine (tog2_gen a b 2199023255552 ha hb (by omega) (fun l => (coppiceref4_Size.f k l).bind fun t => some (decide (t ≤ 3000)))).trans ?_
  rw [g]
  simp only [Option.bind_some]
  congr 1
  by_cases h : sizeL (a ++ b) ≤ 3000
  · rw [decide_eq_true h, decide_eq_true (by omega)]
  · rw [decide_eq_false h, decide_eq_false (by omega)]
theorem joinB_f (a : List (List Int)) (s : List Int) (b : List (List Int)) (hs : SmallB (a ++ [s] ++ b)) (ha : a.length ≤ 900) (hb : b.length ≤ 900) : Ev (fun k => cut_JoinBranches.f k a s b) (decide (sizeB (a ++ [s] ++ b) ≤ 3000)) := by
  obtain ⟨K, h⟩ := sizeB_f _ hs
  refine ⟨K, fun k hk => ?_⟩
  have g : branch_Size.f k (a ++ [s] ++ b) = _ := h k hk
  show cut_JoinBranches.f k a s b = _
  have e1 := togB_f a [s] (by omega) (by rw [List.length_singleton]; omega)
  have e2 := togB_f (a ++ [s]) b (by rw [List.length_append, List.length_singleton]; omega) (by omega)
  have e3 : cut_JoinBranches.f k a s b = some (decide ((sizeB (a ++ [s] ++ b) : Int) ≤ 3000)) := by
    unfold cut_JoinBranches.f
    rw [e1]
    refine bind_one _ _ _ ?_
    rw [e2]
    refine bind_one _ _ _ ?_
    rw [g]
    rfl
  rw [e3]
  congr 1
  by_cases h : sizeB (a ++ [s] ++ b) ≤ 3000
  · rw [decide_eq_true h, decide_eq_true (by omega)]
  · rw [decide_eq_false h, decide_eq_false (by omega)]
theorem rjoinB_f (a : List (List Int)) (s : List Int) (b : List (List Int)) (hs : SmallB (a ++ [s] ++ b)) (ha : a.length ≤ 900) (hb : b.length ≤ 900) : Ev (fun k => coppiceref9_JoinBranches.f k a s b) (decide (sizeB (a ++ [s] ++ b) ≤ 3000)) := by
  obtain ⟨K, h⟩ := rsizeB_f _ hs
  refine ⟨K, fun k hk => ?_⟩
  have g : coppiceref5_Size.f k (a ++ [s] ++ b) = _ := h k hk
  show coppiceref9_JoinBranches.f k a s b = _
  refine (tog3_gen a s b 5864062014805 (by omega) (by omega) (by omega) (fun l => (coppiceref5_Size.f k l).bind fun t => some (decide (t ≤ 3000)))).trans ?_
  rw [g]
  simp only [Option.bind_some]
  congr 1
  by_cases h : sizeB (a ++ [s] ++ b) ≤ 3000
  · rw [decide_eq_true h, decide_eq_true (by omega)]
  · rw [decide_eq_false h, decide_eq_false (by omega)]
end Go.Proofs.Yteaiefkadmlabaa.P
