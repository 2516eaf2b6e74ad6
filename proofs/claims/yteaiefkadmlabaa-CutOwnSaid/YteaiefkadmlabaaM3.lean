import Derived.Test.YteaiefkadmlabaaM2
import Derived.Test.YteaiefkadmlabaaTypes
import Derived.Test.YteaiefkadmlabaaP12
/-! Plain facts on copies, and on the search for the best cut. -/
namespace Go.Proofs.Yteaiefkadmlabaa.P
open Go.RowKit Go.Proofs.YteaiefkadmlabaaW.PrintWords Go.Proofs.YteaiefkadmlabaaW.PrintMore
theorem bytes_f (l : List Int) (h : l.length ≤ 140737488351300) : coppiceref_Bytes.f l = some l := by
  unfold coppiceref_Bytes.f
  rw [if_pos (by omega), if_pos (by omega)]
  simp only [Option.bind_some]
  rw [if_pos (by simp; omega)]
  simp
theorem items_loop (l : List It) (h4 : l.length ≤ 2000) (hB : ∀ x ∈ l, x.f0.length ≤ 140737488351300 ∧ x.f1.length ≤ 140737488351300) (d : Nat) : ∀ (i : Nat) (acc : List It), i + d = l.length → acc = l.take i → Ev (fun k => coppiceref_Items.l0 k l acc i) l := by
  induction d with
  | zero =>
    intro i acc hi hacc
    refine Ev.step (f := fun _ => some l) (fun k => ?_) (Ev.now _)
    simp only [coppiceref_Items.l0]
    rw [if_neg (by omega), hacc, List.take_of_length_le (by omega)]
  | succ d ih =>
    intro i acc hi hacc
    have hlt : i < l.length := by omega
    have hb := hB l[i] (List.getElem_mem hlt)
    have hal : acc.length = i := by rw [hacc, List.length_take]; omega
    refine Ev.step (f := fun k => coppiceref_Items.l0 k l (acc ++ [l[i]]) ((i + 1 : Nat) : Int)) (fun k => ?_) (ih (i + 1) (acc ++ [l[i]]) (by omega) (by rw [hacc, List.take_succ_eq_append_getElem hlt]))
    simp only [coppiceref_Items.l0]
    rw [if_pos (by omega), if_pos (by omega), rd_item l i hlt]
    unfold coppiceref_Item.f
    rw [bytes_f _ (hb.1), bytes_f _ (hb.2)]
    simp only [Option.bind_some]
    rw [if_pos (by omega), wrap_id _ (by omega) (by omega)]
    rfl
theorem items_f2 (l : List It) (h4 : l.length ≤ 2000) (hB : ∀ x ∈ l, x.f0.length ≤ 140737488351300 ∧ x.f1.length ≤ 140737488351300) : Ev (fun k => coppiceref_Items.f k l) l := by
  refine Ev.congr (fun k => ?_) (items_loop l h4 hB l.length 0 [] (by omega) rfl)
  unfold coppiceref_Items.f
  rw [if_pos (by omega), if_pos (by omega)]
  rfl
theorem items_f (l : List It) (h4 : l.length ≤ 2000) (hB : ∀ x ∈ l, Bitem x) : Ev (fun k => coppiceref_Items.f k l) l := items_f2 l h4 (fun x hx => ⟨by have := (hB x hx).1.2; omega, by have := (hB x hx).2.1.2; omega⟩)
theorem lists_loop (l : List (List Int)) (h4 : l.length ≤ 2000) (hB : ∀ x ∈ l, x.length ≤ 140737488351300) (d : Nat) : ∀ (i : Nat) (acc : List (List Int)), i + d = l.length → acc = l.take i → Ev (fun k => coppiceref_ByteLists.l0 k l acc i) l := by
  induction d with
  | zero =>
    intro i acc hi hacc
    refine Ev.step (f := fun _ => some l) (fun k => ?_) (Ev.now _)
    simp only [coppiceref_ByteLists.l0]
    rw [if_neg (by omega), hacc, List.take_of_length_le (by omega)]
  | succ d ih =>
    intro i acc hi hacc
    have hlt : i < l.length := by omega
    have hb := hB l[i] (List.getElem_mem hlt)
    have hal : acc.length = i := by rw [hacc, List.length_take]; omega
    refine Ev.step (f := fun k => coppiceref_ByteLists.l0 k l (acc ++ [l[i]]) ((i + 1 : Nat) : Int)) (fun k => ?_) (ih (i + 1) (acc ++ [l[i]]) (by omega) (by rw [hacc, List.take_succ_eq_append_getElem hlt]))
    simp only [coppiceref_ByteLists.l0]
    rw [if_pos (by omega), if_pos (by omega), rd_list l i hlt, bytes_f _ hb]
    simp only [Option.bind_some]
    rw [if_pos (by omega), wrap_id _ (by omega) (by omega)]
    rfl
theorem lists_f2 (l : List (List Int)) (h4 : l.length ≤ 2000) (hB : ∀ x ∈ l, x.length ≤ 140737488351300) : Ev (fun k => coppiceref_ByteLists.f k l) l := by
  refine Ev.congr (fun k => ?_) (lists_loop l h4 hB l.length 0 [] (by omega) rfl)
  unfold coppiceref_ByteLists.f
  rw [if_pos (by omega), if_pos (by omega)]
  rfl
theorem lists_f (l : List (List Int)) (h4 : l.length ≤ 2000) (hB : ∀ x ∈ l, Bbytes x) : Ev (fun k => coppiceref_ByteLists.f k l) l := lists_f2 l h4 (fun x hx => by have := (hB x hx).2; omega)
/-! ### the search -/
def srch (A C : Nat → Nat) : Nat → Nat → Nat → Nat → Nat
  | 0, b, _, _ => b
  | d + 1, b, m, i => if A i ≤ 4092 ∧ C i ≤ 4092 ∧ (b = 0 ∨ max (A i) (C i) < m) then srch A C d i (max (A i) (C i)) (i + 1) else srch A C d b m (i + 1)
theorem fits_f (a : Nat) : cut_Fits.f a = some (decide (a ≤ 4092)) := by
  unfold cut_Fits.f
  rw [if_pos (by omega)]
  congr 1
  by_cases h : a ≤ 4092
  · rw [decide_eq_true h, decide_eq_true (by omega)]
  · rw [decide_eq_false h, decide_eq_false (by omega)]
theorem mx_nat (a c : Nat) : mx (a : Int) (c : Int) = ((max a c : Nat) : Int) := by unfold mx; split <;> omega
theorem Small.take {l : List It} (h : Small l) (i : Nat) : Small (l.take i) := ⟨by rw [List.length_take]; have := h.1; omega, fun x hx => h.2 x (List.mem_of_mem_take hx)⟩
theorem Small.drop {l : List It} (h : Small l) (i : Nat) : Small (l.drop i) := ⟨by rw [List.length_drop]; have := h.1; omega, fun x hx => h.2 x (List.mem_of_mem_drop hx)⟩
theorem SmallB.take {l : List (List Int)} (h : SmallB l) (i : Nat) : SmallB (l.take i) := ⟨by rw [List.length_take]; have := h.1; omega, fun x hx => h.2 x (List.mem_of_mem_take hx)⟩
theorem SmallB.drop {l : List (List Int)} (h : SmallB l) (i : Nat) : SmallB (l.drop i) := ⟨by rw [List.length_drop]; have := h.1; omega, fun x hx => h.2 x (List.mem_of_mem_drop hx)⟩
def AL (l : List It) (i : Nat) : Nat := sizeL (l.take i)
def CL (l : List It) (i : Nat) : Nat := sizeL (l.drop i)
def AB (l : List (List Int)) (i : Nat) : Nat := sizeB (l.take (i - 1))
def CB (l : List (List Int)) (i : Nat) : Nat := sizeB (l.drop i)
/-- Where a leaf is cut. -/
def leafCut (l : List It) : Nat := srch (AL l) (CL l) (l.length - 1) 0 0 1
def branchCut (l : List (List Int)) : Nat := srch (AB l) (CB l) l.length 0 0 1
theorem leaf_loop (l : List It) (hs : Small l) (d : Nat) : ∀ (b m i : Nat), d = l.length - i → 1 ≤ i → Ev (fun k => cut_Leaf.l0 k l b m i) (srch (AL l) (CL l) d b m i : Int) := by
  have hlen := hs.1
  induction d with
  | zero =>
    intro b m i hd hi
    refine Ev.step (f := fun _ => some (b : Int)) (fun k => ?_) (Ev.now _)
    simp only [cut_Leaf.l0]
    rw [if_neg (by omega)]
  | succ d ih =>
    intro b m i hd hi
    have hlt : i < l.length := by omega
    obtain ⟨K1, h1⟩ := size_f _ (hs.take i)
    obtain ⟨K2, h2⟩ := size_f _ (hs.drop i)
    obtain ⟨K3, h3⟩ := ih i (max (AL l i) (CL l i)) (i + 1) (by omega) (by omega)
    obtain ⟨K4, h4⟩ := ih b m (i + 1) (by omega) (by omega)
    refine ⟨K1 + K2 + K3 + K4 + 1, fun k hk => ?_⟩
    obtain ⟨k, rfl⟩ : ∃ m, k = m + 1 := ⟨k - 1, by omega⟩
    have g1 : leaf_Size.f k (l.take i) = some (AL l i : Int) := h1 k (by omega)
    have g2 : leaf_Size.f k (l.drop i) = some (CL l i : Int) := h2 k (by omega)
    have g3 : cut_Leaf.l0 k l i ((max (AL l i) (CL l i) : Nat) : Int) ((i : Int) + 1) = _ := h3 k (by omega)
    have g4 : cut_Leaf.l0 k l b m ((i : Int) + 1) = _ := h4 k (by omega)
    simp only [cut_Leaf.l0, srch]
    rw [if_pos (by omega), Int.toNat_natCast, g1, g2]
    simp only [Option.bind_some]
    rw [fits_f, fits_f]
    simp only [Option.bind_some, mx_nat, decide_eq_true_eq]
    rw [g3, g4]
    by_cases c1 : AL l i ≤ 4092
    · by_cases c2 : CL l i ≤ 4092
      · by_cases c3 : b = 0
        · rw [if_pos c1, if_pos c2, if_pos (by omega), if_pos ⟨c1, c2, .inl c3⟩]
        · by_cases c4 : max (AL l i) (CL l i) < m
          · rw [if_pos c1, if_pos c2, if_neg (by omega), if_pos (by omega), if_pos ⟨c1, c2, .inr c4⟩]
          · rw [if_pos c1, if_pos c2, if_neg (by omega), if_neg (by omega), if_neg (by rintro ⟨_, _, h | h⟩ <;> contradiction)]
      · rw [if_pos c1, if_neg c2, if_neg (by rintro ⟨_, h, _⟩; contradiction)]
    · rw [if_neg c1, if_neg (by rintro ⟨h, _⟩; contradiction)]
theorem leaf_f (l : List It) (hs : Small l) : Ev (fun k => cut_Leaf.f k l) (leafCut l : Int) := by
  refine Ev.congr (fun k => ?_) (leaf_loop l hs (l.length - 1) 0 0 1 rfl (Nat.le_refl _))
  unfold cut_Leaf.f
  rw [if_pos (by have := hs.1; omega)]
  rfl
theorem rleaf_loop (l : List It) (hs : Small l) (d : Nat) : ∀ (b m i : Nat), d = l.length - i → 1 ≤ i → Ev (fun k => coppiceref9_Leaf.l0 k l b m i) (srch (AL l) (CL l) d b m i : Int) := by
  have hlen := hs.1
  induction d with
  | zero =>
    intro b m i hd hi
    refine Ev.step (f := fun _ => some (b : Int)) (fun k => ?_) (Ev.now _)
    simp only [coppiceref9_Leaf.l0]
    rw [if_neg (by omega)]
  | succ d ih =>
    intro b m i hd hi
    have hlt : i < l.length := by omega
    obtain ⟨K1, h1⟩ := rsize_f _ (hs.take i)
    obtain ⟨K2, h2⟩ := rsize_f _ (hs.drop i)
    obtain ⟨K3, h3⟩ := ih i (max (AL l i) (CL l i)) (i + 1) (by omega) (by omega)
    obtain ⟨K4, h4⟩ := ih b m (i + 1) (by omega) (by omega)
    refine ⟨K1 + K2 + K3 + K4 + 2, fun k hk => ?_⟩
    obtain ⟨k, rfl⟩ : ∃ m, k = m + 1 + 1 := ⟨k - 2, by omega⟩
    have g1 : coppiceref4_Size.f (k + 1) (l.take i) = some (AL l i : Int) := h1 (k + 1) (by omega)
    have g2 : coppiceref4_Size.f (k + 1) (l.drop i) = some (CL l i : Int) := h2 (k + 1) (by omega)
    have g3 : coppiceref9_Leaf.l0 k l i ((max (AL l i) (CL l i) : Nat) : Int) ((i : Int) + 1) = _ := h3 k (by omega)
    have g4 : coppiceref9_Leaf.l0 k l b m ((i : Int) + 1) = _ := h4 k (by omega)
    simp only [coppiceref9_Leaf.l0, srch]
    rw [if_pos (by omega), if_pos (by omega), if_pos (by omega), Int.toNat_natCast, g1, g2]
    simp only [Option.bind_some, coppiceref9_Leaf.j1, mx_nat]
    rw [wrap_id _ (by omega) (by omega), g3, g4]
    by_cases c1 : AL l i ≤ 4092
    · rw [if_neg (by omega)]
      by_cases c2 : CL l i ≤ 4092
      · rw [if_neg (by simp; omega)]
        by_cases c3 : b = 0
        · rw [if_pos (by omega), if_pos ⟨c1, c2, .inl c3⟩]
        · by_cases c4 : max (AL l i) (CL l i) < m
          · rw [if_neg (by omega), if_pos (by omega), if_pos ⟨c1, c2, .inr c4⟩]
          · rw [if_neg (by omega), if_neg (by omega), if_neg (by rintro ⟨_, _, h | h⟩ <;> contradiction)]
      · rw [if_pos (by simp; omega), if_neg (by rintro ⟨_, h, _⟩; contradiction)]
    · rw [if_pos (by omega), if_pos trivial, if_neg (by rintro ⟨h, _⟩; contradiction)]
theorem rleaf_f (l : List It) (hs : Small l) : Ev (fun k => coppiceref9_Leaf.f k l) (leafCut l : Int) := rleaf_loop l hs (l.length - 1) 0 0 1 rfl (Nat.le_refl _)
theorem branch_loop (l : List (List Int)) (hs : SmallB l) (d : Nat) : ∀ (b m i : Nat), i + d = l.length + 1 → 1 ≤ i → Ev (fun k => cut_Branch.l0 k l b m i) (srch (AB l) (CB l) d b m i : Int) := by
  have hlen := hs.1
  induction d with
  | zero =>
    intro b m i hd hi
    refine Ev.step (f := fun _ => some (b : Int)) (fun k => ?_) (Ev.now _)
    simp only [cut_Branch.l0]
    rw [if_neg (by omega)]
  | succ d ih =>
    intro b m i hd hi
    obtain ⟨K1, h1⟩ := sizeB_f _ (hs.take (i - 1))
    obtain ⟨K2, h2⟩ := sizeB_f _ (hs.drop i)
    obtain ⟨K3, h3⟩ := ih i (max (AB l i) (CB l i)) (i + 1) (by omega) (by omega)
    obtain ⟨K4, h4⟩ := ih b m (i + 1) (by omega) (by omega)
    refine ⟨K1 + K2 + K3 + K4 + 1, fun k hk => ?_⟩
    obtain ⟨k, rfl⟩ : ∃ m, k = m + 1 := ⟨k - 1, by omega⟩
    have g1 : branch_Size.f k (l.take (i - 1)) = some (AB l i : Int) := h1 k (by omega)
    have g2 : branch_Size.f k (l.drop i) = some (CB l i : Int) := h2 k (by omega)
    have g3 : cut_Branch.l0 k l i ((max (AB l i) (CB l i) : Nat) : Int) ((i : Int) + 1) = _ := h3 k (by omega)
    have g4 : cut_Branch.l0 k l b m ((i : Int) + 1) = _ := h4 k (by omega)
    simp only [cut_Branch.l0, srch]
    rw [if_pos (by omega), show ((i : Int) - 1).toNat = i - 1 by omega, Int.toNat_natCast, g1, g2]
    simp only [Option.bind_some]
    rw [fits_f, fits_f]
    simp only [Option.bind_some, mx_nat, decide_eq_true_eq]
    rw [g3, g4]
    by_cases c1 : AB l i ≤ 4092
    · by_cases c2 : CB l i ≤ 4092
      · by_cases c3 : b = 0
        · rw [if_pos c1, if_pos c2, if_pos (by omega), if_pos ⟨c1, c2, .inl c3⟩]
        · by_cases c4 : max (AB l i) (CB l i) < m
          · rw [if_pos c1, if_pos c2, if_neg (by omega), if_pos (by omega), if_pos ⟨c1, c2, .inr c4⟩]
          · rw [if_pos c1, if_pos c2, if_neg (by omega), if_neg (by omega), if_neg (by rintro ⟨_, _, h | h⟩ <;> contradiction)]
      · rw [if_pos c1, if_neg c2, if_neg (by rintro ⟨_, h, _⟩; contradiction)]
    · rw [if_neg c1, if_neg (by rintro ⟨h, _⟩; contradiction)]
theorem branch_f (l : List (List Int)) (hs : SmallB l) : Ev (fun k => cut_Branch.f k l) (branchCut l : Int) := by
  refine Ev.congr (fun k => ?_) (branch_loop l hs l.length 0 0 1 (by omega) (Nat.le_refl _))
  unfold cut_Branch.f
  rw [if_pos (by have := hs.1; omega)]
  rfl
theorem rbranch_loop (l : List (List Int)) (hs : SmallB l) (d : Nat) : ∀ (b m i : Nat), i + d = l.length + 1 → 1 ≤ i → Ev (fun k => coppiceref9_Branch.l0 k l b m i) (srch (AB l) (CB l) d b m i : Int) := by
  have hlen := hs.1
  induction d with
  | zero =>
    intro b m i hd hi
    refine Ev.step (f := fun _ => some (b : Int)) (fun k => ?_) (Ev.now _)
    simp only [coppiceref9_Branch.l0]
    rw [if_neg (by omega)]
  | succ d ih =>
    intro b m i hd hi
    obtain ⟨K1, h1⟩ := rsizeB_f _ (hs.take (i - 1))
    obtain ⟨K2, h2⟩ := rsizeB_f _ (hs.drop i)
    obtain ⟨K3, h3⟩ := ih i (max (AB l i) (CB l i)) (i + 1) (by omega) (by omega)
    obtain ⟨K4, h4⟩ := ih b m (i + 1) (by omega) (by omega)
    refine ⟨K1 + K2 + K3 + K4 + 2, fun k hk => ?_⟩
    obtain ⟨k, rfl⟩ : ∃ m, k = m + 1 + 1 := ⟨k - 2, by omega⟩
    have g1 : coppiceref5_Size.f (k + 1) (l.take (i - 1)) = some (AB l i : Int) := h1 (k + 1) (by omega)
    have g2 : coppiceref5_Size.f (k + 1) (l.drop i) = some (CB l i : Int) := h2 (k + 1) (by omega)
    have g3 : coppiceref9_Branch.l0 k l i ((max (AB l i) (CB l i) : Nat) : Int) ((i : Int) + 1) = _ := h3 k (by omega)
    have g4 : coppiceref9_Branch.l0 k l b m ((i : Int) + 1) = _ := h4 k (by omega)
    simp only [coppiceref9_Branch.l0, srch]
    rw [if_pos (by omega), wrap_id ((i : Int) - 1) (by omega) (by omega), if_pos (by omega), if_pos (by omega), show ((i : Int) - 1).toNat = i - 1 by omega, g1]
    simp only [Option.bind_some]
    rw [if_pos (by omega), Int.toNat_natCast, g2]
    simp only [Option.bind_some, coppiceref9_Branch.j1, mx_nat]
    rw [wrap_id _ (by omega) (by omega), g3, g4]
    by_cases c1 : AB l i ≤ 4092
    · rw [if_neg (by omega)]
      by_cases c2 : CB l i ≤ 4092
      · rw [if_neg (by simp; omega)]
        by_cases c3 : b = 0
        · rw [if_pos (by omega), if_pos ⟨c1, c2, .inl c3⟩]
        · by_cases c4 : max (AB l i) (CB l i) < m
          · rw [if_neg (by omega), if_pos (by omega), if_pos ⟨c1, c2, .inr c4⟩]
          · rw [if_neg (by omega), if_neg (by omega), if_neg (by rintro ⟨_, _, h | h⟩ <;> contradiction)]
      · rw [if_pos (by simp; omega), if_neg (by rintro ⟨_, h, _⟩; contradiction)]
    · rw [if_pos (by omega), if_pos trivial, if_neg (by rintro ⟨h, _⟩; contradiction)]
theorem rbranch_f (l : List (List Int)) (hs : SmallB l) : Ev (fun k => coppiceref9_Branch.f k l) (branchCut l : Int) := rbranch_loop l hs l.length 0 0 1 (by omega) (Nat.le_refl _)
theorem Bitems.small {l : List It} (h : Bitems l) (hl : l.length ≤ 2000) : Small l := ⟨hl, fun x hx => by have := (h.1 x hx).1.2; omega⟩
theorem Blists.small {l : List (List Int)} (h : Blists l) (hl : l.length ≤ 2000) : SmallB l := ⟨hl, fun x hx => by have := (h.1 x hx).2; omega⟩
end Go.Proofs.Yteaiefkadmlabaa.P
