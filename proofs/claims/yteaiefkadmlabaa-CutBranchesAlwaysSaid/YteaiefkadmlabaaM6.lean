import Derived.Test.YteaiefkadmlabaaM5
import Derived.Test.YteaiefkadmlabaaP15
/-! The order of keys, and that there is a cut. -/
namespace Go.Proofs.Yteaiefkadmlabaa.P
open Go.RowKit Go.Proofs.YteaiefkadmlabaaW.PrintWords Go.Proofs.YteaiefkadmlabaaW.PrintMore
/-! ### the order -/
def lx : List Int → List Int → Int
  | [], [] => 0
  | [], _ :: _ => -1
  | _ :: _, [] => 1
  | x :: xs, y :: ys => if x < y then -1 else if x > y then 1 else lx xs ys
theorem lx_between (p : Nat) : ∀ (u v w : List Int), lx u v < 0 → lx v w < 0 → p ≤ u.length → p ≤ w.length → u.take p = w.take p → p ≤ v.length ∧ u.take p = v.take p := by
  induction p with
  | zero => intro u v w _ _ _ _ _; simp
  | succ p ih =>
    intro u v w h1 h2 hu hw ht
    cases u with
    | nil => simp at hu
    | cons a u =>
      cases w with
      | nil => simp at hw
      | cons c w =>
        cases v with
        | nil => simp [lx] at h1
        | cons b v =>
          simp only [List.take_succ_cons, List.cons.injEq] at ht
          obtain ⟨rfl, ht⟩ := ht
          simp only [lx] at h1 h2
          have hab : a = b := by
            by_cases c1 : a < b
            · rw [if_neg (by omega), if_pos (by omega)] at h2; omega
            · by_cases c2 : a > b
              · rw [if_neg c1, if_pos c2] at h1; omega
              · omega
          subst hab
          rw [if_neg (by omega), if_neg (by omega)] at h1 h2
          have := ih u v w h1 h2 (by simpa using hu) (by simpa using hw) ht
          exact ⟨by simpa using this.1, by simp [this.2]⟩
theorem lx_trans : ∀ (u v w : List Int), lx u v < 0 → lx v w < 0 → lx u w < 0 := by
  intro u
  induction u with
  | nil =>
    intro v w h1 h2
    cases w with
    | nil => cases v <;> simp [lx] at h1 h2
    | cons c w => simp [lx]
  | cons a u ih =>
    intro v w h1 h2
    cases v with
    | nil => simp [lx] at h1
    | cons b v =>
      cases w with
      | nil => simp [lx] at h2
      | cons c w =>
        simp only [lx] at h1 h2 ⊢
        by_cases c1 : a < b
        · by_cases c2 : b < c
          · rw [if_pos (by omega)]; omega
          · rw [if_neg c2] at h2
            by_cases c3 : b > c
            · rw [if_pos c3] at h2; omega
            · rw [if_pos (by omega)]; omega
        · rw [if_neg c1] at h1
          by_cases c4 : a > b
          · rw [if_pos c4] at h1; omega
          · rw [if_neg c4] at h1
            by_cases c2 : b < c
            · rw [if_pos (by omega)]; omega
            · rw [if_neg c2] at h2
              by_cases c3 : b > c
              · rw [if_pos c3] at h2; omega
              · rw [if_neg c3] at h2
                rw [if_neg (by omega), if_neg (by omega)]
                exact ih v w h1 h2
theorem lx_eq : ∀ (u v : List Int), lx u v = 0 → u = v := by
  intro u
  induction u with
  | nil => intro v h; cases v <;> simp [lx] at h ⊢
  | cons a u ih =>
    intro v h
    cases v with
    | nil => simp [lx] at h
    | cons b v =>
      simp only [lx] at h
      by_cases c1 : a < b
      · rw [if_pos c1] at h; omega
      · rw [if_neg c1] at h
        by_cases c2 : a > b
        · rw [if_pos c2] at h; omega
        · rw [if_neg c2] at h
          rw [ih v h, show a = b by omega]
theorem lx_flip : ∀ (u v : List Int), 0 < lx u v → lx v u < 0 := by
  intro u
  induction u with
  | nil => intro v h; cases v <;> simp [lx] at h
  | cons a u ih =>
    intro v h
    cases v with
    | nil => simp [lx]
    | cons b v =>
      simp only [lx] at h ⊢
      by_cases c1 : a < b
      · rw [if_pos c1] at h; omega
      · rw [if_neg c1] at h
        by_cases c2 : a > b
        · rw [if_pos (by omega)]; omega
        · rw [if_neg c2] at h
          rw [if_neg (by omega), if_neg (by omega)]
          exact ih v h
theorem rd_nat (l : List Int) (i : Nat) (h : i < l.length) : rd l (i : Int) = l[i] := by simp [rd, h]
theorem compare_loop (a b : List Int) (ha : a.length ≤ 140737488351300) (d : Nat) : ∀ i : Nat, i + d = a.length → i ≤ b.length → Ev (fun k => coppiceref3_Compare.l0 k a b i) (lx (a.drop i) (b.drop i)) := by
  induction d with
  | zero =>
    intro i hi hb
    refine Ev.step (f := fun k => coppiceref3_Compare.j1 k a b i false) (fun k => ?_) (Ev.step (f := fun _ => some (lx (a.drop i) (b.drop i))) (fun k => ?_) (Ev.now _))
    · simp only [coppiceref3_Compare.l0]
      rw [if_neg (by omega)]
    · simp only [coppiceref3_Compare.j1]
      rw [if_neg (by simp), List.drop_eq_nil_of_le (show a.length ≤ i by omega)]
      by_cases h : i < b.length
      · rw [if_pos (by omega), List.drop_eq_getElem_cons h]; rfl
      · rw [if_neg (by omega), if_neg (by omega), List.drop_eq_nil_of_le (show b.length ≤ i by omega)]; rfl
  | succ d ih =>
    intro i hi hb
    have hlt : i < a.length := by omega
    by_cases h : i < b.length
    · have hr := ih (i + 1) (by omega) (by omega)
      have e1 := rd_nat a i hlt
      have e2 := rd_nat b i h
      rw [List.drop_eq_getElem_cons hlt, List.drop_eq_getElem_cons h]
      refine Ev.step (f := fun k => coppiceref3_Compare.j1 k a b i true) (fun k => ?_) (Ev.step (f := fun k => if a[i] < b[i] then some (-1) else if a[i] > b[i] then some 1 else coppiceref3_Compare.l0 k a b ((i + 1 : Nat) : Int)) (fun k => ?_) ?_)
      · simp only [coppiceref3_Compare.l0]
        rw [if_pos (by omega), decide_eq_true (by omega)]
      · simp only [coppiceref3_Compare.j1]
        rw [if_pos trivial, if_pos (by omega), if_pos (by omega), if_pos (by omega), e1, e2, wrap_id _ (by omega) (by omega)]
        rfl
      · simp only [lx]
        by_cases c1 : a[i] < b[i]
        · simp only [if_pos c1]; exact Ev.now _
        · simp only [if_neg c1]
          by_cases c2 : a[i] > b[i]
          · simp only [if_pos c2]; exact Ev.now _
          · simp only [if_neg c2]; exact hr
    · refine Ev.step (f := fun k => coppiceref3_Compare.j1 k a b i false) (fun k => ?_) (Ev.step (f := fun _ => some (lx (a.drop i) (b.drop i))) (fun k => ?_) (Ev.now _))
      · simp only [coppiceref3_Compare.l0]
        rw [if_pos (by omega), decide_eq_false (by omega)]
      · simp only [coppiceref3_Compare.j1]
        rw [if_neg (by simp), List.drop_eq_nil_of_le (show b.length ≤ i by omega), List.drop_eq_getElem_cons hlt]
        rw [if_neg (by omega), if_pos (by omega)]; rfl
theorem compare_f (a b : List Int) (ha : a.length ≤ 140737488351300) : Ev (fun k => coppiceref3_Compare.f k a b) (lx a b) := by
  have h := compare_loop a b ha a.length 0 (by omega) (by omega)
  rwa [List.drop_zero, List.drop_zero] at h
/-! ### one more among the elements -/
theorem preG_between (a b : List (List Int × Nat)) (x u w : List Int × Nat) (hu : u ∈ a) (hw : w ∈ b) (h1 : lx u.1 x.1 < 0) (h2 : lx x.1 w.1 < 0) : preG (a ++ x :: b) = preG (a ++ b) := by
  have hne : a ++ b ≠ [] := by intro h; simp [(List.append_eq_nil_iff.1 h).1] at hu
  have hsub : ∀ y ∈ a ++ b, y ∈ a ++ x :: b := fun y hy => by
    rcases List.mem_append.1 hy with h | h
    · exact List.mem_append_left _ h
    · exact List.mem_append_right _ (List.mem_cons_of_mem _ h)
  refine Nat.le_antisymm (preG_mem _ _ hne hsub) ?_
  unfold preG
  have hall := (le_cmnAll ((a ++ b).map (·.1)) (by simpa using hne) _).1 (Nat.le_refl _)
  rw [le_cmnAll _ (by simp)]
  obtain ⟨p, hp⟩ : ∃ p, p = cmnAll ((a ++ b).map (·.1)) := ⟨_, rfl⟩
  rw [← hp] at hall ⊢
  have mu : u.1 ∈ (a ++ b).map (·.1) := List.mem_map.2 ⟨u, List.mem_append_left _ hu, rfl⟩
  have mw : w.1 ∈ (a ++ b).map (·.1) := List.mem_map.2 ⟨w, List.mem_append_right _ hw, rfl⟩
  have hx := lx_between p u.1 x.1 w.1 h1 h2 (hall _ mu _ mu).1 (hall _ mw _ mw).1 (hall _ mu _ mw).2
  have one : ∀ s ∈ (a ++ x :: b).map (·.1), p ≤ s.length ∧ s.take p = u.1.take p := fun s hs => by
    obtain ⟨y, hy, rfl⟩ := List.mem_map.1 hs
    have : y = x ∨ y ∈ a ++ b := by
      rcases List.mem_append.1 hy with h | h
      · exact .inr (List.mem_append_left _ h)
      · rcases List.mem_cons.1 h with h | h
        · exact .inl h
        · exact .inr (List.mem_append_right _ h)
    rcases this with rfl | h
    · exact ⟨hx.1, hx.2.symm⟩
    · have m : y.1 ∈ (a ++ b).map (·.1) := List.mem_map.2 ⟨y, h, rfl⟩
      exact hall _ m _ mu
  exact fun s hs t ht => ⟨(one s hs).1, (one s hs).2.trans (one t ht).2.symm⟩
theorem size_between (H : Nat) (a b : List (List Int × Nat)) (x u w : List Int × Nat) (hu : u ∈ a) (hw : w ∈ b) (h1 : lx u.1 x.1 < 0) (h2 : lx x.1 w.1 < 0) :
    sizeG H (a ++ x :: b) = sizeG H (a ++ b) + cellG (preG (a ++ x :: b)) x := by
  unfold sizeG
  rw [preG_between a b x u w hu hw h1 h2]
  simp only [List.map_append, List.map_cons, List.sum_append, List.sum_cons]
  omega
theorem vlen_two {x : Nat} (h : x ≤ 16383) : vlen x ≤ 2 := vlen_le 1 x (by omega)
theorem sizeG_longer (H : Nat) (l : List (List Int × Nat)) (p : Nat) (hne : l ≠ []) (hp : p ≤ preG l) : sizeG H l ≤ H + vlen p + p + (l.map (cellG p)).sum + 1 := by
  cases l with
  | nil => exact absurd rfl hne
  | cons x r =>
    have := size_longer x r p hp
    unfold sizeG
    omega
/-- Where there is a cut: a list that is a little too large has one. -/
theorem cut_exists (H M : Nat) (l : List (List Int × Nat)) (hk : ∀ x ∈ l, x.1.length ≤ 255) (hM : ∀ x ∈ l, cellG (preG l) x ≤ M) (big : 4092 < sizeG H l) (hi : sizeG H l ≤ 4092 + M) (hM2 : M ≤ 774) (hH : H ≤ 12) :
    ∃ i, 1 ≤ i ∧ i < l.length ∧ sizeG H (l.take i) ≤ 4092 ∧ sizeG H (l.drop i) ≤ 4092 := by
  have hne : l ≠ [] := by
    rintro rfl
    have h0 : sizeG H [] = H + 1 := by
      unfold sizeG
      rw [show preG [] = 0 from rfl, vlen_small (by omega)]
      rfl
    omega
  obtain ⟨p, hp⟩ : ∃ p, p = preG l := ⟨_, rfl⟩
  have hp255 : p ≤ 255 := by
    cases l with
    | nil => exact absurd rfl hne
    | cons x r => have h1 := preG_le (x :: r) x (List.mem_cons_self ..); have h2 := hk x (List.mem_cons_self ..); omega
  have hv := vlen_two (x := p) (by omega)
  have hsz : sizeG H l = H + vlen p + p + (l.map (cellG p)).sum := by unfold sizeG; rw [← hp]
  rw [← hp] at hM
  have find : ∀ n, n ≤ l.length → (H + vlen p + p + ((l.take n).map (cellG p)).sum ≤ 4091) ∨ ∃ i, i < n ∧ H + vlen p + p + ((l.take i).map (cellG p)).sum ≤ 4091 ∧ 4091 < H + vlen p + p + ((l.take (i + 1)).map (cellG p)).sum := by
    intro n
    induction n with
    | zero => intro _; left; simp; omega
    | succ n ih =>
      intro hn
      rcases ih (by omega) with h | ⟨i, h1, h2⟩
      · by_cases h2 : H + vlen p + p + ((l.take (n + 1)).map (cellG p)).sum ≤ 4091
        · exact .inl h2
        · exact .inr ⟨n, by omega, h, by omega⟩
      · exact .inr ⟨i, by omega, h2⟩
  rcases find l.length (Nat.le_refl _) with h | ⟨i, hil, h1, h2⟩
  · rw [List.take_of_length_le (Nat.le_refl _)] at h
    omega
  have hstep : ((l.take (i + 1)).map (cellG p)).sum = ((l.take i).map (cellG p)).sum + cellG p l[i] := by
    rw [List.take_succ_eq_append_getElem hil, List.map_append, List.sum_append]
    simp
  have hc := hM l[i] (List.getElem_mem hil)
  have hall : (l.map (cellG p)).sum = ((l.take i).map (cellG p)).sum + ((l.drop i).map (cellG p)).sum := by
    rw [← List.sum_append, ← List.map_append, List.take_append_drop]
  have h1i : 1 ≤ i := by
    rcases Nat.eq_zero_or_pos i with h0 | h0
    · subst h0
      rw [hstep] at h2
      simp only [List.take_zero, List.map_nil, List.sum_nil] at h2
      omega
    · exact h0
  have tne : l.take i ≠ [] := by
    intro h
    have := congrArg List.length h
    rw [List.length_take, List.length_nil] at this
    omega
  have dne : l.drop i ≠ [] := by
    intro h
    have := congrArg List.length h
    rw [List.length_drop, List.length_nil] at this
    omega
  have ht := sizeG_longer H (l.take i) p tne (by rw [hp]; exact preG_mem _ _ tne (fun y hy => List.mem_of_mem_take hy))
  have hd := sizeG_longer H (l.drop i) p dne (by rw [hp]; exact preG_mem _ _ dne (fun y hy => List.mem_of_mem_drop hy))
  exact ⟨i, h1i, hil, by omega, by omega⟩
/-! ### what the search finds -/
theorem srch_good (A C : Nat → Nat) (Q : Nat → Prop) (d : Nat) : ∀ b m i, (b ≠ 0 → Q b) → (∀ j, i ≤ j → j < i + d → A j ≤ 4092 → C j ≤ 4092 → Q j) → srch A C d b m i ≠ 0 → Q (srch A C d b m i) := by
  induction d with
  | zero => intro b m i hb _ h; exact hb h
  | succ d ih =>
    intro b m i hb hq h
    simp only [srch] at h ⊢
    split
    · next hc =>
      rw [if_pos hc] at h
      exact ih i _ (i + 1) (fun _ => hq i (by omega) (by omega) hc.1 hc.2.1) (fun j h1 h2 => hq j (by omega) (by omega)) h
    · next hc =>
      rw [if_neg hc] at h
      exact ih b m (i + 1) hb (fun j h1 h2 => hq j (by omega) (by omega)) h
theorem srch_some (A C : Nat → Nat) (d : Nat) : ∀ b m i, 1 ≤ i → (b ≠ 0 ∨ ∃ j, i ≤ j ∧ j < i + d ∧ A j ≤ 4092 ∧ C j ≤ 4092) → srch A C d b m i ≠ 0 := by
  induction d with
  | zero =>
    intro b m i _ h
    rcases h with h | ⟨j, h1, h2, _⟩
    · exact h
    · omega
  | succ d ih =>
    intro b m i hi h
    simp only [srch]
    split
    · exact ih i _ (i + 1) (by omega) (.inl (by omega))
    · next hc =>
      refine ih b m (i + 1) (by omega) ?_
      rcases h with h | ⟨j, h1, h2, h3, h4⟩
      · exact .inl h
      · rcases Nat.eq_or_lt_of_le h1 with h5 | h5
        · subst h5
          by_cases hb : b = 0
          · exact absurd ⟨h3, h4, .inl hb⟩ hc
          · exact .inl hb
        · exact .inr ⟨j, by omega, by omega, h3, h4⟩
theorem srch_least (A C : Nat → Nat) (d : Nat) : ∀ b m i, (b ≠ 0 → m = max (A b) (C b)) → 1 ≤ i →
    (b ≠ 0 → max (A (srch A C d b m i)) (C (srch A C d b m i)) ≤ m) ∧ ∀ j, i ≤ j → j < i + d → A j ≤ 4092 → C j ≤ 4092 → max (A (srch A C d b m i)) (C (srch A C d b m i)) ≤ max (A j) (C j) := by
  induction d with
  | zero => intro b m i hb _; exact ⟨fun h => by rw [hb h]; exact Nat.le_refl _, fun j h1 h2 => by omega⟩
  | succ d ih =>
    intro b m i hb hi
    simp only [srch]
    split
    · next hc =>
      have h := ih i (max (A i) (C i)) (i + 1) (fun _ => rfl) (by omega)
      have h1 := h.1 (by omega)
      refine ⟨fun hb0 => ?_, fun j h2 h3 h4 h5 => ?_⟩
      · rcases hc.2.2 with h6 | h6
        · exact absurd h6 hb0
        · omega
      · rcases Nat.eq_or_lt_of_le h2 with h6 | h6
        · subst h6; exact h1
        · exact h.2 j (by omega) (by omega) h4 h5
    · next hc =>
      have h := ih b m (i + 1) hb (by omega)
      refine ⟨h.1, fun j h2 h3 h4 h5 => ?_⟩
      rcases Nat.eq_or_lt_of_le h2 with h6 | h6
      · subst h6
        by_cases hb0 : b = 0
        · exact absurd ⟨h4, h5, .inl hb0⟩ hc
        · have h7 := h.1 hb0
          by_cases h8 : max (A i) (C i) < m
          · exact absurd ⟨h4, h5, .inr h8⟩ hc
          · omega
      · exact h.2 j (by omega) (by omega) h4 h5
theorem sizeG_one (H : Nat) (x : List Int × Nat) (h : x.1.length ≤ 255) : sizeG H [x] ≤ H + 258 + x.2 := by
  have hp : preG [x] = x.1.length := rfl
  have hv := vlen_two (x := x.1.length) (by omega)
  have hz := vlen_small (x := 0) (by omega)
  unfold sizeG
  rw [hp]
  simp only [List.map_cons, List.map_nil, List.sum_cons, List.sum_nil, cellG, Nat.sub_self]
  omega
theorem sizeL_le {l' l : List It} (h : l'.Sublist l) : sizeL l' ≤ sizeL l := by
  rcases Nat.lt_or_ge l'.length l.length with h1 | h1
  · exact Nat.le_of_lt (sizeL_lt h h1)
  · rw [h.eq_of_length_le h1]; exact Nat.le_refl _
theorem sizeB_le {l' l : List (List Int)} (h : l'.Sublist l) : sizeB l' ≤ sizeB l := by
  rcases Nat.lt_or_ge l'.length l.length with h1 | h1
  · exact Nat.le_of_lt (sizeB_lt h h1)
  · rw [h.eq_of_length_le h1]; exact Nat.le_refl _
theorem extra_le (x : It) : (ofItem x).2 ≤ 517 := by
  have h1 := tagOf_le x.f2
  have h2 := vlen_le 2 (tagOf x.f2) (by omega)
  have h3 := inl_le x.f2
  show 2 + vlen (tagOf x.f2) + inl x.f2 ≤ 517
  omega
theorem cellG_small (p : Nat) (x : List Int × Nat) (M : Nat) (h : x.1.length ≤ 255) (hM : x.2 ≤ M) : cellG p x ≤ M + 257 := by
  have := vlen_two (x := x.1.length - p) (by omega)
  unfold cellG
  omega
theorem leaf_cut_exists (a b : List It) (x : It) (hk : ∀ y ∈ a ++ x :: b, y.f0.length ≤ 255) (hfit : sizeL (a ++ b) ≤ 4092) (big : 4092 < sizeL (a ++ x :: b)) (hu : ∀ u ∈ a, lx u.f0 x.f0 < 0) (hw : ∀ w ∈ b, lx x.f0 w.f0 < 0) :
    ∃ i, 1 ≤ i ∧ i < (a ++ x :: b).length ∧ sizeL ((a ++ x :: b).take i) ≤ 4092 ∧ sizeL ((a ++ x :: b).drop i) ≤ 4092 := by
  have hx1 : sizeL [x] ≤ 4092 := by
    have h1 := sizeG_one 3 (ofItem x) (hk x (by simp))
    have h2 := extra_le x
    rw [sizeL_G]
    show sizeG 3 [ofItem x] ≤ 4092
    omega
  cases a with
  | nil =>
    cases b with
    | nil => exact absurd hx1 (by simpa using big)
    | cons w b => exact ⟨1, Nat.le_refl _, by simp, by simpa using hx1, by simpa using hfit⟩
  | cons u a =>
    cases b with
    | nil =>
      refine ⟨(u :: a).length, by simp, by simp, ?_, ?_⟩
      · rw [List.take_left']
        · simpa using hfit
        · rfl
      · rw [List.drop_left']
        · exact hx1
        · rfl
    | cons w b =>
      have hs := size_between 3 ((u :: a).map ofItem) ((w :: b).map ofItem) (ofItem x) (ofItem u) (ofItem w) (by simp) (by simp) (hu u (by simp)) (hw w (by simp))
      have e1 : (u :: a).map ofItem ++ ofItem x :: (w :: b).map ofItem = (u :: a ++ x :: w :: b).map ofItem := by simp
      have e2 : (u :: a).map ofItem ++ (w :: b).map ofItem = (u :: a ++ w :: b).map ofItem := by simp
      rw [e1, e2, ← sizeL_G, ← sizeL_G] at hs
      have hkey : ∀ y ∈ (u :: a ++ x :: w :: b).map ofItem, y.1.length ≤ 255 ∧ y.2 ≤ 517 := fun y hy => by
        obtain ⟨z, hz, rfl⟩ := List.mem_map.1 hy
        exact ⟨hk z hz, extra_le z⟩
      have hcx := cellG_small (preG ((u :: a ++ x :: w :: b).map ofItem)) (ofItem x) 517 (hk x (by simp)) (extra_le x)
      obtain ⟨i, h1, h2, h3, h4⟩ := cut_exists 3 774 ((u :: a ++ x :: w :: b).map ofItem) (fun y hy => (hkey y hy).1) (fun y hy => cellG_small _ y 517 (hkey y hy).1 (hkey y hy).2) (by rw [← sizeL_G]; exact big) (by rw [← sizeL_G]; omega) (Nat.le_refl _) (by omega)
      refine ⟨i, h1, by simpa using h2, ?_, ?_⟩
      · rw [sizeL_G, List.map_take]; exact h3
      · rw [sizeL_G, List.map_drop]; exact h4
end Go.Proofs.Yteaiefkadmlabaa.P
