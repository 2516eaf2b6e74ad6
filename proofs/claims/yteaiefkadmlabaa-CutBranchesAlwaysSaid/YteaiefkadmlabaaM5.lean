import Derived.Test.YteaiefkadmlabaaM4
/-! A part of a list is smaller than the whole. -/
namespace Go.Proofs.Yteaiefkadmlabaa.P
open Go.RowKit Go.Proofs.YteaiefkadmlabaaW.PrintWords Go.Proofs.YteaiefkadmlabaaW.PrintMore
theorem le_cmn (a : List Int) : ∀ (b : List Int) (p : Nat), p ≤ cmn a b ↔ p ≤ a.length ∧ p ≤ b.length ∧ a.take p = b.take p := by
  induction a with
  | nil =>
    intro b p
    cases p with
    | zero => simp
    | succ p => simp [cmn]
  | cons x xs ih =>
    intro b p
    cases p with
    | zero => simp
    | succ p =>
      cases b with
      | nil => simp [cmn]
      | cons y ys =>
        simp only [cmn, List.take_succ_cons, List.length_cons, List.cons.injEq]
        by_cases h : x = y
        · rw [if_pos h]
          constructor
          · intro h2
            have := (ih ys p).1 (by omega)
            exact ⟨by omega, by omega, h, this.2.2⟩
          · rintro ⟨h1, h2, _, h3⟩
            have := (ih ys p).2 ⟨by omega, by omega, h3⟩
            omega
        · rw [if_neg h]
          constructor
          · intro h2; omega
          · rintro ⟨_, _, h3, _⟩; exact absurd h3 h
theorem le_cmnFrom (a : List Int) (l : List (List Int)) : ∀ (n p : Nat), n ≤ a.length → (p ≤ cmnFrom a n l ↔ p ≤ n ∧ ∀ s ∈ l, p ≤ s.length ∧ a.take p = s.take p) := by
  induction l with
  | nil => intro n p hn; simp [cmnFrom]
  | cons s l ih =>
    intro n p hn
    have h1 := le_cmn (a.take n) s p
    have hl : (a.take n).length = n := by rw [List.length_take]; omega
    have h2 : cmn (a.take n) s ≤ a.length := Nat.le_trans (cmn_take_le a n s) hn
    have h3 := ih (cmn (a.take n) s) p h2
    show p ≤ cmnFrom a (cmn (a.take n) s) l ↔ _
    rw [h3, h1, hl]
    constructor
    · rintro ⟨⟨hp, hps, ht⟩, hr⟩
      refine ⟨hp, fun t htm => ?_⟩
      rcases List.mem_cons.1 htm with rfl | h
      · rw [List.take_take, Nat.min_eq_left hp] at ht
        exact ⟨hps, ht⟩
      · exact hr t h
    · rintro ⟨hp, hr⟩
      have hs := hr s (List.mem_cons_self ..)
      refine ⟨⟨hp, hs.1, ?_⟩, fun t ht => hr t (List.mem_cons_of_mem _ ht)⟩
      rw [List.take_take, Nat.min_eq_left hp]
      exact hs.2
theorem le_cmnAll (l : List (List Int)) (hne : l ≠ []) (p : Nat) : p ≤ cmnAll l ↔ ∀ s ∈ l, ∀ t ∈ l, p ≤ s.length ∧ s.take p = t.take p := by
  cases l with
  | nil => exact absurd rfl hne
  | cons a l =>
    have h := le_cmnFrom a l a.length p (Nat.le_refl _)
    show p ≤ cmnFrom a a.length l ↔ _
    rw [h]
    constructor
    · rintro ⟨hp, hr⟩ s hs t ht
      have one : ∀ u ∈ a :: l, p ≤ u.length ∧ a.take p = u.take p := fun u hu => by
        rcases List.mem_cons.1 hu with rfl | h
        · exact ⟨hp, rfl⟩
        · exact hr u h
      exact ⟨(one s hs).1, (one s hs).2.symm.trans (one t ht).2⟩
    · intro h2
      have ha := h2 a (List.mem_cons_self ..) a (List.mem_cons_self ..)
      exact ⟨ha.1, fun s hs => ⟨(h2 s (List.mem_cons_of_mem _ hs) a (List.mem_cons_self ..)).1, (h2 a (List.mem_cons_self ..) s (List.mem_cons_of_mem _ hs)).2⟩⟩
theorem cmnAll_mem (l l' : List (List Int)) (hne : l' ≠ []) (h : ∀ s ∈ l', s ∈ l) : cmnAll l ≤ cmnAll l' := by
  have hl : l ≠ [] := by
    intro h0
    subst h0
    cases l' with
    | nil => exact hne rfl
    | cons s l' => exact absurd (h s (List.mem_cons_self ..)) (by simp)
  rw [le_cmnAll l' hne]
  intro s hs t ht
  exact (le_cmnAll l hl _).1 (Nat.le_refl _) s (h s hs) t (h t ht)
/-! ### sizes, of keys with what stands beside them -/
def cellG (p : Nat) (x : List Int × Nat) : Nat := x.2 + (vlen (x.1.length - p) + (x.1.length - p))
def preG (l : List (List Int × Nat)) : Nat := cmnAll (l.map (·.1))
def sizeG (H : Nat) (l : List (List Int × Nat)) : Nat := H + vlen (preG l) + preG l + (l.map (cellG (preG l))).sum
def ofItem (x : It) : List Int × Nat := (x.f0, 2 + vlen (tagOf x.f2) + inl x.f2)
def ofSep (s : List Int) : List Int × Nat := (s, 10)
theorem sum_map_congr {α : Type} (f g : α → Nat) (l : List α) (h : ∀ x ∈ l, f x = g x) : (l.map f).sum = (l.map g).sum := by rw [List.map_congr_left h]
theorem sizeL_G (l : List It) : sizeL l = sizeG 3 (l.map ofItem) := by
  have hp : preG (l.map ofItem) = pre l := by
    unfold preG pre
    rw [List.map_map]
    rfl
  unfold sizeL sizeG
  rw [hp, List.map_map]
  congr 1
  apply sum_map_congr
  intro x _
  simp only [Function.comp_apply, cellL, cellG, ofItem]
  omega
theorem sizeB_G (l : List (List Int)) : sizeB l = sizeG 12 (l.map ofSep) := by
  have hp : preG (l.map ofSep) = cmnAll l := by
    unfold preG
    rw [List.map_map]
    congr 1
    exact List.map_id _
  unfold sizeB sizeG
  rw [hp, List.map_map]
  congr 1
  apply sum_map_congr
  intro x _
  simp only [Function.comp_apply, cellB, cellG, ofSep]
  omega
theorem cellG_anti {p q : Nat} (x : List Int × Nat) (h : p ≤ q) (hq : q ≤ x.1.length) : cellG q x + (q - p) ≤ cellG p x := by
  have := vlen_mono (x := x.1.length - q) (y := x.1.length - p) (by omega)
  unfold cellG
  omega
theorem sum_anti {p q : Nat} (h : p ≤ q) : ∀ (l : List (List Int × Nat)), (∀ x ∈ l, q ≤ x.1.length) → (l.map (cellG q)).sum ≤ (l.map (cellG p)).sum
  | [], _ => Nat.le_refl _
  | x :: l, hq => by
    have h1 := cellG_anti x h (hq x (List.mem_cons_self ..))
    have h2 := sum_anti h l (fun y hy => hq y (List.mem_cons_of_mem _ hy))
    simp only [List.map_cons, List.sum_cons]
    omega
theorem cellG_ge (p : Nat) (x : List Int × Nat) (h : 3 ≤ x.2) : 4 ≤ cellG p x := by
  have := vlen_pos (x.1.length - p)
  unfold cellG
  omega
theorem sum_part (p : Nat) {l' l : List (List Int × Nat)} (h : l'.Sublist l) : (∀ x ∈ l, 3 ≤ x.2) → (l'.map (cellG p)).sum + 4 * (l.length - l'.length) ≤ (l.map (cellG p)).sum := by
  induction h with
  | slnil => intro _; simp
  | @cons l1 l2 a h ih =>
    intro hb
    have h1 := ih (fun x hx => hb x (List.mem_cons_of_mem _ hx))
    have h2 := cellG_ge p a (hb a (List.mem_cons_self ..))
    have h3 := h.length_le
    simp only [List.map_cons, List.sum_cons, List.length_cons]
    omega
  | @cons_cons l1 l2 a h ih =>
    intro hb
    have h1 := ih (fun x hx => hb x (List.mem_cons_of_mem _ hx))
    simp only [List.map_cons, List.sum_cons, List.length_cons]
    omega
theorem preG_le (l : List (List Int × Nat)) : ∀ x ∈ l, preG l ≤ x.1.length := fun x hx => cmnAll_le _ _ (List.mem_map.2 ⟨x, hx, rfl⟩)
theorem preG_mem (l l' : List (List Int × Nat)) (hne : l' ≠ []) (h : ∀ x ∈ l', x ∈ l) : preG l ≤ preG l' := by
  refine cmnAll_mem _ _ (by simpa using hne) (fun s hs => ?_)
  obtain ⟨x, hx, rfl⟩ := List.mem_map.1 hs
  exact List.mem_map.2 ⟨x, h x hx, rfl⟩
/-- With a longer beginning in common the same elements take hardly more. -/
theorem size_longer (x : List Int × Nat) (r : List (List Int × Nat)) (p : Nat) (hp : p ≤ preG (x :: r)) :
    vlen (preG (x :: r)) + preG (x :: r) + ((x :: r).map (cellG (preG (x :: r)))).sum ≤ vlen p + p + ((x :: r).map (cellG p)).sum + 1 := by
  have hle := preG_le (x :: r)
  have hx := hle x (List.mem_cons_self ..)
  cases r with
  | nil =>
    have h0 : preG [x] = x.1.length := rfl
    rw [h0]
    have h1 := vlen_add p (x.1.length - p)
    rw [show p + (x.1.length - p) = x.1.length by rw [h0] at hp; omega] at h1
    simp only [List.map_cons, List.map_nil, List.sum_cons, List.sum_nil, cellG, Nat.sub_self]
    rw [vlen_small (x := 0) (by omega)]
    rw [h0] at hp
    omega
  | cons y r =>
    have hy := hle y (by simp)
    obtain ⟨q, hq⟩ : ∃ q, q = preG (x :: y :: r) := ⟨_, rfl⟩
    rw [← hq] at hp hx hy ⊢
    have h1 := cellG_anti x hp hx
    have h2 := cellG_anti y hp hy
    have h3 := sum_anti hp r (fun z hz => by rw [hq]; exact hle z (by simp [hz]))
    have h4 := vlen_succ p (q - p)
    rw [show p + (q - p) = q by omega] at h4
    simp only [List.map_cons, List.sum_cons]
    omega
theorem sizeG_lt (H : Nat) {l' l : List (List Int × Nat)} (h : l'.Sublist l) (hl : l'.length < l.length) (hb : ∀ x ∈ l, 3 ≤ x.2) : sizeG H l' < sizeG H l := by
  have h1 := sum_part (preG l) h hb
  have hv := vlen_pos (preG l)
  cases l' with
  | nil =>
    have h0 : sizeG H [] = H + 1 := by
      unfold sizeG
      rw [show preG [] = 0 from rfl, vlen_small (by omega)]
      rfl
    rw [h0]
    unfold sizeG
    simp only [List.map_nil, List.sum_nil, List.length_nil] at h1 hl
    omega
  | cons x r =>
    have h2 := size_longer x r (preG l) (preG_mem l (x :: r) (by simp) (fun y hy => h.subset hy))
    unfold sizeG
    omega
theorem sizeL_lt {l' l : List It} (h : l'.Sublist l) (hl : l'.length < l.length) : sizeL l' < sizeL l := by
  rw [sizeL_G, sizeL_G]
  refine sizeG_lt 3 (h.map _) (by simpa using hl) (fun x hx => ?_)
  obtain ⟨y, _, rfl⟩ := List.mem_map.1 hx
  have := vlen_pos (tagOf y.f2)
  show 3 ≤ 2 + vlen (tagOf y.f2) + inl y.f2
  omega
theorem sizeB_lt {l' l : List (List Int)} (h : l'.Sublist l) (hl : l'.length < l.length) : sizeB l' < sizeB l := by
  rw [sizeB_G, sizeB_G]
  refine sizeG_lt 12 (h.map _) (by simpa using hl) (fun x hx => ?_)
  obtain ⟨y, _, rfl⟩ := List.mem_map.1 hx
  show 3 ≤ 10
  omega
end Go.Proofs.Yteaiefkadmlabaa.P
