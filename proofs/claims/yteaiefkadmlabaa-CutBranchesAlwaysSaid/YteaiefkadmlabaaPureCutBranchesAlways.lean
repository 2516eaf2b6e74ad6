import Derived.Test.YteaiefkadmlabaaM6
import Derived.Test.YteaiefkadmlabaaP18
/-! There always is a cut of a branch, with two kids at least on each side. -/
namespace Go.Proofs.Yteaiefkadmlabaa.Pure
open Go.RowKit Go.Proofs.YteaiefkadmlabaaW.PrintWords Go.Proofs.YteaiefkadmlabaaW.PrintMore Go.Proofs.Yteaiefkadmlabaa.P
theorem lx_self : ∀ u : List Int, lx u u = 0
  | [] => rfl
  | a :: u => by simp only [lx]; rw [if_neg (by omega), if_neg (by omega)]; exact lx_self u
theorem sum_grow (p q : Nat) (h : p ≤ q) : ∀ l : List (List Int × Nat), (∀ y ∈ l, y.1.length ≤ 255 ∧ q ≤ y.1.length) → (l.map (cellG p)).sum ≤ (l.map (cellG q)).sum + l.length * (q + 1)
  | [], _ => by simp
  | y :: l, hl => by
    have h1 := hl y (List.mem_cons_self ..)
    have h2 := sum_grow p q h l (fun z hz => hl z (List.mem_cons_of_mem _ hz))
    have h3 := vlen_two (x := y.1.length - p) (by omega)
    have h4 := vlen_pos (y.1.length - q)
    have h5 : cellG p y ≤ cellG q y + (q + 1) := by unfold cellG; omega
    simp only [List.map_cons, List.sum_cons, List.length_cons, Nat.succ_mul]
    omega
theorem sum_least (q : Nat) : ∀ l : List (List Int × Nat), (∀ y ∈ l, y.2 = 10) → l.length * 11 ≤ (l.map (cellG q)).sum
  | [], _ => by simp
  | y :: l, hl => by
    have h1 := hl y (List.mem_cons_self ..)
    have h2 := sum_least q l (fun z hz => hl z (List.mem_cons_of_mem _ hz))
    have h4 := vlen_pos (y.1.length - q)
    simp only [List.map_cons, List.sum_cons, List.length_cons, cellG]
    omega
theorem one_more (a b : List (List Int × Nat)) (x : List Int × Nat) (hk : ∀ y ∈ a ++ x :: b, y.1.length ≤ 255 ∧ y.2 = 10) (h : sizeG 12 (a ++ b) ≤ 280) : sizeG 12 (a ++ x :: b) ≤ 4092 := by
  have hx := hk x (by simp)
  by_cases hne : a ++ b = []
  · obtain ⟨rfl, rfl⟩ := List.append_eq_nil_iff.1 hne
    have := sizeG_one 12 x hx.1
    simp only [List.nil_append]
    omega
  have hsub : ∀ y ∈ a ++ b, y ∈ a ++ x :: b := fun y hy => by
    rcases List.mem_append.1 hy with h | h
    · exact List.mem_append_left _ h
    · exact List.mem_append_right _ (List.mem_cons_of_mem _ h)
  have hpq := preG_mem _ _ hne hsub
  have hqle := preG_le (a ++ b)
  have hq255 : preG (a ++ b) ≤ 255 := by
    obtain ⟨y, hy⟩ := List.exists_mem_of_ne_nil _ hne
    have h1 := hqle y hy
    have h2 := hk y (hsub y hy)
    omega
  have h1 := sum_grow _ _ hpq (a ++ b) (fun y hy => ⟨(hk y (hsub y hy)).1, hqle y hy⟩)
  have h2 := sum_least (preG (a ++ b)) (a ++ b) (fun y hy => (hk y (hsub y hy)).2)
  have h3 := cellG_small (preG (a ++ x :: b)) x 10 hx.1 (Nat.le_of_eq hx.2)
  have h4 := vlen_two (x := preG (a ++ x :: b)) (by omega)
  have h5 := vlen_pos (preG (a ++ b))
  unfold sizeG at h ⊢
  obtain ⟨q, hq⟩ : ∃ q, q = preG (a ++ b) := ⟨_, rfl⟩
  obtain ⟨p, hp⟩ : ∃ p, p = preG (a ++ x :: b) := ⟨_, rfl⟩
  obtain ⟨m, hm⟩ : ∃ m, m = (a ++ b).length := ⟨_, rfl⟩
  rw [← hq] at h h1 h2 h5 hpq hq255
  rw [← hp] at h1 h3 h4 hpq ⊢
  rw [← hm] at h1 h2
  have hsplit : ((a ++ x :: b).map (cellG p)).sum = ((a ++ b).map (cellG p)).sum + cellG p x := by
    simp only [List.map_append, List.map_cons, List.sum_append, List.sum_cons]
    omega
  have hb : m * (q + 1) ≤ 3072 := by
    rcases Nat.lt_or_ge m 13 with c | c
    · exact Nat.mul_le_mul (show m ≤ 12 by omega) (show q + 1 ≤ 256 by omega)
    · exact Nat.le_trans (Nat.mul_le_mul (show m ≤ 24 by omega) (show q + 1 ≤ 125 by omega)) (by omega)
  omega
theorem sep_key (L : List (List Int)) (hk : ∀ y ∈ L, y.length ≤ 255) : ∀ y ∈ L.map ofSep, y.1.length ≤ 255 ∧ y.2 = 10 := fun y hy => by
  obtain ⟨z, hz, rfl⟩ := List.mem_map.1 hy
  exact ⟨hk z hz, rfl⟩
theorem one_moreB (a b : List (List Int)) (x : List Int) (hk : ∀ y ∈ a ++ x :: b, y.length ≤ 255) (h : sizeB (a ++ b) ≤ 280) : sizeB (a ++ x :: b) ≤ 4092 := by
  have := one_more (a.map ofSep) (b.map ofSep) (ofSep x) (by have := sep_key _ hk; simpa using this) (by rw [sizeB_G] at h; simpa using h)
  rw [sizeB_G]
  simpa using this
theorem sizeB_one (y : List Int) (h : y.length ≤ 255) : sizeB [y] ≤ 280 := by
  rw [sizeB_G]
  exact sizeG_one 12 (ofSep y) h
theorem sizeB_nil : sizeB [] = 13 := by
  unfold sizeB
  rw [show cmnAll [] = 0 from rfl, vlen_small (by omega)]
  rfl
theorem branch_exists (a b : List (List Int)) (x : List Int) (hk : ∀ y ∈ a ++ x :: b, y.length ≤ 255) (hfit : sizeB (a ++ b) ≤ 4092) (big : 4092 < sizeB (a ++ x :: b)) (hu : ∀ u ∈ a, lx u x < 0) (hw : ∀ w ∈ b, lx x w < 0) :
    ∃ j, 1 ≤ j ∧ j ≤ (a ++ x :: b).length ∧ sizeB ((a ++ x :: b).take (j - 1)) ≤ 4092 ∧ sizeB ((a ++ x :: b).drop j) ≤ 4092 := by
  have hnil := sizeB_nil
  cases a with
  | nil => exact ⟨1, Nat.le_refl _, by simp, by simp [hnil], by simpa using hfit⟩
  | cons u a =>
    cases b with
    | nil =>
      refine ⟨(u :: a).length + 1, by simp, by simp, ?_, ?_⟩
      · rw [Nat.add_sub_cancel, List.take_left']
        · simpa using hfit
        · rfl
      · rw [List.drop_eq_nil_of_le (by simp)]
        omega
    | cons w b =>
      have hs := size_between 12 ((u :: a).map ofSep) ((w :: b).map ofSep) (ofSep x) (ofSep u) (ofSep w) (by simp) (by simp) (hu u (by simp)) (hw w (by simp))
      have e1 : (u :: a).map ofSep ++ ofSep x :: (w :: b).map ofSep = (u :: a ++ x :: w :: b).map ofSep := by simp
      have e2 : (u :: a).map ofSep ++ (w :: b).map ofSep = (u :: a ++ w :: b).map ofSep := by simp
      rw [e1, e2, ← sizeB_G, ← sizeB_G] at hs
      have hkey := sep_key _ hk
      have hcx := cellG_small (preG ((u :: a ++ x :: w :: b).map ofSep)) (ofSep x) 10 (hk x (by simp)) (Nat.le_refl _)
      obtain ⟨i, h1, h2, h3, h4⟩ := cut_exists 12 267 ((u :: a ++ x :: w :: b).map ofSep) (fun y hy => (hkey y hy).1) (fun y hy => cellG_small _ y 10 (hkey y hy).1 (Nat.le_of_eq (hkey y hy).2)) (by rw [← sizeB_G]; exact big) (by rw [← sizeB_G]; omega) (by omega) (Nat.le_refl _)
      rw [List.length_map] at h2
      refine ⟨i, h1, by omega, ?_, ?_⟩
      · refine Nat.le_trans (sizeB_le (l := (u :: a ++ x :: w :: b).take i) ?_) (by rw [sizeB_G, List.map_take]; exact h3)
        have : (u :: a ++ x :: w :: b).take (i - 1) = ((u :: a ++ x :: w :: b).take i).take (i - 1) := by rw [List.take_take, Nat.min_eq_left (by omega)]
        rw [this]
        exact List.take_sublist _ _
      · rw [sizeB_G, List.map_drop]; exact h4
theorem branch_best (L : List (List Int)) (hk : ∀ y ∈ L, y.length ≤ 255) (big : 4092 < sizeB L) (hex : ∃ j, 1 ≤ j ∧ j ≤ L.length ∧ sizeB (L.take (j - 1)) ≤ 4092 ∧ sizeB (L.drop j) ≤ 4092) :
    2 ≤ branchCut L ∧ branchCut L < L.length ∧ sizeB (L.take (branchCut L - 1)) ≤ 4092 ∧ sizeB (L.drop (branchCut L)) ≤ 4092 := by
  obtain ⟨j, hj1, hj2, hj3, hj4⟩ := hex
  have hne : branchCut L ≠ 0 := srch_some (AB L) (CB L) L.length 0 0 1 (Nat.le_refl _) (.inr ⟨j, hj1, by omega, hj3, hj4⟩)
  have hgood : 1 ≤ branchCut L ∧ branchCut L ≤ L.length ∧ AB L (branchCut L) ≤ 4092 ∧ CB L (branchCut L) ≤ 4092 := srch_good (AB L) (CB L) (fun i => 1 ≤ i ∧ i ≤ L.length ∧ AB L i ≤ 4092 ∧ CB L i ≤ 4092) L.length 0 0 1 (fun h => absurd rfl h) (fun i h1 h2 h3 h4 => ⟨h1, by omega, h3, h4⟩) hne
  have hleast : ∀ j, 1 ≤ j → j < 1 + L.length → AB L j ≤ 4092 → CB L j ≤ 4092 → max (AB L (branchCut L)) (CB L (branchCut L)) ≤ max (AB L j) (CB L j) := (srch_least (AB L) (CB L) L.length 0 0 1 (fun h => absurd rfl h) (Nat.le_refl _)).2
  obtain ⟨r, hr⟩ : ∃ r, r = branchCut L := ⟨_, rfl⟩
  rw [← hr] at hgood hleast ⊢
  obtain ⟨g1, g2, g3, g4⟩ := hgood
  have hpos : 0 < L.length := by omega
  have hnil := sizeB_nil
  have r1 : r ≠ 1 := by
    rintro rfl
    have e0 : L = L[0] :: L.drop 1 := by
      have := List.drop_eq_getElem_cons (l := L) (i := 0) hpos
      rwa [List.drop_zero] at this
    have hgt : 280 < sizeB (L.drop 1) := by
      rcases Nat.lt_or_ge 280 (sizeB (L.drop 1)) with h | h
      · exact h
      · have := one_moreB [] (L.drop 1) L[0] (by rw [List.nil_append, ← e0]; exact hk) (by simpa using h)
        rw [List.nil_append, ← e0] at this
        omega
    have hlen2 : 2 ≤ L.length := by
      rcases Nat.lt_or_ge L.length 2 with h | h
      · rw [List.drop_eq_nil_of_le (by omega)] at hgt; omega
      · exact h
    have ha2 : AB L 2 ≤ 280 := by
      show sizeB (L.take 1) ≤ 280
      have := List.take_succ_eq_append_getElem (l := L) (i := 0) hpos
      rw [List.take_zero, List.nil_append] at this
      rw [show L.take 1 = L.take (0 + 1) from rfl, this]
      exact sizeB_one _ (hk _ (List.getElem_mem _))
    have hc2 : CB L 2 < sizeB (L.drop 1) := by
      show sizeB (L.drop 2) < _
      have : L.drop 2 = (L.drop 1).drop 1 := by rw [List.drop_drop]
      refine sizeB_lt (by rw [this]; exact List.drop_sublist _ _) (by rw [List.length_drop, List.length_drop]; omega)
    have g4' : sizeB (L.drop 1) ≤ 4092 := g4
    have hl := hleast 2 (by omega) (by omega) (by omega) (by omega)
    have hc1 : CB L 1 = sizeB (L.drop 1) := rfl
    omega
  have rn : r ≠ L.length := by
    rintro rfl
    obtain ⟨n, hn⟩ : ∃ n, L.length = n + 1 := ⟨L.length - 1, by omega⟩
    have e0 : L = L.take n ++ [L[n]'(by omega)] := by
      have := List.take_succ_eq_append_getElem (l := L) (i := n) (by omega)
      rwa [List.take_of_length_le (by omega)] at this
    have hA : AB L L.length = sizeB (L.take n) := by unfold AB; rw [hn]; rfl
    have hgt : 280 < sizeB (L.take n) := by
      rcases Nat.lt_or_ge 280 (sizeB (L.take n)) with h | h
      · exact h
      · have := one_moreB (L.take n) [] (L[n]'(by omega)) (by rw [← e0]; exact hk) (by simpa using h)
        rw [← e0] at this
        omega
    have hn1 : 1 ≤ n := by omega
    have ha2 : AB L n < sizeB (L.take n) := by
      show sizeB (L.take (n - 1)) < _
      have : L.take (n - 1) = (L.take n).take (n - 1) := by rw [List.take_take, Nat.min_eq_left (by omega)]
      refine sizeB_lt (by rw [this]; exact List.take_sublist _ _) (by rw [List.length_take, List.length_take]; omega)
    have hc2 : CB L n ≤ 280 := by
      show sizeB (L.drop n) ≤ 280
      rw [List.drop_eq_getElem_cons (by omega), List.drop_eq_nil_of_le (by omega)]
      exact sizeB_one _ (hk _ (List.getElem_mem _))
    have hl := hleast n hn1 (by omega) (by omega) (by omega)
    omega
  exact ⟨by omega, by omega, g3, g4⟩
theorem final_part (a b L : List (List Int)) (x : List Int) (hab : L = a ++ x :: b) (hlen : L.length ≤ 401) (hk : ∀ y ∈ L, y.length ≤ 255) (hfit : sizeB (a ++ b) ≤ 4092) (hu : ∀ u ∈ a, lx u x < 0) (hw : ∀ w ∈ b, lx x w < 0) :
    Ev (fun k => coppicelaw9_CutBranchesAlways.j3 k true L) true := by
  have hsL : SmallB L := ⟨by omega, fun y hy => by have := hk y hy; omega⟩
  have e2 := sizeB_f L hsL
  have e3 := branch_f L hsL
  have e4 := rsizeB_f L hsL
  refine Ev.step (f := fun k => (branch_Size.f k L).bind fun u => (cut_Branch.f k L).bind fun v => (coppiceref5_Size.f k L).bind fun w => coppicelaw9_CutBranchesAlways.j4 k L u v (u != w)) (fun k => ?_) (Ev.bind e2 (Ev.bind e3 (Ev.bind e4 ?_)))
  · simp only [coppicelaw9_CutBranchesAlways.j3]
    rfl
  rw [show ((sizeB L : Int) != (sizeB L : Int)) = false by simp]
  by_cases c : sizeB L ≤ 4092
  · refine Ev.step (f := fun _ => some true) (fun k => ?_) (Ev.now _)
    simp only [coppicelaw9_CutBranchesAlways.j4]
    rw [if_neg (by simp), if_pos (by omega)]
  · have hex : ∃ j, 1 ≤ j ∧ j ≤ L.length ∧ sizeB (L.take (j - 1)) ≤ 4092 ∧ sizeB (L.drop j) ≤ 4092 := by
      rw [hab] at hk c ⊢
      exact branch_exists a b x hk hfit (by omega) hu hw
    have hbest := branch_best L hk (by omega) hex
    obtain ⟨i, hi⟩ : ∃ i, i = branchCut L := ⟨_, rfl⟩
    rw [← hi] at hbest ⊢
    obtain ⟨g1, g2, g3, g4⟩ := hbest
    have hm : wrap64 ((i : Int) - 1) = ((i - 1 : Nat) : Int) := by rw [wrap_id _ (by omega) (by omega)]; omega
    have hsplit : L.take (i - 1) ++ [L[i - 1]'(by omega)] ++ L.drop i = L := by
      have := List.take_succ_eq_append_getElem (l := L) (i := i - 1) (by omega)
      rw [show i - 1 + 1 = i by omega] at this
      rw [← this, List.take_append_drop]
    have hrd := rd_list L (i - 1) (by omega)
    have s1 := sizeB_f _ (hsL.take (i - 1))
    have s2 := sizeB_f _ (hsL.drop i)
    have s3 := joinB_f (L.take (i - 1)) (L[i - 1]'(by omega)) (L.drop i) (by rw [hsplit]; exact hsL) (by rw [List.length_take]; omega) (by rw [List.length_drop]; omega)
    rw [hsplit, decide_eq_false (show ¬ sizeB L ≤ 3000 by omega)] at s3
    refine Ev.step (f := fun k => coppicelaw9_CutBranchesAlways.j5 k L i false) (fun k => ?_) (Ev.step (f := fun k => (branch_Size.f k (L.take (i - 1))).bind fun t => (branch_Size.f k (L.drop i)).bind fun u => (cut_JoinBranches.f k (L.take (i - 1)) (L[i - 1]'(by omega)) (L.drop i)).bind fun v => if t ≤ 4092 then if u ≤ 4092 then some (!v) else some false else some false) (fun k => ?_) (Ev.bind s1 (Ev.bind s2 (Ev.bind s3 ?_))))
    · simp only [coppicelaw9_CutBranchesAlways.j4]
      rw [if_neg (by simp), if_neg (by omega), if_neg (by omega), decide_eq_false (by omega)]
    · simp only [coppicelaw9_CutBranchesAlways.j5]
      rw [if_neg (by simp), hm, if_pos (by omega), if_pos (by omega)]
      simp only [if_pos (show (0 : Int) ≤ (i : Int) by omega), if_pos (show (i : Int) ≤ (L.length : Int) by omega), if_pos (show ((i - 1 : Nat) : Int) < (L.length : Int) by omega), hrd, Int.toNat_natCast]
    · refine Ev.congr (f := fun _ => some true) (fun k => ?_) (Ev.now _)
      show (if _ then _ else _) = _
      rw [if_pos (by omega), if_pos (by omega)]
      rfl
/-- What the loop has when it looks at the i-th separator. -/
def Laid (l : List (List Int)) (x : List Int) (i : Nat) (acc : List (List Int)) (done : Bool) : Prop :=
  ∃ a b, (if done = true then acc = a ++ x :: b ∧ a ++ b = l.take i ∧ (∃ h : i - 1 < l.length, 0 < i ∧ lx x l[i - 1] < 0) else acc = a ∧ b = [] ∧ a = l.take i) ∧ (∀ u ∈ a, lx u x < 0) ∧ (∀ w ∈ b, lx x w < 0)
theorem loop (l : List (List Int)) (x : List Int) (hlen : l.length ≤ 400) (hs : SmallB l) (hx : x.length ≤ 255) (hfit : sizeB l ≤ 4092) (d : Nat) : ∀ (i : Nat) (acc : List (List Int)) (done : Bool), i + d = l.length → acc.length ≤ i + 1 → (∀ y ∈ l.take i, y.length ≤ 255) → Laid l x i acc done →
    Ev (fun k => coppicelaw9_CutBranchesAlways.l0 k l x true acc done i) true := by
  induction d with
  | zero =>
    intro i acc done hi ha hk hl
    rw [List.take_of_length_le (by omega)] at hk
    obtain ⟨a, b, h1, hu, hw⟩ := hl
    have hkL : ∀ L : List (List Int), L = a ++ x :: b → a ++ b = l → ∀ y ∈ L, y.length ≤ 255 := fun L e1 e2 y hy => by
      rw [e1] at hy
      have : y = x ∨ y ∈ a ++ b := by
        rcases List.mem_append.1 hy with h | h
        · exact .inr (List.mem_append_left _ h)
        · rcases List.mem_cons.1 h with h | h
          · exact .inl h
          · exact .inr (List.mem_append_right _ h)
      rcases this with rfl | h
      · exact hx
      · rw [e2] at h; exact hk y h
    cases done with
    | true =>
      rw [if_pos rfl, List.take_of_length_le (by omega)] at h1
      obtain ⟨e1, e2, _⟩ := h1
      refine Ev.step (f := fun k => coppicelaw9_CutBranchesAlways.j3 k true acc) (fun k => ?_) (final_part a b acc x e1 (by omega) (hkL acc e1 e2) (by rw [e2]; exact hfit) hu hw)
      simp only [coppicelaw9_CutBranchesAlways.l0]
      rw [if_neg (by omega), if_pos trivial]
    | false =>
      rw [if_neg (by simp), List.take_of_length_le (by omega)] at h1
      obtain ⟨e1, e2, e3⟩ := h1
      have e4 : acc ++ [x] = a ++ x :: b := by rw [e1, e2]
      have e5 : a ++ b = l := by rw [e2, List.append_nil, e3]
      have e6 : acc.length = l.length := by rw [e1, e3]
      refine Ev.step (f := fun k => coppicelaw9_CutBranchesAlways.j3 k true (acc ++ [x])) (fun k => ?_) (final_part a b (acc ++ [x]) x e4 (by simp; omega) (hkL _ e4 e5) (by rw [e5]; exact hfit) hu hw)
      simp only [coppicelaw9_CutBranchesAlways.l0]
      rw [if_neg (by omega), if_neg (by simp), if_pos (by omega)]
  | succ d ih =>
    intro i acc done hi ha hk hl
    have hlt : i < l.length := by omega
    have hky := hs.2 l[i] (List.getElem_mem hlt)
    have hrd := rd_list l i hlt
    have hcast : wrap64 ((i : Int) + 1) = ((i + 1 : Nat) : Int) := by rw [wrap_id _ (by omega) (by omega)]; rfl
    have hv : coppiceref3_Valid.f l[i] = some (decide (1 ≤ l[i].length ∧ l[i].length ≤ 255)) := by
      unfold coppiceref3_Valid.f
      by_cases c : 1 ≤ l[i].length
      · rw [if_pos (by omega)]
        congr 1
        by_cases c2 : l[i].length ≤ 255
        · rw [decide_eq_true (by omega), decide_eq_true ⟨c, c2⟩]
        · rw [decide_eq_false (by omega), decide_eq_false (fun h => c2 h.2)]
      · rw [if_neg (by omega), decide_eq_false (fun h => c h.1)]
    have no : Ev (fun k => coppicelaw9_CutBranchesAlways.j2 k l x true acc done i true) true := Ev.step (f := fun _ => some true) (fun k => by simp [coppicelaw9_CutBranchesAlways.j2]) (Ev.now _)
    have hcx := compare_f l[i] x hky
    by_cases c : 1 ≤ l[i].length ∧ l[i].length ≤ 255
    · rw [decide_eq_true c] at hv
      have hk' : ∀ y ∈ l.take (i + 1), y.length ≤ 255 := fun y hy => by
        rw [List.take_succ_eq_append_getElem hlt] at hy
        rcases List.mem_append.1 hy with h | h
        · exact hk y h
        · rw [List.mem_singleton.1 h]; exact c.2
      -- the second part of a round
      have second : (∀ h0 : 0 < i, lx (l[i - 1]'(by omega)) l[i] < 0) → Ev (fun k => (coppiceref3_Compare.f k l[i] x).bind fun t => coppicelaw9_CutBranchesAlways.j2 k l x true acc done i (t == 0)) true := by
        intro hup
        refine Ev.bind hcx ?_
        by_cases c0 : lx l[i] x = 0
        · rw [c0]; exact no
        rw [show (lx l[i] x == 0) = false by simpa using c0]
        obtain ⟨a, b, h1, hu, hw⟩ := hl
        cases done with
        | true =>
          rw [if_pos rfl] at h1
          obtain ⟨e1, e2, hp, h0, hx1⟩ := h1
          have hxi : lx x l[i] < 0 := lx_trans _ _ _ hx1 (hup h0)
          refine Ev.step (fun k => ?_) (ih (i + 1) (acc ++ [l[i]]) true (by omega) (by simp; omega) hk' ⟨a, b ++ [l[i]], ?_, hu, ?_⟩)
          · simp only [coppicelaw9_CutBranchesAlways.j2]
            rw [if_neg (by simp), if_pos trivial, if_pos (by omega), if_pos (by omega), if_pos (by omega), hrd, hcast]
          · rw [if_pos rfl]
            refine ⟨by rw [e1]; simp, by rw [← List.append_assoc, e2, List.take_succ_eq_append_getElem hlt], by omega, by omega, ?_⟩
            exact hxi
          · intro w hw2
            rcases List.mem_append.1 hw2 with h | h
            · exact hw w h
            · rw [List.mem_singleton.1 h]; exact hxi
        | false =>
          rw [if_neg (by simp)] at h1
          obtain ⟨e1, e2, e3⟩ := h1
          have hal : acc.length = i := by rw [e1, e3, List.length_take]; omega
          have hcx2 := compare_f x l[i] (by omega)
          refine Ev.step (f := fun k => (coppiceref3_Compare.f k x l[i]).bind fun t => if t < 0 then coppicelaw9_CutBranchesAlways.l0 k l x true (acc ++ [x] ++ [l[i]]) true ((i + 1 : Nat) : Int) else coppicelaw9_CutBranchesAlways.l0 k l x true (acc ++ [l[i]]) false ((i + 1 : Nat) : Int)) (fun k => ?_) (Ev.bind hcx2 ?_)
          · simp only [coppicelaw9_CutBranchesAlways.j2]
            rw [if_neg (by simp), if_neg (by simp), if_pos (by omega), if_pos (by omega), hrd, hcast]
            congr 1
            funext t
            by_cases ct : t < 0
            · rw [if_pos ct, if_pos ct, if_pos (by omega)]
              refine bind_one _ _ _ ?_
              rw [if_pos (by simp; omega)]
            · rw [if_neg ct, if_neg ct, if_pos (by omega)]
          by_cases ct : lx x l[i] < 0
          · refine Ev.congr (fun k => ?_) (ih (i + 1) (acc ++ [x] ++ [l[i]]) true (by omega) (by simp; omega) hk' ⟨a, [l[i]], ?_, hu, fun w hw2 => by rw [List.mem_singleton.1 hw2]; exact ct⟩)
            · show (if _ then _ else _) = _
              rw [if_pos ct]
            · rw [if_pos rfl]
              refine ⟨by rw [e1]; simp, by rw [e3, List.take_succ_eq_append_getElem hlt], by omega, by omega, ?_⟩
              exact ct
          · have hix : lx l[i] x < 0 := by
              rcases Int.lt_or_le 0 (lx x l[i]) with h | h
              · exact lx_flip _ _ h
              · have h0 : lx x l[i] = 0 := by omega
                have := lx_eq _ _ h0
                rw [← this] at c0
                exact absurd (lx_self x) c0
            refine Ev.congr (fun k => ?_) (ih (i + 1) (acc ++ [l[i]]) false (by omega) (by simp; omega) hk' ⟨acc ++ [l[i]], [], ?_, fun u hu2 => ?_, by simp⟩)
            · show (if _ then _ else _) = _
              rw [if_neg ct]
            · rw [if_neg (by simp)]
              exact ⟨rfl, rfl, by rw [e1, e3, List.take_succ_eq_append_getElem hlt]⟩
            · rcases List.mem_append.1 hu2 with h | h
              · rw [e1] at h; exact hu u h
              · rw [List.mem_singleton.1 h]; exact hix
      rcases Nat.eq_zero_or_pos i with h0 | h0
      · refine Ev.step (fun k => ?_) (second (fun h => by omega))
        simp only [coppicelaw9_CutBranchesAlways.l0]
        rw [if_pos (by omega), if_pos (by omega), hrd, hv]
        refine bind_one _ _ _ ?_
        rw [if_pos rfl, if_neg (by omega)]
      · have hrd' := rd_list l (i - 1) (by omega)
        have hm : wrap64 ((i : Int) - 1) = ((i - 1 : Nat) : Int) := by rw [wrap_id _ (by omega) (by omega)]; omega
        have hc := compare_f (l[i - 1]'(by omega)) l[i] (hs.2 _ (List.getElem_mem _))
        refine Ev.step (f := fun k => (coppiceref3_Compare.f k (l[i - 1]'(by omega)) l[i]).bind fun t => if t ≥ 0 then coppicelaw9_CutBranchesAlways.j2 k l x true acc done i true else (coppiceref3_Compare.f k l[i] x).bind fun t => coppicelaw9_CutBranchesAlways.j2 k l x true acc done i (t == 0)) (fun k => ?_) (Ev.bind hc ?_)
        · simp only [coppicelaw9_CutBranchesAlways.l0]
          rw [if_pos (by omega), if_pos (by omega), hrd, hv]
          refine bind_one _ _ _ ?_
          rw [if_pos rfl, if_pos (by omega), hm, if_pos (by omega), if_pos (by omega), hrd']
        by_cases c4 : lx (l[i - 1]'(by omega)) l[i] ≥ 0
        · refine Ev.congr (fun k => ?_) no
          show (if _ then _ else _) = _
          rw [if_pos c4]
        · refine Ev.congr (fun k => ?_) (second (fun _ => by omega))
          show (if _ then _ else _) = _
          rw [if_neg c4]
    · rw [decide_eq_false c] at hv
      refine Ev.step (fun k => ?_) no
      simp only [coppicelaw9_CutBranchesAlways.l0]
      rw [if_pos (by omega), if_pos (by omega), hrd, hv]
      refine bind_one _ _ _ ?_
      rw [if_neg (by simp)]
theorem CutBranchesAlways (l : List (List Int)) (x : List Int) (hL : Blists l) (_hX : Bbytes x) : ∃ k, coppicelaw9_CutBranchesAlways.f k l x = some true := by
  have hj : ∀ k, coppicelaw9_CutBranchesAlways.j0 (k + 1) l x true true = some true := fun k => by simp [coppicelaw9_CutBranchesAlways.j0]
  unfold coppicelaw9_CutBranchesAlways.f coppicelaw9_first.f
  by_cases h1 : (l.length : Int) > 400
  · refine ⟨1, ?_⟩
    refine bind_one _ _ _ ?_
    unfold coppiceref3_Valid.f
    by_cases c : (x.length : Int) ≥ 1
    · rw [if_pos c]
      refine bind_one _ _ _ ?_
      rw [if_pos h1]; exact hj 0
    · rw [if_neg c]
      refine bind_one _ _ _ ?_
      rw [if_pos h1]; exact hj 0
  have hs := hL.small (by omega)
  by_cases c : 1 ≤ x.length ∧ x.length ≤ 255
  · have hv : coppiceref3_Valid.f x = some true := by
      unfold coppiceref3_Valid.f
      rw [if_pos (by omega), decide_eq_true (by omega)]
    have fin : Ev (fun k => (coppiceref5_Size.f k l).bind fun t => coppicelaw9_CutBranchesAlways.j0 k l x true (decide (t > 4092))) true := by
      refine Ev.bind (rsizeB_f l hs) ?_
      by_cases c2 : sizeB l ≤ 4092
      · rw [decide_eq_false (by omega)]
        refine Ev.step (fun k => ?_) (loop l x (by omega) hs c.2 c2 l.length 0 [] false (by omega) (by simp) (by simp) ⟨[], [], by simp, by simp, by simp⟩)
        simp only [coppicelaw9_CutBranchesAlways.j0]
        rw [if_neg (by simp)]
        rfl
      · rw [decide_eq_true (by omega)]
        exact Ev.step (f := fun _ => some true) (fun k => hj k) (Ev.now _)
    obtain ⟨K, h⟩ := fin
    refine ⟨K, ?_⟩
    refine bind_one _ _ _ ?_
    rw [hv]
    refine bind_one _ _ _ ?_
    rw [if_neg h1, if_pos rfl]
    exact h K (Nat.le_refl _)
  · refine ⟨1, ?_⟩
    refine bind_one _ _ _ ?_
    unfold coppiceref3_Valid.f
    by_cases c3 : (x.length : Int) ≥ 1
    · rw [if_pos c3, decide_eq_false (by omega)]
      refine bind_one _ _ _ ?_
      rw [if_neg h1, if_neg (by simp)]; exact hj 0
    · rw [if_neg c3]
      refine bind_one _ _ _ ?_
      rw [if_neg h1, if_neg (by simp)]; exact hj 0
end Go.Proofs.Yteaiefkadmlabaa.Pure
