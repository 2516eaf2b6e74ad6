import Derived.Test.YteaiefkadmlabaaM6
import Derived.Test.YteaiefkadmlabaaP17
/-! There always is a cut of a leaf. -/
namespace Go.Proofs.Yteaiefkadmlabaa.Pure
open Go.RowKit Go.Proofs.YteaiefkadmlabaaW.PrintWords Go.Proofs.YteaiefkadmlabaaW.PrintMore Go.Proofs.Yteaiefkadmlabaa.P
/-- The items with x among them. -/
def lay (x : It) : Bool → List It → List It
  | done, [] => if done = true then [] else [x]
  | done, y :: ys => if lx y.f0 x.f0 ≥ 0 ∧ done = false then (if lx y.f0 x.f0 = 0 then x :: lay x true ys else x :: y :: lay x true ys) else (if lx y.f0 x.f0 = 0 then lay x done ys else y :: lay x done ys)
theorem lay_sub (x : It) : ∀ l, (lay x true l).Sublist l
  | [] => by simp [lay]
  | y :: ys => by
    have h := lay_sub x ys
    simp only [lay]
    rw [if_neg (by simp)]
    split
    · exact h.cons y
    · exact h.cons_cons y
abbrev Rises (u v : It) : Prop := lx u.f0 v.f0 < 0
theorem lay_parts (x : It) : ∀ l : List It, l.Pairwise Rises → ∃ a b, lay x false l = a ++ x :: b ∧ (a ++ b).Sublist l ∧ (∀ u ∈ a, lx u.f0 x.f0 < 0) ∧ (∀ w ∈ b, lx x.f0 w.f0 < 0)
  | [], _ => ⟨[], [], by simp [lay], by simp, by simp, by simp⟩
  | y :: ys, h => by
    rw [List.pairwise_cons] at h
    simp only [lay]
    have hsub := lay_sub x ys
    by_cases c : lx y.f0 x.f0 ≥ 0
    · rw [if_pos ⟨c, trivial⟩]
      by_cases c0 : lx y.f0 x.f0 = 0
      · rw [if_pos c0]
        have e := lx_eq _ _ c0
        refine ⟨[], lay x true ys, rfl, hsub.cons y, by simp, fun w hw => ?_⟩
        have := h.1 w (hsub.subset hw)
        rw [← e]
        exact this
      · rw [if_neg c0]
        have e := lx_flip y.f0 x.f0 (by omega)
        refine ⟨[], y :: lay x true ys, rfl, hsub.cons_cons y, by simp, fun w hw => ?_⟩
        rcases List.mem_cons.1 hw with rfl | hw
        · exact e
        · exact lx_trans _ _ _ e (h.1 w (hsub.subset hw))
    · rw [if_neg (by intro h2; exact c h2.1), if_neg (by omega)]
      obtain ⟨a, b, h1, h2, h3, h4⟩ := lay_parts x ys h.2
      refine ⟨y :: a, b, by rw [h1]; rfl, h2.cons_cons y, fun u hu => ?_, h4⟩
      rcases List.mem_cons.1 hu with rfl | hu
      · omega
      · exact h3 u hu
theorem laid_loop (x : It) (l : List It) (hs : Small l) (d : Nat) : ∀ (i : Nat) (acc : List It) (done : Bool), i + d = l.length → acc.length ≤ i + 1 → (done = false → acc.length ≤ i) → Ev (fun k => coppicelaw9_laid.l0 k l acc done i x.f0 x.f1 x.f2 x.f3) (acc ++ lay x done (l.drop i)) := by
  have hlen := hs.1
  induction d with
  | zero =>
    intro i acc done hi ha hd
    rw [List.drop_eq_nil_of_le (by omega)]
    refine Ev.step (f := fun _ => some (acc ++ lay x done [])) (fun k => ?_) (Ev.now _)
    simp only [coppicelaw9_laid.l0, lay]
    rw [if_neg (by omega)]
    cases done with
    | true => simp
    | false =>
      rw [if_neg (by simp), if_pos (by omega), if_neg (by simp)]
  | succ d ih =>
    intro i acc done hi ha hd
    have hlt : i < l.length := by omega
    have hk := hs.2 l[i] (List.getElem_mem hlt)
    have hcast : wrap64 ((i : Int) + 1) = ((i + 1 : Nat) : Int) := by rw [wrap_id _ (by omega) (by omega)]; rfl
    have hc := compare_f l[i].f0 x.f0 hk
    have hrd := rd_item l i hlt
    rw [List.drop_eq_getElem_cons hlt]
    simp only [lay]
    refine Ev.step (f := fun k => (coppiceref3_Compare.f k l[i].f0 x.f0).bind fun t => if t ≥ 0 then coppicelaw9_laid.j1 k l acc done i t (!done) x.f0 x.f1 x.f2 x.f3 else coppicelaw9_laid.j1 k l acc done i t false x.f0 x.f1 x.f2 x.f3) (fun k => ?_) (Ev.bind hc ?_)
    · simp only [coppicelaw9_laid.l0]
      rw [if_pos (by omega), if_pos (by omega), hrd]
    by_cases c : lx l[i].f0 x.f0 ≥ 0 ∧ done = false
    · obtain ⟨c1, rfl⟩ := c
      have hd' := hd rfl
      rw [if_pos ⟨c1, rfl⟩]
      by_cases c0 : lx l[i].f0 x.f0 = 0
      · rw [if_pos c0]
        have h := ih (i + 1) (acc ++ [x]) true (by omega) (by simp; omega) (by simp)
        rw [show acc ++ x :: lay x true (l.drop (i + 1)) = acc ++ [x] ++ lay x true (l.drop (i + 1)) by simp]
        refine Ev.congr (f := fun k => coppicelaw9_laid.j1 k l acc false i (lx l[i].f0 x.f0) true x.f0 x.f1 x.f2 x.f3) (fun k => by show (if _ then _ else _) = _; rw [if_pos c1]; rfl) (Ev.step (fun k => ?_) h)
        simp only [coppicelaw9_laid.j1]
        rw [if_pos trivial, if_pos (by omega)]
        refine bind_one _ _ _ ?_
        rw [if_pos c0, hcast]
      · rw [if_neg c0]
        have h := ih (i + 1) (acc ++ [x] ++ [l[i]]) true (by omega) (by simp; omega) (by simp)
        rw [show acc ++ x :: l[i] :: lay x true (l.drop (i + 1)) = acc ++ [x] ++ [l[i]] ++ lay x true (l.drop (i + 1)) by simp]
        refine Ev.congr (f := fun k => coppicelaw9_laid.j1 k l acc false i (lx l[i].f0 x.f0) true x.f0 x.f1 x.f2 x.f3) (fun k => by show (if _ then _ else _) = _; rw [if_pos c1]; rfl) (Ev.step (fun k => ?_) h)
        simp only [coppicelaw9_laid.j1]
        rw [if_pos trivial, if_pos (by omega)]
        refine bind_one _ _ _ ?_
        rw [if_neg c0, if_pos (by omega), if_pos (by omega), if_pos (by simp; omega), hcast, hrd]
    · rw [if_neg c]
      have hj : ∀ k, (if lx l[i].f0 x.f0 ≥ 0 then coppicelaw9_laid.j1 k l acc done i (lx l[i].f0 x.f0) (!done) x.f0 x.f1 x.f2 x.f3 else coppicelaw9_laid.j1 k l acc done i (lx l[i].f0 x.f0) false x.f0 x.f1 x.f2 x.f3) = coppicelaw9_laid.j1 k l acc done i (lx l[i].f0 x.f0) false x.f0 x.f1 x.f2 x.f3 := fun k => by
        by_cases c1 : lx l[i].f0 x.f0 ≥ 0
        · have hd1 : done = true := by
            cases done with
            | true => rfl
            | false => exact absurd ⟨c1, rfl⟩ c
          subst hd1
          rw [if_pos c1]
          rfl
        · rw [if_neg c1]
      by_cases c0 : lx l[i].f0 x.f0 = 0
      · rw [if_pos c0]
        have h := ih (i + 1) acc done (by omega) (by omega) (fun h => by have := hd h; omega)
        refine Ev.congr hj (Ev.step (fun k => ?_) h)
        simp only [coppicelaw9_laid.j1]
        rw [if_neg (by simp), if_pos c0, hcast]
      · rw [if_neg c0]
        have h := ih (i + 1) (acc ++ [l[i]]) done (by omega) (by simp; omega) (fun h => by have := hd h; simp; omega)
        rw [show acc ++ l[i] :: lay x done (l.drop (i + 1)) = acc ++ [l[i]] ++ lay x done (l.drop (i + 1)) by simp]
        refine Ev.congr hj (Ev.step (fun k => ?_) h)
        simp only [coppicelaw9_laid.j1]
        rw [if_neg (by simp), if_neg c0, if_pos (by omega), if_pos (by omega), if_pos (by omega), hcast, hrd]
theorem laid_f (x : It) (l : List It) (hs : Small l) : Ev (fun k => coppicelaw9_laid.f k l x.f0 x.f1 x.f2 x.f3) (lay x false l) := by
  have h := laid_loop x l hs l.length 0 [] false (by omega) (by simp) (by simp)
  rwa [List.drop_zero, List.nil_append] at h
def Good (l : List It) : Prop := (∀ y ∈ l, y.f0.length ≤ 255) ∧ l.Pairwise Rises
theorem Good.snoc {l : List It} {i : Nat} (h : i < l.length) (hg : Good (l.take i)) (hk : l[i].f0.length ≤ 255) (hr : ∀ h0 : 0 < i, Rises (l[i - 1]'(by omega)) l[i]) : Good (l.take (i + 1)) := by
  rw [List.take_succ_eq_append_getElem h]
  refine ⟨fun y hy => ?_, ?_⟩
  · rcases List.mem_append.1 hy with h1 | h1
    · exact hg.1 y h1
    · rw [List.mem_singleton.1 h1]; exact hk
  · rw [List.pairwise_append]
    refine ⟨hg.2, by simp, fun u hu v hv => ?_⟩
    rw [List.mem_singleton.1 hv]
    rcases Nat.eq_zero_or_pos i with h0 | h0
    · subst h0; simp at hu
    · have hr' := hr h0
      have e : l.take i = l.take (i - 1) ++ [l[i - 1]'(by omega)] := by
        have := List.take_succ_eq_append_getElem (l := l) (i := i - 1) (by omega)
        rwa [show i - 1 + 1 = i by omega] at this
      have hp := hg.2
      rw [e] at hu hp
      rcases List.mem_append.1 hu with h1 | h1
      · exact lx_trans _ _ _ ((List.pairwise_append.1 hp).2.2 u h1 _ (by simp)) hr'
      · rw [List.mem_singleton.1 h1]; exact hr'
theorem rises_loop (l : List It) (hs : Small l) (d : Nat) : ∀ i : Nat, i + d = l.length → Good (l.take i) → ∃ b : Bool, Ev (fun k => coppicelaw9_rises.l0 k l i) b ∧ (b = true → Good l ∧ sizeL l ≤ 4092) := by
  have hlen := hs.1
  induction d with
  | zero =>
    intro i hi hg
    rw [List.take_of_length_le (by omega)] at hg
    refine ⟨decide ((sizeL l : Int) ≤ 4092), Ev.step (f := fun k => (coppiceref4_Size.f k l).bind fun t => some (decide (t ≤ 4092))) (fun k => ?_) (Ev.bind (rsize_f l hs) (Ev.now _)), fun h => ⟨hg, ?_⟩⟩
    · simp only [coppicelaw9_rises.l0]
      rw [if_neg (by omega)]
    · have := of_decide_eq_true h
      omega
  | succ d ih =>
    intro i hi hg
    have hlt : i < l.length := by omega
    have hk := hs.2 l[i] (List.getElem_mem hlt)
    have hrd := rd_item l i hlt
    have hcast : wrap64 ((i : Int) + 1) = ((i + 1 : Nat) : Int) := by rw [wrap_id _ (by omega) (by omega)]; rfl
    have no : Ev (fun k => coppicelaw9_rises.j1 k l i true) false := Ev.step (f := fun _ => some false) (fun k => by simp [coppicelaw9_rises.j1]) (Ev.now _)
    have head : ∀ k, coppicelaw9_rises.l0 (k + 1) l i = (coppiceref3_Valid.f l[i].f0).bind fun t => if t = true then (if l[i].f2 < 0 then coppicelaw9_rises.j1 k l i true else coppicelaw9_rises.j1 k l i (decide (l[i].f2 > 262144))) else coppicelaw9_rises.j1 k l i true := fun k => by
      simp only [coppicelaw9_rises.l0]
      rw [if_pos (by omega), if_pos (by omega), hrd]
    have hv : coppiceref3_Valid.f l[i].f0 = some (decide (1 ≤ l[i].f0.length ∧ l[i].f0.length ≤ 255)) := by
      unfold coppiceref3_Valid.f
      by_cases c : 1 ≤ l[i].f0.length
      · rw [if_pos (by omega)]
        congr 1
        by_cases c2 : l[i].f0.length ≤ 255
        · rw [decide_eq_true (by omega), decide_eq_true ⟨c, c2⟩]
        · rw [decide_eq_false (by omega), decide_eq_false (fun h => c2 h.2)]
      · rw [if_neg (by omega), decide_eq_false (fun h => c h.1)]
    rw [hv] at head
    by_cases c : 1 ≤ l[i].f0.length ∧ l[i].f0.length ≤ 255
    · rw [decide_eq_true c] at head
      by_cases c2 : l[i].f2 < 0
      · refine ⟨false, Ev.step (fun k => ?_) no, by simp⟩
        rw [head]
        refine bind_one _ _ _ ?_
        rw [if_pos rfl, if_pos c2]
      · by_cases c3 : l[i].f2 > 262144
        · refine ⟨false, Ev.step (fun k => ?_) no, by simp⟩
          rw [head]
          refine bind_one _ _ _ ?_
          rw [if_pos rfl, if_neg c2, decide_eq_true c3]
        · have st : ∀ k, coppicelaw9_rises.l0 (k + 1) l i = coppicelaw9_rises.j1 k l i false := fun k => by
            rw [head]
            refine bind_one _ _ _ ?_
            rw [if_pos rfl, if_neg c2, decide_eq_false c3]
          rcases Nat.eq_zero_or_pos i with h0 | h0
          · obtain ⟨b, hb, hr⟩ := ih (i + 1) (by omega) (hg.snoc hlt c.2 (fun h => by omega))
            refine ⟨b, Ev.step st (Ev.step (fun k => ?_) hb), hr⟩
            simp only [coppicelaw9_rises.j1]
            rw [if_neg (by simp), if_neg (by omega), hcast]
          · have hc := compare_f (l[i - 1]'(by omega)).f0 l[i].f0 (hs.2 _ (List.getElem_mem _))
            have hrd' := rd_item l (i - 1) (by omega)
            have hm : wrap64 ((i : Int) - 1) = ((i - 1 : Nat) : Int) := by rw [wrap_id _ (by omega) (by omega)]; omega
            have st2 : ∀ k, coppicelaw9_rises.j1 (k + 1) l i false = (coppiceref3_Compare.f k (l[i - 1]'(by omega)).f0 l[i].f0).bind fun t => if t ≥ 0 then some false else coppicelaw9_rises.l0 k l ((i + 1 : Nat) : Int) := fun k => by
              simp only [coppicelaw9_rises.j1]
              rw [if_neg (by simp), if_pos (by omega), hm, if_pos (by omega), if_pos (by omega), if_pos (by omega), if_pos (by omega), hrd, hrd', hcast]
            by_cases c4 : lx (l[i - 1]'(by omega)).f0 l[i].f0 ≥ 0
            · refine ⟨false, Ev.step st (Ev.step st2 (Ev.bind hc ?_)), by simp⟩
              refine Ev.congr (f := fun _ => some false) (fun k => ?_) (Ev.now _)
              show (if _ then _ else _) = _
              rw [if_pos c4]
            · obtain ⟨b, hb, hr⟩ := ih (i + 1) (by omega) (hg.snoc hlt c.2 (fun h => by show lx _ _ < 0; omega))
              refine ⟨b, Ev.step st (Ev.step st2 (Ev.bind hc ?_)), hr⟩
              refine Ev.congr (fun k => ?_) hb
              show (if _ then _ else _) = _
              rw [if_neg c4]
    · rw [decide_eq_false c] at head
      refine ⟨false, Ev.step (fun k => ?_) no, by simp⟩
      rw [head]
      refine bind_one _ _ _ ?_
      rw [if_neg (by simp)]
theorem rises_f (l : List It) (hs : Small l) : ∃ b : Bool, Ev (fun k => coppicelaw9_rises.f k l) b ∧ (b = true → Good l ∧ sizeL l ≤ 4092) :=
  rises_loop l hs l.length 0 (by omega) ⟨by simp, by simp⟩
theorem main_part (l : List It) (x : It) (hl : l.length ≤ 400) (hs : Small l) (hx : x.f0.length ≤ 255) (hg : Good l) (hfit : sizeL l ≤ 4092) : Ev (fun k => coppicelaw9_CutAlways.j0 k l true false x.f0 x.f1 x.f2 x.f3) true := by
  obtain ⟨a, b, hab, hsub, hu, hw⟩ := lay_parts x l hg.2
  have hln := hsub.length_le
  rw [List.length_append] at hln
  obtain ⟨L, hL⟩ : ∃ L, L = lay x false l := ⟨_, rfl⟩
  rw [← hL] at hab
  have hk : ∀ y ∈ L, y.f0.length ≤ 255 := fun y hy => by
    rw [hab] at hy
    rcases List.mem_append.1 hy with h | h
    · exact hg.1 y (hsub.subset (List.mem_append_left _ h))
    · rcases List.mem_cons.1 h with rfl | h
      · exact hx
      · exact hg.1 y (hsub.subset (List.mem_append_right _ h))
  have hLl : L.length ≤ 401 := by rw [hab, List.length_append, List.length_cons]; omega
  have hsL : Small L := ⟨by omega, fun y hy => by have := hk y hy; omega⟩
  have e1 := laid_f x l hs
  rw [← hL] at e1
  have e2 := size_f L hsL
  have e3 := leaf_f L hsL
  have e4 := rsize_f L hsL
  refine Ev.step (f := fun k => (coppicelaw9_laid.f k l x.f0 x.f1 x.f2 x.f3).bind fun t => (leaf_Size.f k t).bind fun u => (cut_Leaf.f k t).bind fun v => (coppiceref4_Size.f k t).bind fun w => coppicelaw9_CutAlways.j1 k t u v (u != w)) (fun k => ?_) (Ev.bind e1 (Ev.bind e2 (Ev.bind e3 (Ev.bind e4 ?_))))
  · simp only [coppicelaw9_CutAlways.j0]
    rw [if_neg (by simp)]
    rfl
  rw [show ((sizeL L : Int) != (sizeL L : Int)) = false by simp]
  by_cases c : sizeL L ≤ 4092
  · refine Ev.step (f := fun _ => some true) (fun k => ?_) (Ev.now _)
    simp only [coppicelaw9_CutAlways.j1]
    rw [if_neg (by simp), if_pos (by omega)]
  · have hex : ∃ i, 1 ≤ i ∧ i < L.length ∧ sizeL (L.take i) ≤ 4092 ∧ sizeL (L.drop i) ≤ 4092 := by
      rw [hab] at hk c ⊢
      exact leaf_cut_exists a b x hk (Nat.le_trans (sizeL_le hsub) hfit) (by omega) hu hw
    obtain ⟨j, hj1, hj2, hj3, hj4⟩ := hex
    have hne : leafCut L ≠ 0 := srch_some (AL L) (CL L) (L.length - 1) 0 0 1 (Nat.le_refl _) (.inr ⟨j, hj1, by omega, hj3, hj4⟩)
    have hgood : 1 ≤ leafCut L ∧ leafCut L < L.length ∧ sizeL (L.take (leafCut L)) ≤ 4092 ∧ sizeL (L.drop (leafCut L)) ≤ 4092 := srch_good (AL L) (CL L) (fun i => 1 ≤ i ∧ i < L.length ∧ sizeL (L.take i) ≤ 4092 ∧ sizeL (L.drop i) ≤ 4092) (L.length - 1) 0 0 1 (fun h => absurd rfl h) (fun i h1 h2 h3 h4 => ⟨h1, by omega, h3, h4⟩) hne
    obtain ⟨i, hi⟩ : ∃ i, i = leafCut L := ⟨_, rfl⟩
    rw [← hi] at hgood ⊢
    obtain ⟨g1, g2, g3, g4⟩ := hgood
    have s1 := size_f _ (hsL.take i)
    have s2 := size_f _ (hsL.drop i)
    have s3 := joinL_f (L.take i) (L.drop i) (by rw [List.take_append_drop]; exact hsL) (by rw [List.length_take]; omega) (by rw [List.length_drop]; omega)
    rw [List.take_append_drop, decide_eq_false (show ¬ sizeL L ≤ 3000 by omega)] at s3
    refine Ev.step (f := fun k => coppicelaw9_CutAlways.j2 k L i false) (fun k => ?_) (Ev.step (f := fun k => (leaf_Size.f k (L.take i)).bind fun t => (leaf_Size.f k (L.drop i)).bind fun u => (cut_JoinLeaves.f k (L.take i) (L.drop i)).bind fun v => if t ≤ 4092 then if u ≤ 4092 then some (!v) else some false else some false) (fun k => ?_) (Ev.bind s1 (Ev.bind s2 (Ev.bind s3 ?_))))
    · simp only [coppicelaw9_CutAlways.j1]
      rw [if_neg (by simp), if_neg (by omega), if_neg (by omega), decide_eq_false (by omega)]
    · simp only [coppicelaw9_CutAlways.j2]
      rw [if_neg (by simp), if_pos (by omega), if_pos (by omega), Int.toNat_natCast]
    · refine Ev.congr (f := fun _ => some true) (fun k => ?_) (Ev.now _)
      show (if _ then _ else _) = _
      rw [if_pos (by omega), if_pos (by omega)]
      rfl
theorem CutAlways (l : List It) (x : It) (hL : Bitems l) (hX : Bitem x) : ∃ k, coppicelaw9_CutAlways.f k l x.f0 x.f1 x.f2 x.f3 = some true := by
  have hj : ∀ k, coppicelaw9_CutAlways.j0 (k + 1) l true true x.f0 x.f1 x.f2 x.f3 = some true := fun k => by simp [coppicelaw9_CutAlways.j0]
  unfold coppicelaw9_CutAlways.f coppicelaw9_first.f
  simp only [Option.bind_some]
  by_cases h1 : (l.length : Int) > 400
  · exact ⟨1, by rw [if_pos h1]; exact hj 0⟩
  have hs := hL.small (by omega)
  have hs1 : Small [x] := ⟨by simp, fun y hy => by rw [List.mem_singleton.1 hy]; exact hX.1.2⟩
  obtain ⟨b, hb, hbt⟩ := rises_f l hs
  obtain ⟨b', hb', hbt'⟩ := rises_f [x] hs1
  have fin : Ev (fun k => (coppicelaw9_rises.f k l).bind fun t => if t = true then (coppicelaw9_rises.f k [x]).bind fun u => coppicelaw9_CutAlways.j0 k l true (!u) x.f0 x.f1 x.f2 x.f3 else coppicelaw9_CutAlways.j0 k l true true x.f0 x.f1 x.f2 x.f3) true := by
    have no : Ev (fun k => coppicelaw9_CutAlways.j0 k l true true x.f0 x.f1 x.f2 x.f3) true := Ev.step (f := fun _ => some true) (fun k => hj k) (Ev.now _)
    refine Ev.bind hb ?_
    cases b with
    | false => exact no
    | true =>
      refine Ev.bind hb' ?_
      cases b' with
      | false => exact no
      | true => exact main_part l x (by omega) hs ((hbt' rfl).1.1 x (by simp)) (hbt rfl).1 (hbt rfl).2
  obtain ⟨K, h⟩ := fin
  refine ⟨K, ?_⟩
  rw [if_neg h1]
  exact h K (Nat.le_refl _)
end Go.Proofs.Yteaiefkadmlabaa.Pure
