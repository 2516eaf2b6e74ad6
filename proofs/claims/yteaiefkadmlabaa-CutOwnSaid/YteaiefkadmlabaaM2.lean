import Derived.Test.YteaiefkadmlabaaM1
import Derived.Test.YteaiefkadmlabaaP13
/-! Plain facts on the sizes of branches: what the program's Size and the document's Size come to. -/
namespace Go.Proofs.Yteaiefkadmlabaa.P
open Go.RowKit Go.Proofs.YteaiefkadmlabaaW.PrintWords Go.Proofs.YteaiefkadmlabaaW.PrintMore
def cellB (p : Nat) (s : List Int) : Nat := 10 + vlen (s.length - p) + (s.length - p)
def sizeB (l : List (List Int)) : Nat := 12 + vlen (cmnAll l) + cmnAll l + (l.map (cellB (cmnAll l))).sum
def SmallB (l : List (List Int)) : Prop := l.length ≤ 2000 ∧ ∀ x ∈ l, x.length ≤ 140737488351300
theorem cellB_le (p : Nat) (s : List Int) (h : s.length ≤ 140737488351300) : cellB p s ≤ 281474976710656 := by
  have h1 := vlen_u64 (x := s.length - p) (by omega)
  unfold cellB
  omega
theorem rd_list (l : List (List Int)) (i : Nat) (h : i < l.length) : rd_L1 l (i : Int) = l[i] := by
  simp [rd_L1, h]
theorem drop_sumB (f : List Int → Nat) (l : List (List Int)) (i : Nat) (h : i < l.length) : ((l.drop i).map f).sum = f l[i] + ((l.drop (i + 1)).map f).sum := by
  rw [List.drop_eq_getElem_cons h, List.map_cons, List.sum_cons]
theorem cmnAll_small (l : List (List Int)) (hs : SmallB l) : cmnAll l ≤ 140737488351300 := by
  cases l with
  | nil => exact Nat.zero_le _
  | cons x l => exact Nat.le_trans (cmnAll_le (x :: l) x (List.mem_cons_self ..)) (hs.2 x (List.mem_cons_self ..))
theorem sizeB_loop (p : Nat) (l : List (List Int)) (hs : SmallB l) (hp : ∀ x ∈ l, p ≤ x.length) (d : Nat) : ∀ (i n : Nat), i + d = l.length → n ≤ (i + 2) * 281474976710656 →
    Ev (fun k => branch_Size.l0 k p n l l.length i) ((n + ((l.drop i).map (cellB p)).sum : Nat) : Int) := by
  have hlen := hs.1
  induction d with
  | zero =>
    intro i n hi hn
    refine Ev.step (f := fun _ => some (n : Int)) (fun k => ?_) ?_
    · simp only [branch_Size.l0]
      rw [if_neg (by omega)]
    · rw [List.drop_eq_nil_of_le (by omega)]
      exact Ev.now _
  | succ d ih =>
    intro i n hi hn
    have hlt : i < l.length := by omega
    have hkey := hs.2 l[i] (List.getElem_mem hlt)
    have hpk := hp l[i] (List.getElem_mem hlt)
    have hc := cellB_le p l[i] hkey
    have hv1 := vlen_u64 (x := l[i].length - p) (by omega)
    have hrec := ih (i + 1) (n + cellB p l[i]) (by omega) (by omega)
    rw [drop_sumB _ _ _ hlt, ← Nat.add_assoc]
    obtain ⟨K1, h1⟩ := vlen_f (l[i].length - p) (by omega)
    obtain ⟨K3, h3⟩ := hrec
    refine ⟨K1 + K3 + 1, fun k hk => ?_⟩
    obtain ⟨k, rfl⟩ : ∃ m, k = m + 1 := ⟨k - 1, by omega⟩
    have g1 : wire_VLen.f k ((l[i].length - p : Nat) : Int) = some (vlen (l[i].length - p) : Int) := h1 k (by omega)
    have e1 : (l[i].length : Int) - p = ((l[i].length - p : Nat) : Int) := by omega
    have e2 : ((l[i].length - p : Nat) : Int) ≤ 140737488351300 := by omega
    simp only [branch_Size.l0]
    rw [if_pos (by omega), if_pos (by omega), if_pos (by omega), rd_list l i hlt, wrap_id ((l[i].length : Int) - p) (by omega) (by omega), e1, u64_id _ (by omega) (by omega), g1]
    simp only [Option.bind_some]
    rw [wrap_id (10 + (vlen (l[i].length - p) : Int)) (by omega) (by omega), wrap_id (10 + (vlen (l[i].length - p) : Int) + (l[i].length : Int)) (by omega) (by omega),
      wrap_id (10 + (vlen (l[i].length - p) : Int) + (l[i].length : Int) - (p : Int)) (by omega) (by omega), wrap_id ((i : Int) + 1) (by omega) (by omega), wrap_id _ (by omega) (by omega)]
    rw [← h3 k (by omega)]
    show branch_Size.l0 k _ _ _ _ _ = branch_Size.l0 k _ _ _ _ _
    congr 1
    unfold cellB
    omega
theorem sizeB_f (l : List (List Int)) (hs : SmallB l) : Ev (fun k => branch_Size.f k l) (sizeB l : Int) := by
  have hp := cmnAll_small l hs
  have hv := vlen_u64 (x := cmnAll l) (by omega)
  obtain ⟨K2, h2⟩ := vlen_f (cmnAll l) (by omega)
  obtain ⟨K3, h3⟩ := sizeB_loop (cmnAll l) l hs (cmnAll_le l) l.length 0 (12 + vlen (cmnAll l) + cmnAll l) (by omega) (by omega)
  refine ⟨K2 + K3, fun k hk => ?_⟩
  have g2 : wire_VLen.f k (cmnAll l : Int) = some (vlen (cmnAll l) : Int) := h2 k (by omega)
  have g3 := h3 k (by omega)
  show branch_Size.f k l = _
  unfold branch_Size.f keys_CommonAll.f
  simp only [Option.bind_some]
  rw [u64_id _ (by omega) (by omega), g2]
  simp only [Option.bind_some]
  rw [wrap_id (12 + (vlen (cmnAll l) : Int)) (by omega) (by omega), wrap_id _ (by omega) (by omega)]
  exact g3
/-! ### the document's -/
theorem prefB_loop (a : List Int) (l' : List (List Int)) (hs : SmallB (a :: l')) (d : Nat) : ∀ (i n : Nat), i + d = (a :: l').length → 1 ≤ i → n ≤ a.length → cmnFrom a n ((a :: l').drop i) = cmnAll (a :: l') →
    Ev (fun k => coppiceref5_Prefix.l0 k (a :: l') n i) (cmnAll (a :: l') : Int) := by
  have hlen := hs.1
  induction d with
  | zero =>
    intro i n hi h1 hn hc
    refine Ev.step (f := fun _ => some (n : Int)) (fun k => ?_) ?_
    · simp only [coppiceref5_Prefix.l0]
      rw [if_neg (by omega)]
    · rw [List.drop_eq_nil_of_le (by omega)] at hc
      rw [← hc]
      exact Ev.now _
  | succ d ih =>
    intro i n hi h1 hn hc
    have hlt : i < (a :: l').length := by omega
    have hkey := hs.2 _ (List.getElem_mem hlt)
    have hkey0 := hs.2 a (List.mem_cons_self ..)
    obtain ⟨s, hsx⟩ : ∃ s, s = (a :: l')[i] := ⟨_, rfl⟩
    rw [← hsx] at hkey
    have hnext : Ev (fun k => coppiceref5_Prefix.l0 k (a :: l') ((cmn (a.take n) s : Nat) : Int) ((i + 1 : Nat) : Int)) (cmnAll (a :: l') : Int) := by
      refine ih (i + 1) _ (by omega) (by omega) ?_ ?_
      · exact Nat.le_trans (cmn_take_le _ _ _) hn
      · rw [List.drop_eq_getElem_cons hlt, ← hsx] at hc
        exact hc
    have hrd := rd_list _ i hlt
    rw [← hsx] at hrd
    have inner : ∀ (e j : Nat), j + e = min n s.length → cmn (a.take n) s = j + cmn ((a.take n).drop j) (s.drop j) → Ev (fun k => coppiceref5_Prefix.l1 k (a :: l') ((min n s.length : Nat) : Int) i j) (cmnAll (a :: l') : Int) := by
      intro e
      induction e with
      | zero =>
        intro j hj hinv
        have hat := cmn_at a s n j hn hinv
        have hst : cmn (a.take n) s = j := by
          rcases Nat.le_total n s.length with h | h
          · exact hat.2.2.1 (by omega)
          · exact hat.2.2.2 (by omega)
        rw [hst] at hnext
        refine Ev.step (f := fun k => coppiceref5_Prefix.l0 k (a :: l') (j : Int) ((i + 1 : Nat) : Int)) (fun k => ?_) hnext
        simp only [coppiceref5_Prefix.l1]
        rw [if_neg (by omega), wrap_id _ (by omega) (by omega)]
        rw [show min n s.length = j by omega]
        rfl
      | succ e ihe =>
        intro j hj hinv
        have hat := cmn_at a s n j hn hinv
        have hjs : j < s.length := by omega
        by_cases heq : a.getD j 0 = s.getD j 0
        · refine Ev.step (f := fun k => coppiceref5_Prefix.l1 k (a :: l') ((min n s.length : Nat) : Int) i ((j + 1 : Nat) : Int)) (fun k => ?_) (ihe (j + 1) (by omega) (hat.1 (by omega) hjs heq))
          simp only [coppiceref5_Prefix.l1]
          rw [if_pos (by omega), if_pos (by omega), if_pos (by omega), hrd, if_pos (by omega), if_pos (by omega), if_pos (by simp), show rd_L1 (a :: l') 0 = a from rfl, if_pos (by omega), if_pos (by simpa [rd] using heq.symm), wrap_id _ (by omega) (by omega)]
          rfl
        · have hst := hat.2.1 (by omega) hjs heq
          rw [hst] at hnext
          refine Ev.step (f := fun k => coppiceref5_Prefix.l1 k (a :: l') (j : Int) i ((j + 1 : Nat) : Int)) (fun k => ?_) (Ev.step (f := fun k => coppiceref5_Prefix.l0 k (a :: l') (j : Int) ((i + 1 : Nat) : Int)) (fun k => ?_) hnext)
          · simp only [coppiceref5_Prefix.l1]
            rw [if_pos (by omega), if_pos (by omega), if_pos (by omega), hrd, if_pos (by omega), if_pos (by omega), if_pos (by simp), show rd_L1 (a :: l') 0 = a from rfl, if_pos (by omega), if_neg (by intro hc2; exact heq (by simpa [rd] using hc2.symm)), wrap_id _ (by omega) (by omega)]
            rfl
          · simp only [coppiceref5_Prefix.l1]
            rw [if_neg (by omega), wrap_id _ (by omega) (by omega)]
            rfl
    refine Ev.step (f := fun k => coppiceref5_Prefix.l1 k (a :: l') ((min n s.length : Nat) : Int) i ((0 : Nat) : Int)) (fun k => ?_) (inner (min n s.length) 0 (by omega) (by simp))
    simp only [coppiceref5_Prefix.l0]
    rw [if_pos (by omega), if_pos (by omega), hrd, show mn (n : Int) (s.length : Int) = ((min n s.length : Nat) : Int) by unfold mn; split <;> omega]
    rfl
theorem prefB_f (l : List (List Int)) (hs : SmallB l) : Ev (fun k => coppiceref5_Prefix.f k l) (cmnAll l : Int) := by
  cases l with
  | nil => exact Ev.congr (f := fun _ => some 0) (fun k => rfl) (Ev.now _)
  | cons x l =>
    refine Ev.congr (f := fun k => coppiceref5_Prefix.l0 k (x :: l) x.length ((1 : Nat) : Int)) (fun k => ?_) (prefB_loop x l hs l.length 1 x.length (by simp; omega) (Nat.le_refl _) (Nat.le_refl _) rfl)
    unfold coppiceref5_Prefix.f
    rw [if_neg (by simp; omega), if_pos (by simp)]
    rfl
theorem rsizeB_loop (p : Nat) (l : List (List Int)) (hs : SmallB l) (hp : ∀ x ∈ l, p ≤ x.length) (d : Nat) : ∀ (i n : Nat), i + d = l.length → n ≤ (i + 2) * 281474976710656 →
    Ev (fun k => coppiceref5_Size.l0 k l p n i) ((n + ((l.drop i).map (cellB p)).sum : Nat) : Int) := by
  have hlen := hs.1
  induction d with
  | zero =>
    intro i n hi hn
    refine Ev.step (f := fun _ => some (n : Int)) (fun k => ?_) ?_
    · simp only [coppiceref5_Size.l0]
      rw [if_neg (by omega)]
    · rw [List.drop_eq_nil_of_le (by omega)]
      exact Ev.now _
  | succ d ih =>
    intro i n hi hn
    have hlt : i < l.length := by omega
    have hkey := hs.2 l[i] (List.getElem_mem hlt)
    have hpk := hp l[i] (List.getElem_mem hlt)
    have hc := cellB_le p l[i] hkey
    have hv1 := vlen_u64 (x := l[i].length - p) (by omega)
    have hrec := ih (i + 1) (n + cellB p l[i]) (by omega) (by omega)
    rw [drop_sumB _ _ _ hlt, ← Nat.add_assoc]
    obtain ⟨K1, h1⟩ := vlen_rf (l[i].length - p) (by omega)
    obtain ⟨K3, h3⟩ := hrec
    refine ⟨K1 + K3 + 1, fun k hk => ?_⟩
    obtain ⟨k, rfl⟩ : ∃ m, k = m + 1 := ⟨k - 1, by omega⟩
    have g1 : coppiceref1_VLen.f k ((l[i].length - p : Nat) : Int) = some (vlen (l[i].length - p) : Int) := h1 k (by omega)
    have e1 : (l[i].length : Int) - p = ((l[i].length - p : Nat) : Int) := by omega
    have e2 : ((l[i].length - p : Nat) : Int) ≤ 140737488351300 := by omega
    simp only [coppiceref5_Size.l0]
    rw [if_pos (by omega), if_pos (by omega), rd_list l i hlt, wrap_id ((l[i].length : Int) - p) (by omega) (by omega), e1, u64_id _ (by omega) (by omega), g1]
    simp only [Option.bind_some]
    rw [wrap_id ((n : Int) + 10) (by omega) (by omega), wrap_id ((n : Int) + 10 + (vlen (l[i].length - p) : Int)) (by omega) (by omega), wrap_id ((i : Int) + 1) (by omega) (by omega), wrap_id _ (by omega) (by omega)]
    rw [← h3 k (by omega)]
    show coppiceref5_Size.l0 k _ _ _ _ = coppiceref5_Size.l0 k _ _ _ _
    congr 1
    unfold cellB
    omega
theorem rsizeB_f (l : List (List Int)) (hs : SmallB l) : Ev (fun k => coppiceref5_Size.f k l) (sizeB l : Int) := by
  have hp := cmnAll_small l hs
  have hv := vlen_u64 (x := cmnAll l) (by omega)
  obtain ⟨K1, h1⟩ := prefB_f l hs
  obtain ⟨K2, h2⟩ := vlen_rf (cmnAll l) (by omega)
  obtain ⟨K3, h3⟩ := rsizeB_loop (cmnAll l) l hs (cmnAll_le l) l.length 0 (12 + vlen (cmnAll l) + cmnAll l) (by omega) (by omega)
  refine ⟨K1 + K2 + K3, fun k hk => ?_⟩
  have g1 : coppiceref5_Prefix.f k l = some (cmnAll l : Int) := h1 k (by omega)
  have g2 : coppiceref1_VLen.f k (cmnAll l : Int) = some (vlen (cmnAll l) : Int) := h2 k (by omega)
  have g3 := h3 k (by omega)
  show coppiceref5_Size.f k l = _
  unfold coppiceref5_Size.f
  rw [g1]
  simp only [Option.bind_some]
  rw [u64_id _ (by omega) (by omega), g2]
  simp only [Option.bind_some]
  rw [wrap_id (12 + (vlen (cmnAll l) : Int)) (by omega) (by omega), wrap_id _ (by omega) (by omega)]
  exact g3
end Go.Proofs.Yteaiefkadmlabaa.P
