import Derived.Test.YteaiefkadmlabaaP7
import Derived.Test.YteaiefkadmlabaaP11
import Derived.IntWalk
/-! Plain facts on the sizes of leaves: what the program's Size and the document's Size come to. -/
namespace Go.Proofs.Yteaiefkadmlabaa.P
open Go.RowKit Go.Proofs.YteaiefkadmlabaaW.PrintWords Go.Proofs.YteaiefkadmlabaaW.PrintMore
abbrev It := S38
theorem wrap_id (n : Int) (h0 : -9223372036854775808 ≤ n) (h1 : n ≤ 9223372036854775807) : wrap64 n = n := by unfold wrap64; omega
theorem u64_id (n : Int) (h0 : 0 ≤ n) (h1 : n ≤ 18446744073709551615) : IntKind.u64.wrap n = n := IntWalk.u64_in n ⟨h0, h1⟩
/-- How many bytes the least form of a number has. -/
def vlen (x : Nat) : Nat := if _h : x < 128 then 1 else vlen (x / 128) + 1
termination_by x
decreasing_by omega
theorem vlen_small {x : Nat} (h : x < 128) : vlen x = 1 := by rw [vlen, dif_pos h]
theorem vlen_big {x : Nat} (h : ¬ x < 128) : vlen x = vlen (x / 128) + 1 := by rw [vlen, dif_neg h]
theorem vlen_pos (x : Nat) : 1 ≤ vlen x := by
  by_cases h : x < 128
  · rw [vlen_small h]; exact Nat.le_refl _
  · rw [vlen_big h]; omega
theorem vlen_le (k : Nat) : ∀ x : Nat, x < 128 ^ (k + 1) → vlen x ≤ k + 1 := by
  induction k with
  | zero => intro x hx; rw [vlen_small (by simpa using hx)]; exact Nat.le_refl _
  | succ k ih =>
    intro x hx
    by_cases h : x < 128
    · rw [vlen_small h]; omega
    · rw [vlen_big h]
      have := ih (x / 128) (by rw [Nat.pow_succ] at hx; omega)
      omega
theorem vlen_u64 {x : Nat} (h : x < 18446744073709551616) : vlen x ≤ 10 := vlen_le 9 x (by omega)
theorem vlen_mono : ∀ {x y : Nat}, x ≤ y → vlen x ≤ vlen y := by
  intro x
  induction x using Nat.strongRecOn with
  | _ x ih =>
    intro y hy
    by_cases h : x < 128
    · rw [vlen_small h]; exact vlen_pos y
    · rw [vlen_big h, vlen_big (x := y) (by omega)]
      have := ih (x / 128) (by omega) (y := y / 128) (by omega)
      omega
theorem lt_pow_vlen : ∀ x : Nat, x < 128 ^ vlen x := by
  intro x
  induction x using Nat.strongRecOn with
  | _ x ih =>
    by_cases h : x < 128
    · rw [vlen_small h]; simpa using h
    · rw [vlen_big h, Nat.pow_succ]
      have := ih (x / 128) (by omega)
      omega
theorem vlen_add (a b : Nat) : vlen (a + b) ≤ vlen a + vlen b := by
  have ha := vlen_pos a
  have hb := vlen_pos b
  rcases Nat.le_total (vlen a) (vlen b) with h | h
  · have h1 : 128 ^ vlen a ≤ 128 ^ vlen b := Nat.pow_le_pow_right (by omega) h
    have h2 := lt_pow_vlen a
    have h3 := lt_pow_vlen b
    have h4 := vlen_le (vlen b) (a + b) (by rw [Nat.pow_succ]; omega)
    omega
  · have h1 : 128 ^ vlen b ≤ 128 ^ vlen a := Nat.pow_le_pow_right (by omega) h
    have h2 := lt_pow_vlen a
    have h3 := lt_pow_vlen b
    have h4 := vlen_le (vlen a) (a + b) (by rw [Nat.pow_succ]; omega)
    omega
theorem vlen_succ (p d : Nat) : vlen (p + d) ≤ vlen p + d := by
  induction d with
  | zero => exact Nat.le_refl _
  | succ d ih =>
    have h : vlen (p + d + 1) ≤ vlen (p + d) + 1 := by
      have := vlen_add (p + d) 1
      rwa [vlen_small (x := 1) (by omega)] at this
    rw [← Nat.add_assoc]
    omega
/-! ### the program's and the document's VLen -/
theorem vlen_prog : ∀ (x : Nat) (n : Nat), n + vlen x ≤ 4611686018427387904 → Ev (fun k => wire_VLen.l0 k x n) ((n + vlen x - 1 : Nat) : Int) := by
  intro x
  induction x using Nat.strongRecOn with
  | _ x ih =>
    intro n hn
    have hp := vlen_pos x
    by_cases h : x < 128
    · rw [vlen_small h]
      refine Ev.step (f := fun _ => some (n : Int)) (fun k => ?_) (Ev.now _)
      simp only [wire_VLen.l0]
      rw [if_neg (by omega)]
    · rw [vlen_big h] at hn ⊢
      refine Ev.step (f := fun k => wire_VLen.l0 k ((x / 128 : Nat) : Int) ((n + 1 : Nat) : Int)) (fun k => ?_) ?_
      · simp only [wire_VLen.l0]
        rw [if_pos (by omega), wrap_id _ (by omega) (by omega)]
        rfl
      · have := ih (x / 128) (by omega) (n + 1) (by omega)
        rwa [show n + 1 + vlen (x / 128) - 1 = n + (vlen (x / 128) + 1) - 1 by omega] at this
theorem vlen_ref : ∀ (x : Nat) (n : Nat), x < 18446744073709551616 → n + vlen x ≤ 4611686018427387904 → Ev (fun k => coppiceref1_VLen.l0 k x n) ((n + vlen x - 1 : Nat) : Int) := by
  intro x
  induction x using Nat.strongRecOn with
  | _ x ih =>
    intro n hx hn
    have hp := vlen_pos x
    by_cases h : x < 128
    · rw [vlen_small h]
      refine Ev.step (f := fun _ => some (n : Int)) (fun k => ?_) (Ev.now _)
      simp only [coppiceref1_VLen.l0]
      rw [if_neg (by omega)]
    · rw [vlen_big h] at hn ⊢
      refine Ev.step (f := fun k => coppiceref1_VLen.l0 k ((x / 128 : Nat) : Int) ((n + 1 : Nat) : Int)) (fun k => ?_) ?_
      · simp only [coppiceref1_VLen.l0]
        rw [if_pos (by omega), wrap_id _ (by omega) (by omega), Int.tdiv_eq_ediv_of_nonneg (by omega), u64_id _ (by omega) (by omega)]
        rfl
      · have := ih (x / 128) (by omega) (n + 1) (by omega) (by omega)
        rwa [show n + 1 + vlen (x / 128) - 1 = n + (vlen (x / 128) + 1) - 1 by omega] at this
theorem vlen_f (x : Nat) (hx : x < 18446744073709551616) : Ev (fun k => wire_VLen.f k x) (vlen x : Int) := by
  have h := vlen_prog x 1 (by have := vlen_u64 hx; omega)
  rwa [show 1 + vlen x - 1 = vlen x by omega] at h
theorem vlen_rf (x : Nat) (hx : x < 18446744073709551616) : Ev (fun k => coppiceref1_VLen.f k x) (vlen x : Int) := by
  have h := vlen_ref x 1 hx (by have := vlen_u64 hx; omega)
  rwa [show 1 + vlen x - 1 = vlen x by omega] at h
/-! ### what lists have in common -/
theorem cmn_le_right (a b : List Int) : cmn a b ≤ b.length := by
  induction a generalizing b with
  | nil => simp [cmn]
  | cons x xs ih =>
    cases b with
    | nil => simp [cmn]
    | cons y ys =>
      simp only [cmn]
      split
      · have := ih ys
        simp
        omega
      · simp
theorem cmn_take_le (a : List Int) (n : Nat) (s : List Int) : cmn (a.take n) s ≤ n := Nat.le_trans (cmn_le _ _) (by rw [List.length_take]; omega)
theorem cmnFrom_le_n (a : List Int) (l : List (List Int)) : ∀ n, cmnFrom a n l ≤ n := by
  induction l with
  | nil => intro n; exact Nat.le_refl _
  | cons s l ih => intro n; exact Nat.le_trans (ih (cmn (a.take n) s)) (cmn_take_le a n s)
theorem cmnFrom_le_mem (a : List Int) (l : List (List Int)) : ∀ n, ∀ s ∈ l, cmnFrom a n l ≤ s.length := by
  induction l with
  | nil => intro n s hs; cases hs
  | cons s0 l ih =>
    intro n s hs
    rcases List.mem_cons.1 hs with rfl | h
    · exact Nat.le_trans (cmnFrom_le_n a l _) (cmn_le_right _ _)
    · exact ih (cmn (a.take n) s0) s h
theorem cmnAll_le (l : List (List Int)) : ∀ s ∈ l, cmnAll l ≤ s.length := by
  cases l with
  | nil => intro s hs; cases hs
  | cons a l =>
    intro s hs
    rcases List.mem_cons.1 hs with rfl | h
    · exact cmnFrom_le_n _ l _
    · exact cmnFrom_le_mem _ l _ s h
/-- A loop that goes on as long as the bytes are the same, seen from a place on. -/
theorem cmn_at (a s : List Int) (n j : Nat) (hn : n ≤ a.length) (hj : cmn (a.take n) s = j + cmn ((a.take n).drop j) (s.drop j)) :
    (j < n → j < s.length → a.getD j 0 = s.getD j 0 → cmn (a.take n) s = j + 1 + cmn ((a.take n).drop (j + 1)) (s.drop (j + 1))) ∧ (j < n → j < s.length → a.getD j 0 ≠ s.getD j 0 → cmn (a.take n) s = j) ∧ (n ≤ j → cmn (a.take n) s = j) ∧ (s.length ≤ j → cmn (a.take n) s = j) := by
  have hl : (a.take n).length = n := by rw [List.length_take]; omega
  refine ⟨fun h1 h2 h3 => ?_, fun h1 h2 h3 => ?_, fun h => ?_, fun h => ?_⟩
  · rw [hj, List.drop_eq_getElem_cons (l := a.take n) (by omega), List.drop_eq_getElem_cons h2]
    have h4 : (a.take n)[j]'(by omega) = s[j] := by
      rw [List.getElem_take]
      simpa [List.getD_eq_getElem?_getD, List.getElem?_eq_getElem h2, List.getElem?_eq_getElem (show j < a.length by omega)] using h3
    simp only [cmn]
    rw [if_pos h4]
    omega
  · rw [hj, List.drop_eq_getElem_cons (l := a.take n) (by omega), List.drop_eq_getElem_cons h2]
    have h4 : ¬ (a.take n)[j]'(by omega) = s[j] := by
      rw [List.getElem_take]
      simpa [List.getD_eq_getElem?_getD, List.getElem?_eq_getElem h2, List.getElem?_eq_getElem (show j < a.length by omega)] using h3
    simp only [cmn]
    rw [if_neg h4]
    rfl
  · have e : (a.take n).drop j = [] := List.drop_eq_nil_of_le (by omega)
    rw [hj, e]
    rfl
  · have e : s.drop j = [] := List.drop_eq_nil_of_le h
    rw [hj, e, cmn_nil_right]
    rfl
/-! ### sizes -/
/-- A Size as it counts. -/
def cl (s : Int) : Nat := (mn (mx s 0) 262144).toNat
theorem cl_le (s : Int) : cl s ≤ 262144 := by unfold cl mn mx; split <;> split <;> omega
theorem cl_mn (s : Int) : mn (mx s 0) 262144 = (cl s : Int) := by unfold cl mn mx; split <;> split <;> omega
def tagOf (s : Int) : Nat := if cl s > 512 then 2 * cl s + 1 else 2 * cl s
theorem tagOf_le (s : Int) : tagOf s ≤ 524289 := by have := cl_le s; unfold tagOf; split <;> omega
def inl (s : Int) : Nat := if cl s > 512 then 4 else cl s
theorem inl_le (s : Int) : inl s ≤ 512 := by unfold inl; split <;> omega
def cellL (p : Nat) (x : It) : Nat := 2 + vlen (x.f0.length - p) + (x.f0.length - p) + vlen (tagOf x.f2) + inl x.f2
theorem cellL_le (p : Nat) (x : It) (h : x.f0.length ≤ 140737488351300) : cellL p x ≤ 281474976710656 := by
  have h1 := vlen_u64 (x := x.f0.length - p) (by omega)
  have h2 := vlen_u64 (x := tagOf x.f2) (by have := tagOf_le x.f2; omega)
  have h3 := inl_le x.f2
  unfold cellL
  omega
def pre (l : List It) : Nat := cmnAll (l.map (·.f0))
def sizeL (l : List It) : Nat := 3 + vlen (pre l) + pre l + (l.map (cellL (pre l))).sum
/-- Keys and lists that no sum is too large for. -/
def Small (l : List It) : Prop := l.length ≤ 2000 ∧ ∀ x ∈ l, x.f0.length ≤ 140737488351300
theorem tag_f (s : Int) : leaf_tag.f (cl s) = some (tagOf s : Int) := by
  have := cl_le s
  unfold leaf_tag.f leaf_chained.f tagOf
  simp only [Option.bind_some]
  rw [u64_id (cl s : Int) (by omega) (by omega), u64_id (2 * (cl s : Int)) (by omega) (by omega)]
  by_cases h : cl s > 512
  · rw [if_pos (decide_eq_true (by omega)), if_pos h, u64_id _ (by omega) (by omega)]
    rfl
  · rw [if_neg (by simp; omega), if_neg h]
    rfl
theorem long_rf (s : Int) : coppiceref4_long.f s = some (cl s : Int) := by
  unfold coppiceref4_long.f cl mn mx
  by_cases h : s < 0
  · rw [if_pos h, if_pos h, if_neg (by omega)]; rfl
  · rw [if_neg h, if_neg h]
    by_cases h2 : s > 262144
    · rw [if_pos h2, if_pos h2]; rfl
    · rw [if_neg h2, if_neg h2]
      congr 1
      omega
theorem tag_rf (s : Int) : coppiceref4_tag.f s = some (tagOf s : Int) := by
  have := cl_le s
  unfold coppiceref4_tag.f tagOf
  rw [long_rf]
  simp only [Option.bind_some]
  rw [wrap_id (2 * (cl s : Int)) (by omega) (by omega)]
  by_cases h : cl s > 512
  · rw [if_pos (by omega), if_pos h, wrap_id _ (by omega) (by omega), u64_id _ (by omega) (by omega)]
    rfl
  · rw [if_neg (by omega), if_neg h, u64_id _ (by omega) (by omega)]
    rfl
theorem rd_item (l : List It) (i : Nat) (h : i < l.length) : rd_T38 l (i : Int) = l[i] := by
  simp [rd_T38, h]
theorem drop_sum (f : It → Nat) (l : List It) (i : Nat) (h : i < l.length) : ((l.drop i).map f).sum = f l[i] + ((l.drop (i + 1)).map f).sum := by
  rw [List.drop_eq_getElem_cons h, List.map_cons, List.sum_cons]
theorem size_loop (p : Nat) (l : List It) (hs : Small l) (hp : ∀ x ∈ l, p ≤ x.f0.length) (d : Nat) : ∀ (i n : Nat), i + d = l.length → n ≤ (i + 2) * 281474976710656 →
    Ev (fun k => leaf_Size.l0 k p n l l.length i) ((n + ((l.drop i).map (cellL p)).sum : Nat) : Int) := by
  have hlen := hs.1
  induction d with
  | zero =>
    intro i n hi hn
    refine Ev.step (f := fun _ => some (n : Int)) (fun k => ?_) ?_
    · simp only [leaf_Size.l0]
      rw [if_neg (by omega)]
    · rw [List.drop_eq_nil_of_le (by omega)]
      exact Ev.now _
  | succ d ih =>
    intro i n hi hn
    have hlt : i < l.length := by omega
    have hkey := hs.2 l[i] (List.getElem_mem hlt)
    have hpk := hp l[i] (List.getElem_mem hlt)
    have hc := cellL_le p l[i] hkey
    have hv1 := vlen_u64 (x := l[i].f0.length - p) (by omega)
    have htag := tagOf_le l[i].f2
    have hv2 := vlen_u64 (x := tagOf l[i].f2) (by omega)
    have hinl := inl_le l[i].f2
    have hcl := cl_le l[i].f2
    have hrec := ih (i + 1) (n + cellL p l[i]) (by omega) (by omega)
    rw [drop_sum _ _ _ hlt, ← Nat.add_assoc]
    obtain ⟨K1, h1⟩ := vlen_f (l[i].f0.length - p) (by omega)
    obtain ⟨K2, h2⟩ := vlen_f (tagOf l[i].f2) (by omega)
    obtain ⟨K3, h3⟩ := hrec
    refine ⟨K1 + K2 + K3 + 1, fun k hk => ?_⟩
    obtain ⟨k, rfl⟩ : ∃ m, k = m + 1 := ⟨k - 1, by omega⟩
    have g1 : wire_VLen.f k ((l[i].f0.length - p : Nat) : Int) = some (vlen (l[i].f0.length - p) : Int) := h1 k (by omega)
    have g2 : wire_VLen.f k ((tagOf l[i].f2 : Nat) : Int) = some (vlen (tagOf l[i].f2) : Int) := h2 k (by omega)
    have e1 : (l[i].f0.length : Int) - p = ((l[i].f0.length - p : Nat) : Int) := by omega
    have e2 : ((l[i].f0.length - p : Nat) : Int) ≤ 140737488351300 := by omega
    simp only [leaf_Size.l0]
    rw [if_pos (by omega), if_pos (by omega), if_pos (by omega), rd_item l i hlt, cl_mn, tag_f, wrap_id ((l[i].f0.length : Int) - p) (by omega) (by omega), e1, u64_id _ (by omega) (by omega), g1]
    simp only [Option.bind_some]
    rw [g2]
    unfold leaf_chained.f
    simp only [Option.bind_some]
    rw [wrap_id (2 + (vlen (l[i].f0.length - p) : Int)) (by omega) (by omega), wrap_id (2 + (vlen (l[i].f0.length - p) : Int) + ((l[i].f0.length - p : Nat) : Int)) (by omega) (by omega),
      wrap_id (2 + (vlen (l[i].f0.length - p) : Int) + ((l[i].f0.length - p : Nat) : Int) + (vlen (tagOf l[i].f2) : Int)) (by omega) (by omega),
      wrap_id ((n : Int) + (2 + (vlen (l[i].f0.length - p) : Int) + ((l[i].f0.length - p : Nat) : Int) + (vlen (tagOf l[i].f2) : Int))) (by omega) (by omega), wrap_id ((i : Int) + 1) (by omega) (by omega)]
    have h4 := h3 k (by omega)
    by_cases h : cl l[i].f2 > 512
    · rw [if_pos (decide_eq_true (by omega)), wrap_id _ (by omega) (by omega)]
      rw [← h4]
      congr 1
      unfold cellL inl
      rw [if_pos h]
      omega
    · rw [if_neg (by simp; omega), wrap_id _ (by omega) (by omega)]
      rw [← h4]
      congr 1
      unfold cellL inl
      rw [if_neg h]
      omega
theorem prefix_loop (l : List It) (hs : Small l) (d : Nat) : ∀ (i : Nat) (acc : List (List Int)), i + d = l.length → acc = (l.take i).map (·.f0) → Ev (fun k => leaf_prefix.l0 k acc l l.length i) (pre l : Int) := by
  have hlen := hs.1
  induction d with
  | zero =>
    intro i acc hi hacc
    refine Ev.step (f := fun _ => some (pre l : Int)) (fun k => ?_) (Ev.now _)
    simp only [leaf_prefix.l0]
    rw [if_neg (by omega), hacc, List.take_of_length_le (by omega)]
    rfl
  | succ d ih =>
    intro i acc hi hacc
    have hlt : i < l.length := by omega
    have hal : acc.length = i := by rw [hacc, List.length_map, List.length_take]; omega
    refine Ev.step (f := fun k => leaf_prefix.l0 k (acc ++ [l[i].f0]) l l.length ((i + 1 : Nat) : Int)) (fun k => ?_) (ih (i + 1) _ (by omega) ?_)
    · simp only [leaf_prefix.l0]
      rw [if_pos (by omega), if_pos (by omega), if_pos (by omega), if_pos (by omega), rd_item l i hlt, wrap_id _ (by omega) (by omega)]
      rfl
    · rw [hacc, List.take_succ_eq_append_getElem hlt, List.map_append]
      rfl
theorem prefix_f (l : List It) (hs : Small l) : Ev (fun k => leaf_prefix.f k l) (pre l : Int) := prefix_loop l hs l.length 0 [] (by omega) rfl
theorem pre_le (l : List It) : ∀ x ∈ l, pre l ≤ x.f0.length := fun x hx => cmnAll_le _ _ (List.mem_map.2 ⟨x, hx, rfl⟩)
theorem pre_small (l : List It) (hs : Small l) : pre l ≤ 140737488351300 := by
  cases l with
  | nil => exact Nat.zero_le _
  | cons x l => exact Nat.le_trans (pre_le (x :: l) x (List.mem_cons_self ..)) (hs.2 x (List.mem_cons_self ..))
theorem size_f (l : List It) (hs : Small l) : Ev (fun k => leaf_Size.f k l) (sizeL l : Int) := by
  have hp := pre_small l hs
  have hv := vlen_u64 (x := pre l) (by omega)
  obtain ⟨K1, h1⟩ := prefix_f l hs
  obtain ⟨K2, h2⟩ := vlen_f (pre l) (by omega)
  obtain ⟨K3, h3⟩ := size_loop (pre l) l hs (pre_le l) l.length 0 (3 + vlen (pre l) + pre l) (by omega) (by omega)
  refine ⟨K1 + K2 + K3, fun k hk => ?_⟩
  have g1 : leaf_prefix.f k l = some (pre l : Int) := h1 k (by omega)
  have g2 : wire_VLen.f k (pre l : Int) = some (vlen (pre l) : Int) := h2 k (by omega)
  have g3 := h3 k (by omega)
  show leaf_Size.f k l = _
  unfold leaf_Size.f
  rw [g1]
  simp only [Option.bind_some]
  rw [u64_id _ (by omega) (by omega), g2]
  simp only [Option.bind_some]
  rw [wrap_id (3 + (vlen (pre l) : Int)) (by omega) (by omega), wrap_id _ (by omega) (by omega)]
  exact g3
/-! ### the document's -/
theorem common_loop (l : List It) (hs : Small l) (d : Nat) : ∀ (i n : Nat), i + d = l.length → 1 ≤ i → n ≤ (l.head?.elim 0 fun x => x.f0.length) → cmnFrom (l.head?.elim [] fun x => x.f0) n ((l.drop i).map (·.f0)) = pre l →
    Ev (fun k => coppiceref4_common.l0 k l n i) (pre l : Int) := by
  have hlen := hs.1
  induction d with
  | zero =>
    intro i n hi h1 hn hc
    refine Ev.step (f := fun _ => some (n : Int)) (fun k => ?_) ?_
    · simp only [coppiceref4_common.l0]
      rw [if_neg (by omega)]
    · rw [List.drop_eq_nil_of_le (by omega)] at hc
      rw [← hc]
      exact Ev.now _
  | succ d ih =>
    intro i n hi h1 hn hc
    have hlt : i < l.length := by omega
    obtain ⟨x, l', rfl⟩ : ∃ x l', l = x :: l' := by
      cases l with
      | nil => simp at hlt
      | cons x l' => exact ⟨x, l', rfl⟩
    simp only [List.head?_cons, Option.elim] at hn hc
    have hkey := hs.2 _ (List.getElem_mem hlt)
    have hkey0 := hs.2 x (List.mem_cons_self ..)
    have hnext : Ev (fun k => coppiceref4_common.l0 k (x :: l') ((cmn (x.f0.take n) (x :: l')[i].f0 : Nat) : Int) ((i + 1 : Nat) : Int)) (pre (x :: l') : Int) := by
      refine ih (i + 1) _ (by omega) (by omega) ?_ ?_
      · exact Nat.le_trans (cmn_take_le _ _ _) hn
      · rw [List.drop_eq_getElem_cons hlt] at hc
        exact hc
    have inner : ∀ (e j : Nat), j + e = n → cmn (x.f0.take n) (x :: l')[i].f0 = j + cmn ((x.f0.take n).drop j) ((x :: l')[i].f0.drop j) → Ev (fun k => coppiceref4_common.l1 k (x :: l') n i j) (pre (x :: l') : Int) := by
      intro e
      induction e with
      | zero =>
        intro j hj hinv
        have hst := (cmn_at x.f0 (x :: l')[i].f0 n j hn hinv).2.2.1 (by omega)
        rw [hst] at hnext
        refine Ev.step (f := fun k => coppiceref4_common.l0 k (x :: l') (j : Int) ((i + 1 : Nat) : Int)) (fun k => ?_) hnext
        simp only [coppiceref4_common.l1]
        rw [if_neg (by omega), wrap_id _ (by omega) (by omega)]
        rfl
      | succ e ihe =>
        intro j hj hinv
        have hat := cmn_at x.f0 (x :: l')[i].f0 n j hn hinv
        by_cases hjs : j < (x :: l')[i].f0.length
        · by_cases heq : x.f0.getD j 0 = (x :: l')[i].f0.getD j 0
          · refine Ev.step (f := fun k => coppiceref4_common.l1 k (x :: l') n i ((j + 1 : Nat) : Int)) (fun k => ?_) (ihe (j + 1) (by omega) (hat.1 (by omega) hjs heq))
            simp only [coppiceref4_common.l1]
            rw [if_pos (by omega), if_pos (by omega), if_pos (by omega), rd_item _ i hlt, if_pos (by omega), if_pos (by omega), if_pos (by simp), show rd_T38 (x :: l') 0 = x from rfl, if_pos (by omega), if_pos (by simpa [rd] using heq.symm), wrap_id _ (by omega) (by omega)]
            rfl
          · have hst := hat.2.1 (by omega) hjs heq
            rw [hst] at hnext
            refine Ev.step (f := fun k => coppiceref4_common.l0 k (x :: l') (j : Int) ((i + 1 : Nat) : Int)) (fun k => ?_) hnext
            simp only [coppiceref4_common.l1]
            rw [if_pos (by omega), if_pos (by omega), if_pos (by omega), rd_item _ i hlt, if_pos (by omega), if_pos (by omega), if_pos (by simp), show rd_T38 (x :: l') 0 = x from rfl, if_pos (by omega), if_neg (by intro hc2; exact heq (by simpa [rd] using hc2.symm)), wrap_id _ (by omega) (by omega)]
            rfl
        · have hst := hat.2.2.2 (by omega)
          rw [hst] at hnext
          refine Ev.step (f := fun k => coppiceref4_common.l0 k (x :: l') (j : Int) ((i + 1 : Nat) : Int)) (fun k => ?_) hnext
          simp only [coppiceref4_common.l1]
          rw [if_pos (by omega), if_pos (by omega), if_pos (by omega), rd_item _ i hlt, if_neg (by omega), wrap_id _ (by omega) (by omega)]
          rfl
    refine Ev.step (f := fun k => coppiceref4_common.l1 k (x :: l') n i ((0 : Nat) : Int)) (fun k => ?_) (inner n 0 (by omega) (by simp))
    simp only [coppiceref4_common.l0]
    rw [if_pos (by omega)]
    rfl
theorem common_f (l : List It) (hs : Small l) : Ev (fun k => coppiceref4_common.f k l) (pre l : Int) := by
  cases l with
  | nil => exact Ev.congr (f := fun _ => some 0) (fun k => rfl) (Ev.now _)
  | cons x l =>
    refine Ev.congr (f := fun k => coppiceref4_common.l0 k (x :: l) x.f0.length ((1 : Nat) : Int)) (fun k => ?_) (common_loop (x :: l) hs l.length 1 x.f0.length (by simp; omega) (Nat.le_refl _) (Nat.le_refl _) rfl)
    unfold coppiceref4_common.f
    rw [if_neg (by simp; omega), if_pos (by simp)]
    rfl
theorem rsize_loop (p : Nat) (l : List It) (hs : Small l) (hp : ∀ x ∈ l, p ≤ x.f0.length) (d : Nat) : ∀ (i n : Nat), i + d = l.length → n ≤ (i + 2) * 281474976710656 →
    Ev (fun k => coppiceref4_Size.l0 k l p n i) ((n + ((l.drop i).map (cellL p)).sum : Nat) : Int) := by
  have hlen := hs.1
  induction d with
  | zero =>
    intro i n hi hn
    refine Ev.step (f := fun _ => some (n : Int)) (fun k => ?_) ?_
    · simp only [coppiceref4_Size.l0]
      rw [if_neg (by omega)]
    · rw [List.drop_eq_nil_of_le (by omega)]
      exact Ev.now _
  | succ d ih =>
    intro i n hi hn
    have hlt : i < l.length := by omega
    have hkey := hs.2 l[i] (List.getElem_mem hlt)
    have hpk := hp l[i] (List.getElem_mem hlt)
    have hc := cellL_le p l[i] hkey
    have hv1 := vlen_u64 (x := l[i].f0.length - p) (by omega)
    have htag := tagOf_le l[i].f2
    have hv2 := vlen_u64 (x := tagOf l[i].f2) (by omega)
    have hinl := inl_le l[i].f2
    have hcl := cl_le l[i].f2
    have hrec := ih (i + 1) (n + cellL p l[i]) (by omega) (by omega)
    rw [drop_sum _ _ _ hlt, ← Nat.add_assoc]
    obtain ⟨K1, h1⟩ := vlen_rf (l[i].f0.length - p) (by omega)
    obtain ⟨K2, h2⟩ := vlen_rf (tagOf l[i].f2) (by omega)
    obtain ⟨K3, h3⟩ := hrec
    refine ⟨K1 + K2 + K3 + 1, fun k hk => ?_⟩
    obtain ⟨k, rfl⟩ : ∃ m, k = m + 1 := ⟨k - 1, by omega⟩
    have g1 : coppiceref1_VLen.f k ((l[i].f0.length - p : Nat) : Int) = some (vlen (l[i].f0.length - p) : Int) := h1 k (by omega)
    have g2 : coppiceref1_VLen.f k ((tagOf l[i].f2 : Nat) : Int) = some (vlen (tagOf l[i].f2) : Int) := h2 k (by omega)
    have e1 : (l[i].f0.length : Int) - p = ((l[i].f0.length - p : Nat) : Int) := by omega
    have e2 : ((l[i].f0.length - p : Nat) : Int) ≤ 140737488351300 := by omega
    simp only [coppiceref4_Size.l0]
    rw [if_pos (by omega), if_pos (by omega), rd_item l i hlt, wrap_id ((l[i].f0.length : Int) - p) (by omega) (by omega), e1, u64_id _ (by omega) (by omega), g1, tag_rf, long_rf]
    simp only [Option.bind_some]
    rw [g2]
    simp only [Option.bind_some]
    rw [wrap_id ((n : Int) + 2) (by omega) (by omega), wrap_id ((n : Int) + 2 + (vlen (l[i].f0.length - p) : Int)) (by omega) (by omega), wrap_id ((n : Int) + 2 + (vlen (l[i].f0.length - p) : Int) + ((l[i].f0.length - p : Nat) : Int)) (by omega) (by omega),
      wrap_id ((n : Int) + 2 + (vlen (l[i].f0.length - p) : Int) + ((l[i].f0.length - p : Nat) : Int) + (vlen (tagOf l[i].f2) : Int)) (by omega) (by omega), wrap_id ((i : Int) + 1) (by omega) (by omega)]
    have h4 := h3 k (by omega)
    by_cases h : cl l[i].f2 > 512
    · rw [if_pos (by omega), wrap_id _ (by omega) (by omega)]
      rw [← h4]
      congr 1
      unfold cellL inl
      rw [if_pos h]
      omega
    · rw [if_neg (by omega), wrap_id _ (by omega) (by omega)]
      rw [← h4]
      congr 1
      unfold cellL inl
      rw [if_neg h]
      omega
theorem rsize_f (l : List It) (hs : Small l) : Ev (fun k => coppiceref4_Size.f k l) (sizeL l : Int) := by
  have hp := pre_small l hs
  have hv := vlen_u64 (x := pre l) (by omega)
  obtain ⟨K1, h1⟩ := common_f l hs
  obtain ⟨K2, h2⟩ := vlen_rf (pre l) (by omega)
  obtain ⟨K3, h3⟩ := rsize_loop (pre l) l hs (pre_le l) l.length 0 (3 + vlen (pre l) + pre l) (by omega) (by omega)
  refine ⟨K1 + K2 + K3, fun k hk => ?_⟩
  have g1 : coppiceref4_common.f k l = some (pre l : Int) := h1 k (by omega)
  have g2 : coppiceref1_VLen.f k (pre l : Int) = some (vlen (pre l) : Int) := h2 k (by omega)
  have g3 := h3 k (by omega)
  show coppiceref4_Size.f k l = _
  unfold coppiceref4_Size.f
  rw [g1]
  simp only [Option.bind_some]
  rw [u64_id _ (by omega) (by omega), g2]
  simp only [Option.bind_some]
  rw [wrap_id (3 + (vlen (pre l) : Int)) (by omega) (by omega), wrap_id _ (by omega) (by omega)]
  exact g3
end Go.Proofs.Yteaiefkadmlabaa.P
