import Derived.Test.YteaiefkadmlabaaOwnCalls
import Derived.ArgAppend
/-! What CutOwn writes over. -/
namespace Go.Proofs.Yteaiefkadmlabaa.P
open Go.RowKit Go.Proofs.YteaiefkadmlabaaW.PrintWords Go.Proofs.YteaiefkadmlabaaW.PrintMore
theorem wpList_append_run {P : Program} {w w' : World} {ops : Array Oper} {rest : List Oper} {o : Oper} {a : Act} {Q : Exit → Act → World → Prop} {v' : Value} (hg : o.guard = none) (s x : Operand) (t : TypeId)
    (hop : o.op = Op.call { callee := Callee.builtin Builtin.append, args := #[s, x], argTypes := #[t, t] }) (vs vx : Value) (hs : a.eval s = vs) (hx : a.eval x = vx)
    (hrun : (Builtin.append_ #[t, t] o.type #[vs, vx]).run P w = .ok v' w') (hK : wpList P ops Q rest (a.put o.dst v') w') : wpList P ops Q (o :: rest) a w := by
  refine wpList_plain hg fun K hK' => ?_
  unfold Oper.wp
  simp [execOp, hop, resolve, invoke, builtin, hs, hx, hrun, Result.andThen]
  exact hK' _ _ hK
theorem own_inv_below {w w' w2 : World} {s n m : Nat} {v8 v9 : Value} {q : Nat} {L : List It} {M : List (List Int)} (h : OwnInv w w' s n m v8 v9 q L M) (hb : Below w'.heap.size w' w2) : OwnInv w w2 s n m v8 v9 q L M :=
  { h with items := Kd.N_below h.items hb, seps := Kd.N_below h.seps hb, below := below_then h.below h.below.size hb, size := Nat.le_trans h.size hb.size }
theorem own_inv_next {w w' : World} {s n m : Nat} {v8 v9 : Value} {q : Nat} {L : List It} {M : List (List Int)} (h : OwnInv w w' s n m v8 v9 q L M) : OwnInv w w' s n m v8 v9 (q + 1) L M :=
  { h with lens := fun x hx => by have := h.lens x hx; omega }
/-- An item's Size is written over. -/
theorem own_put_item {w W : World} {s n m g8 c8 : Nat} {v9 : Value} {q : Nat} {L : List It} {M : List (List Int)} (h : OwnInv w W s n m (.slice (some ⟨g8, 0, none⟩) (n + 1) c8) v9 q L M) (p : Int) (h0 : 0 ≤ p) (h1 : p < n) :
    ∃ f : Int, W.cell? ⟨g8, p.toNat * 4 + 2, none⟩ = some (.int .i64 f) ∧ W.frozen? ⟨g8, p.toNat * 4 + 2, none⟩ = false ∧
      ∀ v : Int, ∃ L', OwnInv w (W.setCell ⟨g8, p.toNat * 4 + 2, none⟩ (.int .i64 v)) s n m (.slice (some ⟨g8, 0, none⟩) (n + 1) c8) v9 q L' M := by
  have hgs : g8 < s := h.items.1 g8 rfl
  have hgw : w.heap.size ≤ g8 := Kd.N_base h.items g8 rfl
  obtain ⟨c, hcl, hFK, hcc, hfr⟩ := Kd.N_elem h.items z38 p h0 (by omega)
  have hx := h.long
  have hpl : p.toNat < L.length := by omega
  have hmem : L.getD p.toNat z38 ∈ L := by
    rw [List.getD_eq_getElem?_getD, List.getElem?_eq_getElem hpl]
    exact List.getElem_mem hpl
  obtain ⟨x, hxe⟩ : ∃ x, x = L.getD p.toNat z38 := ⟨_, rfl⟩
  rw [← hxe] at hFK hmem
  obtain ⟨A0, c0, A1, c1, rfl, l0, g0, l1, g1⟩ := k38_openF hFK
  have hk := h.keys x hmem
  refine ⟨x.f2, hcc 2 _ rfl, hfr 2, fun v => ⟨L.set p.toNat ⟨x.f0, x.f1, v, x.f3⟩, ?_⟩⟩
  have hs := Kd.N_seg h.items p h0 (by omega) (seg := [.int .i64 v]) (j := 2) hcl hcc (show 2 + 1 ≤ 4 from by decide) (x' := ⟨x.f0, x.f1, v, x.f3⟩) (k38_mkF W _ (⟨x.f0, x.f1, v, x.f3⟩ : It) l0 g0 l1 g1) (fun _ hk => hk)
  have hg : W.grownBy (W.setCell ⟨g8, p.toNat * 4 + 2, none⟩ (.int .i64 v)) (some g8) := hs.2
  exact {
    items := hs.1
    seps := Kd.N_grown h.seps hg (fun k hk he => by injection he; omega)
    below := h.below.setCell hgw _
    size := Nat.le_trans h.size hg.size
    long := by rw [List.length_set]; exact h.long
    longs := h.longs
    keys := fun y hy => by
      rcases List.mem_or_eq_of_mem_set hy with hy | rfl
      · exact h.keys y hy
      · exact hk
    lens := h.lens }
/-- A separator is written over. -/
theorem own_put_sep {w W : World} {s n m g9 c9 : Nat} {v8 : Value} {q : Nat} {L : List It} {M : List (List Int)} (h : OwnInv w W s n m v8 (.slice (some ⟨g9, 0, none⟩) (m + 1) c9) q L M) (hws : w.heap.size ≤ s) (p : Int) (h0 : 0 ≤ p) (h1 : p < m)
    (A : Option Addr) (c : Nat) (y : List Int) (hc : y.length ≤ c) (hF : Kd.F (Kd.int .u8) W (fun k => s ≤ k ∧ k ≠ g9) A y.length y) (hy : y.length ≤ 140737488351240 + 5 * (q + 1)) :
    ∃ M', OwnInv w (W.setCell ⟨g9, p.toNat, none⟩ (.slice A y.length c)) s n m v8 (.slice (some ⟨g9, 0, none⟩) (m + 1) c9) (q + 1) L M' := by
  have hgs : s ≤ g9 := Kd.N_base h.seps g9 rfl
  obtain ⟨c1, hcl, hFK, hcc, hfr⟩ := Kd.N_elem h.seps [] p h0 (by omega)
  have hx := h.longs
  obtain ⟨A1, d1, rfl, hl1, hf1⟩ := Kd.FK_slice_open hFK
  refine ⟨M.set p.toNat y, ?_⟩
  have hs := Kd.N_seg h.seps p h0 (by omega) (seg := [.slice A y.length c]) (j := 0) hcl hcc (show 0 + 1 ≤ 1 from by decide) (x' := y) (Kd.FK_slice_mk hc hF) (fun _ hk => hk)
  rw [show (KM).sz = 1 from rfl, Nat.mul_one, Nat.add_zero] at hs
  have hg : W.grownBy (W.setCell ⟨g9, p.toNat, none⟩ (.slice A y.length c)) (some g9) := hs.2
  exact {
    items := Kd.N_grown h.items hg (fun k hk he => by injection he; omega)
    seps := hs.1
    below := h.below.setCell (Nat.le_trans hws hgs) _
    size := Nat.le_trans h.size hg.size
    long := h.long
    longs := by rw [List.length_set]; exact h.longs
    keys := h.keys
    lens := fun z hz => by
      rcases List.mem_or_eq_of_mem_set hz with hz | rfl
      · have := h.lens z hz
        omega
      · exact hy }
theorem own_sep_at {w W : World} {s n m g9 c9 : Nat} {v8 : Value} {q : Nat} {L : List It} {M : List (List Int)} (h : OwnInv w W s n m v8 (.slice (some ⟨g9, 0, none⟩) (m + 1) c9) q L M) (p : Int) (h0 : 0 ≤ p) (h1 : p < m) :
    ∃ (A : Option Addr) (c : Nat) (y : List Int), W.cell? ⟨g9, p.toNat, none⟩ = some (.slice A y.length c) ∧ W.frozen? ⟨g9, p.toNat, none⟩ = false ∧ y.length ≤ c ∧ Kd.F (Kd.int .u8) W (fun k => s ≤ k ∧ k ≠ g9) A y.length y ∧ y.length ≤ 140737488351240 + 5 * q := by
  obtain ⟨c1, hcl, hFK, hcc, hfr⟩ := Kd.N_elem h.seps [] p h0 (by omega)
  have hx := h.longs
  have hpl : p.toNat < M.length := by omega
  have hmem : M.getD p.toNat [] ∈ M := by
    rw [List.getD_eq_getElem?_getD, List.getElem?_eq_getElem hpl]
    exact List.getElem_mem hpl
  obtain ⟨A1, d1, rfl, hl1, hf1⟩ := Kd.FK_slice_open hFK
  have h2 := hcc 0 _ rfl
  have h3 := hfr 0
  rw [show (KM).sz = 1 from rfl, Nat.mul_one, Nat.add_zero] at h2 h3
  exact ⟨A1, d1, _, h2, h3, hl1, hf1, h.lens _ hmem⟩
theorem bytes_C2 (W : World) (g : Nat) (cur : Array Value) (xs : List Int) (fr : Nat × Nat) (hl : xs.length ≤ 9223372036854775807) (h : W.heap[g]? = some (.cells cur 5 fr)) (hcur : ∀ (j : Nat) (p : Int), xs[j]? = some p → cur[j]? = some (Value.int .u8 p)) : Kd.C (Kd.int .u8) W (some ⟨g, 0, none⟩) xs.length xs := by
  refine ⟨rfl, hl, fun _ => ⟨_, rfl, fun j p hj => ⟨[.int .u8 p], rfl, rfl, fun i u hu => ?_⟩⟩⟩
  match i, hu with
  | 0, hu =>
    obtain rfl : Value.int .u8 p = u := by simpa using hu
    rw [show (Kd.int IntKind.u8).sz = 1 from rfl, add_at, Nat.zero_add, Nat.mul_one, Nat.add_zero]
    simp [World.cell?, h, hcur j p hj]
theorem bytes_F2 (W : World) (g : Nat) (cur : Array Value) (xs : List Int) (fr : Nat × Nat) (hl : xs.length ≤ 9223372036854775807) (h : W.heap[g]? = some (.cells cur 5 fr)) (hcur : ∀ (j : Nat) (p : Int), xs[j]? = some p → cur[j]? = some (Value.int .u8 p)) : Kd.F (Kd.int .u8) W (fun k => k = g) (some ⟨g, 0, none⟩) xs.length xs := fun W' hW => by
  have hlt : g < W.heap.size := by
    rcases Nat.lt_or_ge g W.heap.size with h1 | h1
    · exact h1
    · rw [Array.getElem?_eq_none h1] at h; cases h
  exact bytes_C2 W' g cur xs fr hl ((hW g rfl hlt).trans h) hcur
/-- Bytes behind the five of a word that stands in a block of its own. -/
theorem other_append (W : World) (g : Nat) (hg : W.heap[g]? = some (.cells #[.int .u8 111, .int .u8 116, .int .u8 104, .int .u8 101, .int .u8 114] 5 (5, 6))) (A : Option Addr) (c : Nat) (ys : List Int) (hC : Kd.C (Kd.int .u8) W A ys.length ys) (hl : ys.length ≤ 140737488351300) (ty : TypeId) :
    ∃ A' c' W', (Builtin.append_ #[32, 32] ty #[.slice (some ⟨g, 0, none⟩) 5 5, .slice A ys.length c]).run Try.prog W = .ok (.slice A' (([111, 116, 104, 101, 114] : List Int) ++ ys).length c') W' ∧
      (([111, 116, 104, 101, 114] : List Int) ++ ys).length ≤ c' ∧ Kd.F (Kd.int .u8) W' (fun k => k = g ∨ W.heap.size ≤ k) A' (([111, 116, 104, 101, 114] : List Int) ++ ys).length (([111, 116, 104, 101, 114] : List Int) ++ ys) ∧ Below W.heap.size W W' := by
  obtain ⟨i0, hi0, hz0, hsz0, hby0⟩ := info_parts info5
  have hw := bytes_F W g [111, 116, 104, 101, 114] (5, 6) (by decide) hg
  rcases Nat.eq_zero_or_pos ys.length with h0 | h0
  · obtain rfl : ys = [] := List.eq_nil_of_length_eq_zero h0
    rw [List.append_nil]
    refine ⟨some ⟨g, 0, none⟩, 5, W, ?_, Nat.le_refl _, Kd.F_mono hw (fun _ hk => .inl hk), Below.refl _ _⟩
    rcases A with _ | ad
    · simp [Builtin.append_, run_underlying Try.underlying32, sizeOf, typeInfo, hi0, Builtin.lenOf, Builtin.firstCells, storeCells]
    · exact run_append_room_cells (P := Try.prog) W 32 ty 5 i0 Try.underlying32 hi0 g 0 5 5 ad 0 c [] (by simp) (by simp) (by simp) (by omega) (by simp) (by simp)
  · obtain ⟨ad, rfl, hcell⟩ := hC.2.2 h0
    have hnews : ∀ j u, (ys.map (Value.int .u8))[j]? = some u → W.cell? (ad.add j) = some u := fun j u hu => by
      rw [List.getElem?_map] at hu
      obtain ⟨p, hp, rfl⟩ := Option.map_eq_some_iff.1 hu
      obtain ⟨c1, _, rfl, h2⟩ := hcell j p hp
      have := h2 0 _ rfl
      rwa [show (Kd.int IntKind.u8).sz = 1 from rfl, Nat.mul_one, Nat.add_zero] at this
    have holds : ∀ j u, [Value.int .u8 111, .int .u8 116, .int .u8 104, .int .u8 101, .int .u8 114][j]? = some u → W.cell? ((⟨g, 0, none⟩ : Addr).add j) = some u := fun j u hu => by
      rw [add_at, Nat.zero_add]
      simp [World.cell?, hg, hu]
    obtain ⟨v', W', hrun, hown, hgr⟩ := run_append_arg_grows (P := Try.prog) W 32 ty 5 i0 _ 1 1 Try.underlying32 hi0 hz0 hsz0 hby0 rfl (by omega) ⟨g, 0, none⟩ 5 5 _ rfl holds ad ys.length c (ys.map (Value.int .u8)) (by simp) hnews (by omega) (by simp only [maxLen]; omega) (by omega)
    obtain ⟨hlen, hh⟩ := hown
    rcases hh with ⟨_, hn⟩ | ⟨g', cap, cur, rfl, hge, hheap, hnc, _, _, htake⟩
    · omega
    have hsum : (([111, 116, 104, 101, 114] : List Int) ++ ys).length = 5 + ys.length := by simp; omega
    rw [hsum]
    refine ⟨some ⟨g', 0, none⟩, cap, W', hrun, hnc, ?_, ⟨hgr.os, hgr.tape, hgr.output, hgr.size, fun k hk => hgr.block k hk (by simp)⟩⟩
    have hf := bytes_F2 W' g' cur (([111, 116, 104, 101, 114] : List Int) ++ ys) (0, 0) (by rw [hsum]; omega) hheap (fun j p hj => by
      have e : [Value.int .u8 111, Value.int .u8 116, Value.int .u8 104, Value.int .u8 101, Value.int .u8 114] ++ ys.map (Value.int .u8) = (([111, 116, 104, 101, 114] : List Int) ++ ys).map (Value.int .u8) := by simp
      have hjl : j < (([111, 116, 104, 101, 114] : List Int) ++ ys).length := (List.getElem?_eq_some_iff.1 hj).1
      have h2 : (cur.toList.take ((5 + ys.length) * 1))[j]? = some (Value.int .u8 p) := by rw [htake, e, List.getElem?_map, hj]; rfl
      rw [List.getElem?_take, if_pos (by omega)] at h2
      simpa using h2)
    rw [hsum] at hf
    exact Kd.F_mono hf (fun k hk => .inr (hk ▸ hge))
end Go.Proofs.Yteaiefkadmlabaa.P
