import Derived.Test.YteaiefkadmlabaaM4
import Derived.Test.YteaiefkadmlabaaP20
import Derived.Test.YteaiefkadmlabaaP13
import Derived.Test.YteaiefkadmlabaaHFirst
/-! What CutOwn calls, at any list. -/
namespace Go.Proofs.Yteaiefkadmlabaa.P
open Go.RowKit Go.Proofs.YteaiefkadmlabaaW.PrintWords Go.Proofs.YteaiefkadmlabaaW.PrintMore
/-- What stands between two rounds. -/
structure OwnInv (w w' : World) (s n m : Nat) (v8 v9 : Value) (q : Nat) (L : List It) (M : List (List Int)) : Prop where
  items : Kd.N k38 38 w' w.heap.size (fun k => k < s) v8 L
  seps : Kd.N (Kd.slice 5 (Kd.int .u8)) 32 w' s (fun k => s ≤ k) v9 M
  below : Below w.heap.size w w'
  size : s ≤ w'.heap.size
  long : L.length = n + 1
  longs : M.length = m + 1
  keys : ∀ x ∈ L, x.f0.length ≤ 140737488351240 ∧ x.f1.length ≤ 140737488351240
  lens : ∀ x ∈ M, x.length ≤ 140737488351240 + 5 * q
theorem below_more {B B' : Nat} {w w1 w2 : World} (h : Below B w w1) (hB : B ≤ B') (k : Below B' w1 w2) : Below B w w2 :=
  ⟨k.os.trans h.os, k.tape.trans h.tape, k.output.trans h.output, Nat.le_trans h.size k.size, fun i hi => (k.block i (by omega)).trans (h.block i hi)⟩
theorem own_keys {l0 : List It} (h : Bitems l0) : ∀ x ∈ l0 ++ [(⟨[], [], 77, 0⟩ : It)], x.f0.length ≤ 140737488351240 ∧ x.f1.length ≤ 140737488351240 := fun x hx => by
  rcases List.mem_append.1 hx with h1 | h1
  · have := (h.1 x h1).1.2
    have := (h.1 x h1).2.1.2
    omega
  · rw [List.mem_singleton.1 h1]
    exact ⟨by simp, by simp⟩
theorem own_lens {l1 : List (List Int)} (h : Blists l1) : ∀ x ∈ l1 ++ [[109, 97, 114, 107]], x.length ≤ 140737488351240 + 5 * 0 := fun x hx => by
  rcases List.mem_append.1 hx with h1 | h1
  · have := (h.1 x h1).2
    omega
  · rw [List.mem_singleton.1 h1]
    simp
theorem bytes_C (W : World) (g : Nat) (xs : List Int) (fr : Nat × Nat) (hl : xs.length ≤ 9223372036854775807) (h : W.heap[g]? = some (.cells (xs.map (Value.int .u8)).toArray 5 fr)) : Kd.C (Kd.int .u8) W (some ⟨g, 0, none⟩) xs.length xs := by
  refine ⟨rfl, hl, fun _ => ⟨_, rfl, fun j p hj => ⟨[.int .u8 p], rfl, rfl, fun i u hu => ?_⟩⟩⟩
  match i, hu with
  | 0, hu =>
    obtain rfl : Value.int .u8 p = u := by simpa using hu
    rw [show (Kd.int IntKind.u8).sz = 1 from rfl, add_at, Nat.zero_add, Nat.mul_one, Nat.add_zero]
    simp [World.cell?, h, hj]
theorem bytes_F (W : World) (g : Nat) (xs : List Int) (fr : Nat × Nat) (hl : xs.length ≤ 9223372036854775807) (h : W.heap[g]? = some (.cells (xs.map (Value.int .u8)).toArray 5 fr)) : Kd.F (Kd.int .u8) W (fun k => k = g) (some ⟨g, 0, none⟩) xs.length xs := fun W' hW => by
  have hlt : g < W.heap.size := by
    rcases Nat.lt_or_ge g W.heap.size with h1 | h1
    · exact h1
    · rw [Array.getElem?_eq_none h1] at h; cases h
  exact bytes_C W' g xs fr hl ((hW g rfl hlt).trans h)
theorem same_item (x : It) : coppiceref_SameItem.f x.f0 x.f1 x.f2 x.f3 x.f0 x.f1 x.f2 x.f3 = some true := by
  unfold coppiceref_SameItem.f coppiceref_SameBytes.f
  simp
theorem same_items_loop (l : List It) (h4 : l.length ≤ 2000) (d : Nat) : ∀ i : Nat, i + d = l.length → Ev (fun k => coppiceref_SameItems.l0 k l l i) true := by
  induction d with
  | zero =>
    intro i hi
    refine Ev.step (f := fun _ => some true) (fun k => ?_) (Ev.now _)
    simp only [coppiceref_SameItems.l0]
    rw [if_neg (by omega)]
  | succ d ih =>
    intro i hi
    refine Ev.step (f := fun k => coppiceref_SameItems.l0 k l l ((i + 1 : Nat) : Int)) (fun k => ?_) (ih (i + 1) (by omega))
    simp only [coppiceref_SameItems.l0]
    rw [if_pos (by omega), if_pos (by omega), if_pos (by omega), same_item, wrap_id _ (by omega) (by omega)]
    rfl
theorem same_items (l : List It) (h4 : l.length ≤ 2000) : Ev (fun k => coppiceref_SameItems.f k l l) true := by
  refine Ev.congr (fun k => ?_) (same_items_loop l h4 l.length 0 (by omega))
  unfold coppiceref_SameItems.f
  rw [if_pos rfl]
  rfl
theorem same_lists_loop (l : List (List Int)) (h4 : l.length ≤ 2000) (d : Nat) : ∀ i : Nat, i + d = l.length → Ev (fun k => coppiceref_SameByteLists.l0 k l l i) true := by
  induction d with
  | zero =>
    intro i hi
    refine Ev.step (f := fun _ => some true) (fun k => ?_) (Ev.now _)
    simp only [coppiceref_SameByteLists.l0]
    rw [if_neg (by omega)]
  | succ d ih =>
    intro i hi
    refine Ev.step (f := fun k => coppiceref_SameByteLists.l0 k l l ((i + 1 : Nat) : Int)) (fun k => ?_) (ih (i + 1) (by omega))
    simp only [coppiceref_SameByteLists.l0]
    rw [if_pos (by omega), if_pos (by omega), if_pos (by omega), show coppiceref_SameBytes.f (rd_L1 l i) (rd_L1 l i) = some true by simp [coppiceref_SameBytes.f], wrap_id _ (by omega) (by omega)]
    rfl
theorem same_lists (l : List (List Int)) (h4 : l.length ≤ 2000) : Ev (fun k => coppiceref_SameByteLists.f k l l) true := by
  refine Ev.congr (fun k => ?_) (same_lists_loop l h4 l.length 0 (by omega))
  unfold coppiceref_SameByteLists.f
  rw [if_pos rfl]
  rfl
theorem Ev.get {α : Type} {g : Nat → Option α} {r : α} (h : Ev g r) : ∃ k, g k = some r := by
  obtain ⟨K, h⟩ := h
  exact ⟨K, h K (Nat.le_refl _)⟩
abbrev KL := k38
abbrev KM := Kd.slice 5 (Kd.int .u8)
/-- The answers of what is called in a round, in every world behind. -/
structure OwnCalls (w' : World) (n m g8 c8 g9 c9 : Nat) (i j : Int) (x y : Bool) : Prop where
  c15 : ∀ W, Below w'.heap.size w' W → Calls Try.prog 15 #[.slice (some ⟨g8, 0, none⟩) (n + 1) c8] W fun e W' => ∃ A c, e = .returned (.slice A (n + 1) c) ∧ Below W.heap.size W W' ∧ ∀ V, Below W'.heap.size W' V → ∀ U, Below w'.heap.size w' U → Below V.heap.size V U → Calls Try.prog 32 #[.slice (some ⟨g8, 0, none⟩) (n + 1) c8, .slice A (n + 1) c] U fun e U' => e = .returned (.bool true) ∧ Below U.heap.size U U'
  c18 : ∀ W, Below w'.heap.size w' W → Calls Try.prog 18 #[.slice (some ⟨g9, 0, none⟩) (m + 1) c9] W fun e W' => ∃ A c, e = .returned (.slice A (m + 1) c) ∧ Below W.heap.size W W' ∧ ∀ V, Below W'.heap.size W' V → ∀ U, Below w'.heap.size w' U → Below V.heap.size V U → Calls Try.prog 33 #[.slice (some ⟨g9, 0, none⟩) (m + 1) c9, .slice A (m + 1) c] U fun e U' => e = .returned (.bool true) ∧ Below U.heap.size U U'
  c14 : ∀ W, Below w'.heap.size w' W → Calls Try.prog 14 #[.slice (some ⟨g8, 0, none⟩) n c8] W fun e W' => e = .returned (.int .i64 i) ∧ Below W.heap.size W W'
  c17 : ∀ W, Below w'.heap.size w' W → Calls Try.prog 17 #[.slice (some ⟨g9, 0, none⟩) m c9] W fun e W' => e = .returned (.int .i64 j) ∧ Below W.heap.size W W'
  c20 : ∀ W, Below w'.heap.size w' W → Calls Try.prog 20 #[.slice (some ⟨g8, 0, none⟩) n c8, .slice (some ⟨g8, 0, none⟩) n c8] W fun e W' => e = .returned (.bool x) ∧ Below W.heap.size W W'
  c21 : ∀ W g, Below w'.heap.size w' W → Kd.C (Kd.int .u8) W (some ⟨g, 0, none⟩) 1 [115] → Calls Try.prog 21 #[.slice (some ⟨g9, 0, none⟩) m c9, .slice (some ⟨g, 0, none⟩) 1 1, .slice (some ⟨g9, 0, none⟩) m c9] W fun e W' => e = .returned (.bool y) ∧ Below W.heap.size W W'
  c16 : ∀ W, Below w'.heap.size w' W → Calls Try.prog 16 #[.slice (some ⟨g8, 0, none⟩) n c8] W fun e W' => e = .returned (.int .i64 i) ∧ Below W.heap.size W W'
  c19 : ∀ W, Below w'.heap.size w' W → Calls Try.prog 19 #[.slice (some ⟨g9, 0, none⟩) m c9] W fun e W' => e = .returned (.int .i64 j) ∧ Below W.heap.size W W'
  c22 : ∀ W, Below w'.heap.size w' W → Calls Try.prog 22 #[.slice (some ⟨g8, 0, none⟩) n c8, .slice (some ⟨g8, 0, none⟩) n c8] W fun e W' => e = .returned (.bool x) ∧ Below W.heap.size W W'
  c23 : ∀ W g, Below w'.heap.size w' W → Kd.C (Kd.int .u8) W (some ⟨g, 0, none⟩) 1 [115] → Calls Try.prog 23 #[.slice (some ⟨g9, 0, none⟩) m c9, .slice (some ⟨g, 0, none⟩) 1 1, .slice (some ⟨g9, 0, none⟩) m c9] W fun e W' => e = .returned (.bool y) ∧ Below W.heap.size W W'
  room8 : n + 1 ≤ c8
  room9 : m + 1 ≤ c9
theorem own_round {w w' : World} {s n m g8 c8 g9 c9 q : Nat} {L : List It} {M : List (List Int)} (h : OwnInv w w' s n m (.slice (some ⟨g8, 0, none⟩) (n + 1) c8) (.slice (some ⟨g9, 0, none⟩) (m + 1) c9) q L M) (hn : n ≤ 400) (hm : m ≤ 400) (hq : q ≤ 1) :
    ∃ i j x y, OwnCalls w' n m g8 c8 g9 c9 i j x y := by
  obtain ⟨_, room8, hC8⟩ := Kd.N_reads' h.items
  obtain ⟨_, room9, hC9⟩ := Kd.N_reads' h.seps
  have hL := h.long
  have hM := h.longs
  have hT8 := Kd.C_take (m := n) hC8 (show n ≤ L.length by omega)
  have hT9 := Kd.C_take (m := m) hC9 (show m ≤ M.length by omega)
  obtain ⟨a, ha⟩ : ∃ a, a = L.take n := ⟨_, rfl⟩
  obtain ⟨b, hb⟩ : ∃ b, b = M.take m := ⟨_, rfl⟩
  have hal : a.length = n := by rw [ha, List.length_take]; omega
  have hbl : b.length = m := by rw [hb, List.length_take]; omega
  rw [← ha, hal] at hT8
  rw [← hb, hbl] at hT9
  rw [hL] at hC8
  rw [hM] at hC9
  have hka : ∀ x ∈ a, x.f0.length ≤ 140737488351300 := fun x hx => by
    have := (h.keys x (List.mem_of_mem_take (ha ▸ hx))).1
    omega
  have hkb : ∀ x ∈ b, x.length ≤ 140737488351300 := fun x hx => by
    have := h.lens x (List.mem_of_mem_take (hb ▸ hx))
    omega
  have hsa : Small a := ⟨by omega, hka⟩
  have hsb : SmallB b := ⟨by omega, hkb⟩
  have hs1 : SmallB [[115]] := ⟨by simp, fun x hx => by rw [List.mem_singleton.1 hx]; simp⟩
  have hsaa : Small (a ++ a) := hsa.append hsa (by omega)
  have hsbb : SmallB (b ++ [[115]] ++ b) := (hsb.append hs1 (by rw [List.length_singleton]; omega)).append hsb (by rw [List.length_append, List.length_singleton]; omega)
  obtain ⟨k15, f15⟩ := Ev.get (items_f2 L (by omega) (fun x hx => by have := h.keys x hx; omega))
  obtain ⟨k18, f18⟩ := Ev.get (lists_f2 M (by omega) (fun x hx => by have := h.lens x hx; omega))
  obtain ⟨k32, f32⟩ := Ev.get (same_items L (by omega))
  obtain ⟨k33, f33⟩ := Ev.get (same_lists M (by omega))
  obtain ⟨k14, f14⟩ := Ev.get (leaf_f a hsa)
  obtain ⟨k17, f17⟩ := Ev.get (branch_f b hsb)
  obtain ⟨k16, f16⟩ := Ev.get (rleaf_f a hsa)
  obtain ⟨k19, f19⟩ := Ev.get (rbranch_f b hsb)
  obtain ⟨k20, f20⟩ := Ev.get (joinL_f a a hsaa (by omega) (by omega))
  obtain ⟨k22, f22⟩ := Ev.get (rjoinL_f a a hsaa (by omega) (by omega))
  obtain ⟨k21, f21⟩ := Ev.get (joinB_f b [115] b hsbb (by omega) (by omega))
  obtain ⟨k23, f23⟩ := Ev.get (rjoinB_f b [115] b hsbb (by omega) (by omega))
  have ra : a.length ≤ c8 := by omega
  have rb : b.length ≤ c9 := by omega
  have ga : ∀ W, Below w'.heap.size w' W → Kd.C KL W (some ⟨g8, 0, none⟩) a.length a := fun W hW => by rw [hal]; exact Kd.C_below hT8 hW
  have gb : ∀ W, Below w'.heap.size w' W → Kd.C KM W (some ⟨g9, 0, none⟩) b.length b := fun W hW => by rw [hbl]; exact Kd.C_below hT9 hW
  have gL : ∀ W, Below w'.heap.size w' W → Kd.C KL W (some ⟨g8, 0, none⟩) L.length L := fun W hW => by rw [hL]; exact Kd.C_below hC8 hW
  have gM : ∀ W, Below w'.heap.size w' W → Kd.C KM W (some ⟨g9, 0, none⟩) M.length M := fun W hW => by rw [hM]; exact Kd.C_below hC9 hW
  have va : ∀ W, Below w'.heap.size w' W → Kd.V KL 38 W W.heap.size (fun _ => True) (.slice (some ⟨g8, 0, none⟩) a.length c8) a := fun W hW => Kd.V_mk ra (F_all k38_heap (ga W hW))
  have vb : ∀ W, Below w'.heap.size w' W → Kd.V KM 32 W W.heap.size (fun _ => True) (.slice (some ⟨g9, 0, none⟩) b.length c9) b := fun W hW => Kd.V_mk rb (F_all (Kd.heap_slice _ (Kd.heap_int _)) (gb W hW))
  have vs : ∀ W (g : Nat), Kd.C (Kd.int .u8) W (some ⟨g, 0, none⟩) 1 [115] → Kd.V (Kd.int .u8) 5 W W.heap.size (fun _ => True) (.slice (some ⟨g, 0, none⟩) ([115] : List Int).length 1) [115] := fun W g hg => Kd.V_mk (Nat.le_refl 1) (F_all (Kd.heap_int _) hg)
  refine ⟨(leafCut a : Int), (branchCut b : Int), decide (sizeL (a ++ a) ≤ 3000), decide (sizeB (b ++ [[115]] ++ b) ≤ 3000), ?_⟩
  exact {
    c15 := fun W hW => by
      have := coppiceref_Items.calls k15 (some ⟨g8, 0, none⟩) c8 L L W (gL W hW) (by omega) f15
      rw [hL] at this
      refine this.mono ?_
      rintro e W' ⟨v, rfl, hs, hb'⟩
      obtain ⟨A, c, rfl, hc, hC⟩ := Kd.N_reads (Kd.S_N hs)
      refine ⟨A, c, by rw [hL], hb', fun V hV U hU hVU => ?_⟩
      have := coppiceref_SameItems.calls k32 (some ⟨g8, 0, none⟩) c8 L A c L true U (gL U hU) (by omega) (Kd.C_below (Kd.C_below hC hV) hVU) hc f32
      rwa [hL] at this
    c18 := fun W hW => by
      have := coppiceref_ByteLists.calls k18 (some ⟨g9, 0, none⟩) c9 M M W (gM W hW) (by omega) f18
      rw [hM] at this
      refine this.mono ?_
      rintro e W' ⟨v, rfl, hs, hb'⟩
      obtain ⟨A, c, rfl, hc, hC⟩ := Kd.N_reads (Kd.S_N hs)
      refine ⟨A, c, by rw [hM], hb', fun V hV U hU hVU => ?_⟩
      have := coppiceref_SameByteLists.calls k33 (some ⟨g9, 0, none⟩) c9 M A c M true U (gM U hU) (by omega) (Kd.C_below (Kd.C_below hC hV) hVU) hc f33
      rw [hM] at this
      refine this.mono ?_
      rintro e U' ⟨rfl, ⟨nd, rfl⟩⟩
      exact ⟨rfl, pw_below_drewN (Below.refl _ _) nd⟩
    c14 := fun W hW => by
      have := cut_Leaf.calls k14 (some ⟨g8, 0, none⟩) c8 a _ W (ga W hW) ra f14
      rwa [hal] at this
    c17 := fun W hW => by
      have := cut_Branch.calls k17 (some ⟨g9, 0, none⟩) c9 b _ W (gb W hW) rb f17
      rwa [hbl] at this
    c16 := fun W hW => by
      have := coppiceref9_Leaf.calls k16 (some ⟨g8, 0, none⟩) c8 a _ W (ga W hW) ra f16
      rwa [hal] at this
    c19 := fun W hW => by
      have := coppiceref9_Branch.calls k19 (some ⟨g9, 0, none⟩) c9 b _ W (gb W hW) rb f19
      rwa [hbl] at this
    c20 := fun W hW => by
      have := cut_JoinLeaves.calls k20 (some ⟨g8, 0, none⟩) c8 a (some ⟨g8, 0, none⟩) c8 a _ W (ga W hW) ra (ga W hW) ra f20
      rwa [hal] at this
    c22 := fun W hW => by
      have := coppiceref9_JoinLeaves.calls k22 (fun _ => True) (some ⟨g8, 0, none⟩) c8 a (fun _ => True) (some ⟨g8, 0, none⟩) c8 a _ W (va W hW) (va W hW) f22
      rwa [hal] at this
    c21 := fun W g hW hg => by
      have := cut_JoinBranches.calls k21 (fun _ => True) (some ⟨g9, 0, none⟩) c9 b (fun _ => True) (some ⟨g, 0, none⟩) 1 [115] (fun _ => True) (some ⟨g9, 0, none⟩) c9 b _ W (vb W hW) (vs W g hg) (vb W hW) f21
      rwa [hbl] at this
    c23 := fun W g hW hg => by
      have := coppiceref9_JoinBranches.calls k23 (fun _ => True) (some ⟨g9, 0, none⟩) c9 b (fun _ => True) (some ⟨g, 0, none⟩) 1 [115] (fun _ => True) (some ⟨g9, 0, none⟩) c9 b _ W (vb W hW) (vs W g hg) (vb W hW) f23
      rwa [hbl] at this
    room8 := room8
    room9 := room9 }
end Go.Proofs.Yteaiefkadmlabaa.P
