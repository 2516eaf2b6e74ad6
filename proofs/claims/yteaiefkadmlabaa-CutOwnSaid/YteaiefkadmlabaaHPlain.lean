/- Machine steps of the program, written by a program of this session out of the translation. -/
import Derived.Test.YteaiefkadmlabaaP0
namespace Go.Proofs.Yteaiefkadmlabaa.P
open Go.RowKit Go.Proofs.YteaiefkadmlabaaW.PrintWords Go.Proofs.YteaiefkadmlabaaW.PrintLast Go.Proofs.YteaiefkadmlabaaW.PrintMore
attribute [local go_sem] max2_int min2_int max_two min_two max_three min_three max_four min_four   -- for this text's walks alone
set_option linter.unusedVariables false
set_option linter.unusedSimpArgs false

/-! coppicelaw9.plain: n items of one letter and the same 500 bytes. -/
def zeros500 : List Int := List.replicate 500 0
def plainAt (i : Nat) : S38 := ⟨[97 + (i : Int)], zeros500, 500, 0⟩
def plainL (n : Nat) : List (S38) := (List.range n).map plainAt
theorem plainL_succ (n : Nat) : plainL (n + 1) = plainL n ++ [plainAt n] := by simp [plainL, List.range_succ]
theorem plainL_length (n : Nat) : (plainL n).length = n := by simp [plainL]
def coppicelaw9_plain.f (a0 : Int) : Option (List (S38)) := if 0 ≤ a0 ∧ a0 ≤ 20 then some (plainL a0.toNat) else none
set_option maxHeartbeats 4000000 in
set_option maxRecDepth 100000 in
theorem coppicelaw9_plain.calls (a0 : Int) (r : List (S38)) (w : World) (h : coppicelaw9_plain.f a0 = some r) :
    Calls Try.prog 34 #[.int .i64 a0] w fun e w' => ∃ v0_ : Value, e = .returned (v0_) ∧ Kd.N k38 38 w' w.heap.size (fun k_ => (w.heap.size ≤ k_)) v0_ r ∧ Below w.heap.size w w' := by
  unfold coppicelaw9_plain.f at h
  split at h
  case isFalse => cases h
  rename_i hb
  obtain ⟨n, rfl⟩ := Int.eq_ofNat_of_zero_le hb.1
  obtain rfl := Option.some.inj h
  have hn : n ≤ 20 := by omega
  simp only [Int.toNat_natCast]
  clear h hb
  go_enter Try.func34, Try.ntmps34
  go_wp2_with (refine Kd.R_make (Kd.int .u8) (w0 := w) w.heap.size 5 rfl (N := 6) rfl 32 _ _ rfl 500 rfl rfl Try.underlying32 (.int .u8 0) 1 info5 rfl (by decide) (by omega) (0 : Int) (ok := fun _ => True) (okp := fun _ => True) rfl (fun _ hk => hk) trivial (by omega) (by decide) (Below.refl _ _) (Nat.le_refl _) ?_; intro bv w1 hr hb hg hat)
  obtain ⟨A0, c0, rfl, hc0, hC0⟩ := Kd.R_reads hr
  have HF := Aside0.mk (show Kd.F (Kd.int .u8) w1 (fun k => some k = (Value.slice A0 zeros500.length c0).ownBlock) A0 zeros500.length zeros500 from Kd.R_F (Kd.R_tight rfl hr))
  obtain ⟨gb, hgb, hgle⟩ := hat
  have hgt : ∃ cells, w1.heap[gb]? = some (.cells cells 5 (0, 0)) := by
    obtain ⟨inner, ho⟩ := Kd.R_own hr
    exact own_typed ho gb hgb
  have hlen : (List.replicate (500 : Int).toNat (0 : Int)).length = 500 := rfl
  have HZ := Aside0.mk (show zeros500.length ≤ c0 from hc0)
  have HGB := Aside0.mk hgb
  have HT := Aside0.mk hgt
  have HB := Aside0.mk hb
  have HG := Aside0.mk hgle
  rw [hlen]
  clear hr hc0 hC0 hgb hgt hb hgle hg hlen
  go_loopw [3, 5] (fun v3 v5 wr => ∃ i : Nat, i ≤ n ∧ v5 = .int .i64 i ∧ Aside0 (Kd.N k38 38 wr w.heap.size (fun k_ => (w.heap.size ≤ k_)) v3 (plainL i)) ∧ Aside0 (Below w.heap.size w wr) ∧ Aside0 (w1.heap.size ≤ wr.heap.size) ∧ Aside0 (∀ k, k < w1.heap.size → some k = (Value.slice A0 500 c0).ownBlock → wr.heap[k]? = w1.heap[k]?)) (fun _ v5 _ => n - (intOf v5).toNat)
  case atStart => exact ⟨0, Nat.zero_le _, rfl, ⟨Kd.N_nil _ _ _ _ _⟩, HB, ⟨Nat.le_refl _⟩, ⟨fun _ _ _ => rfl⟩⟩
  case round =>
    obtain ⟨i, hi, rfl, HN, HBr, HS, HK⟩ := hrel
    by_cases hlt : i < n
    · have hcv : IntKind.u8.wrap (97 + (i : Int)) = 97 + (i : Int) := IntWalk.u8_in _ (by omega)
      obtain ⟨W, hW⟩ : ∃ W, W = wr.alloc (.cells #[.int .u8 (97 + (i : Int))] 5) := ⟨_, rfl⟩
      have hWb : Below wr.heap.size wr W := by rw [hW]; exact below_alloc (Below.refl _ _) _
      have hWs : W.heap.size = wr.heap.size + 1 := by rw [hW]; simp
      have hkey : Kd.R (Kd.int .u8) 5 W wr.heap.size (fun _ => True) (.slice (some ⟨wr.heap.size, 0, none⟩) 1 1) [97 + (i : Int)] := by
        rw [hW]
        exact Kd.R_of_own (own_lit wr wr.heap.size 5 .u8 [97 + (i : Int)] (Nat.le_refl _) (by simp)) (fun _ _ => trivial)
      have hneq : some gb ≠ u3.ownBlock := by
        obtain ⟨cells, hcells⟩ := HT.out
        have hlt1 : gb < w1.heap.size := blk_lt hcells
        exact Kd.N_ne HN.out ((HK.out gb hlt1 HGB.out.symm).trans hcells) (by decide)
      have HKEY := Aside0.mk (Kd.F_mono (ok' := fun k_ => (w.heap.size ≤ k_) ∧ some k_ ≠ u3.ownBlock) (Kd.R_F (Kd.R_tight rfl hkey)) (fun k hk => by
        have he : k = wr.heap.size := by simpa [Value.ownBlock] using hk
        subst he
        refine ⟨HBr.out.size, fun hc => ?_⟩
        exact absurd (Kd.N_lt HN.out _ hc.symm) (Nat.lt_irrefl _)))
      have HZE := Aside0.mk (Kd.F_mono (ok' := fun k_ => (w.heap.size ≤ k_) ∧ some k_ ≠ u3.ownBlock) (Kd.F_step (W1 := W) HF.out (fun k hk hlt1 => by
        rw [hWb.block k (Nat.lt_of_lt_of_le hlt1 HS.out)]
        exact HK.out k hlt1 hk)) (fun k hk => by
        have he : k = gb := by
          have h2 := hk.trans HGB.out
          exact Option.some.inj h2
        subst he
        exact ⟨HG.out, hneq⟩))
      have HO := Aside0.mk (Kd.N_below HN.out hWb)
      have HBW := Aside0.mk (below_then HBr.out HBr.out.size hWb)
      have HWB := Aside0.mk hWb
      have HNE := Aside0.mk hneq
      have hlen : (plainL i).length = i := plainL_length i
      have HLEN := Aside0.mk hlen
      have hW' := hW.symm
      clear hWb hWs hkey hneq hlen hW HN
      go_wp2_with ((with_reducible refine gate_builtin (b := .append) (xs := #[.tmp 12, .tmp 19]) rfl ?_); at_builtin; refine Kd.N_append k38 (w0 := w) (W := W) w.heap.size rfl (.tmp 12) (.tmp 19) 24 38 (.agg #[(.slice none 0 0), (.slice none 0 0), (.int .i64 0), (.int .i64 0)]) 64 rfl Try.underlying24 info38 rfl (by decide) (by omega) u3 (plainL i) (plainAt i) [.slice (some ⟨wr.heap.size, 0, none⟩) 1 1, .slice A0 500 c0, .int .i64 500, .int .i64 0] (fun k_ => (w.heap.size ≤ k_)) (fun k_ => (w.heap.size ≤ k_) ∧ some k_ ≠ u3.ownBlock) rfl rfl ?aP (fun _ hk => hk) ?aF ?aO ?aB ?aS ?aL ?_; (case aP => exact k38_mkF _ _ (plainAt i) (Nat.le_refl _) HKEY.out HZ.out HZE.out); (case aF => exact fun k hk => Nat.le_trans HBW.out.size hk); (case aO => exact HO.out); (case aB => exact HBW.out); (case aS => exact HBW.out.size); (case aL => rw [HLEN.out]; omega); intro v1 w2 ho hb2 hg2 hat2)
      refine ⟨⟨i + 1, by omega, by go_num, ⟨by rw [plainL_succ]; exact ho⟩, ⟨hb2⟩, ⟨?_⟩, ⟨fun k hk hko => ?_⟩⟩, by simp [intOf]; omega⟩
      · exact Nat.le_trans HS.out (Nat.le_trans HWB.out.size hg2.size)
      · have he : k = gb := Option.some.inj (hko.trans HGB.out)
        rw [hg2.block k (Nat.lt_of_lt_of_le hk (Nat.le_trans HS.out HWB.out.size)) (by rw [he]; exact HNE.out), HWB.out.block k (Nat.lt_of_lt_of_le hk HS.out)]
        exact HK.out k hk hko
    · obtain rfl : i = n := by omega
      go_wp2
      go_ret
      exact ⟨_, rfl, HN.out, HBr.out⟩

end Go.Proofs.Yteaiefkadmlabaa.P
