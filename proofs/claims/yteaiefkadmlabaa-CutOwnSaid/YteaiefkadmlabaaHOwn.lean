import Derived.Test.YteaiefkadmlabaaOwnPut
import Derived.Lib.SlBytesConst
import Derived.ArgAppend
/-! The walk of CutOwn. -/
namespace Go.Proofs.Yteaiefkadmlabaa.P
open Go.RowKit Go.Proofs.YteaiefkadmlabaaW.PrintWords Go.Proofs.YteaiefkadmlabaaW.PrintLast Go.Proofs.YteaiefkadmlabaaW.PrintMore
attribute [local go_sem] max2_int min2_int max_two min_two max_three min_three max_four min_four
set_option linter.unusedVariables false
set_option linter.unusedSimpArgs false
theorem own_fresh {w W : World} {s n m g9 c9 : Nat} {v8 : Value} {q : Nat} {L : List It} {M : List (List Int)} {o : Obj} {k : Nat} (h : OwnInv w W s n m v8 (.slice (some ⟨g9, 0, none⟩) (m + 1) c9) q L M) (hk : k = W.heap.size ∨ (W.alloc o).heap.size ≤ k) : s ≤ k ∧ k ≠ g9 := by
  have h1 := Kd.N_lt h.seps g9 rfl
  have h2 := h.size
  simp at hk
  constructor <;> omega
theorem own_index (a : Int) (n : Nat) (h : 0 < n) (hn : n ≤ 400) : 0 ≤ (wrap64 (a.tmod n + n)).tmod n ∧ (wrap64 (a.tmod n + n)).tmod n < n := by
  have h1 := Int.tmod_lt_of_pos a (show (0 : Int) < n by omega)
  have h2 := Int.lt_tmod_of_pos a (show (0 : Int) < n by omega)
  rw [wrap_id _ (by omega) (by omega)]
  exact ⟨Int.tmod_nonneg _ (by omega), Int.tmod_lt_of_pos _ (by omega)⟩
set_option maxHeartbeats 8000000 in
set_option maxRecDepth 100000 in
theorem own_calls (A0 : Option Addr) (c0 : Nat) (l0 : List It) (A1 : Option Addr) (c1 : Nat) (l1 : List (List Int)) (at_ : Int) (w : World)
    (hr0 : Kd.C k38 w A0 l0.length l0) (hc0 : l0.length ≤ c0) (hr1 : Kd.C (Kd.slice 5 (Kd.int .u8)) w A1 l1.length l1) (hc1 : l1.length ≤ c1) (hB0 : Bitems l0) (hB1 : Blists l1) :
    Calls Try.prog 10 #[.slice A0 l0.length c0, .slice A1 l1.length c1, .int .i64 at_] w fun e w' => e = .returned (.bool true) ∧ Below w.heap.size w w' := by
  have HR0 := Aside0.mk hr0
  have HC0 := Aside0.mk hc0
  have HR1 := Aside0.mk hr1
  have HC1 := Aside0.mk hc1
  have HB0 := Aside0.mk hB0
  have HB1 := Aside0.mk hB1
  clear hr0 hc0 hr1 hc1 hB0 hB1
  by_cases c1b : (l0.length : Int) > 400
  · have c1a : decide (400 < (l0.length : Int)) = true := decide_eq_true c1b
    have c1c : decide (400 < l0.length) = true := decide_eq_true (by omega)
    clear c1b
    go_enter Try.func10, Try.ntmps10
    go_wp2_with fail
    refine (coppicelaw9_first.calls true _ rfl).mono ?_
    rintro e w1 ⟨rfl, hb⟩
    have HB := Aside0.mk hb
    clear hb
    go_wp2
    go_ret
    exact ⟨rfl, HB.out⟩
  by_cases c2b : (l1.length : Int) > 400
  · have c1a : decide (400 < (l0.length : Int)) = false := decide_eq_false c1b
    have c1c : decide (400 < l0.length) = false := decide_eq_false (by omega)
    have c2a : decide (400 < (l1.length : Int)) = true := decide_eq_true c2b
    have c2c : decide (400 < l1.length) = true := decide_eq_true (by omega)
    clear c1b c2b
    go_enter Try.func10, Try.ntmps10
    go_wp2_with fail
    refine (coppicelaw9_first.calls true _ rfl).mono ?_
    rintro e w1 ⟨rfl, hb⟩
    have HB := Aside0.mk hb
    clear hb
    go_wp2
    go_ret
    exact ⟨rfl, HB.out⟩
  have c1a : decide (400 < (l0.length : Int)) = false := decide_eq_false c1b
  have c1c : decide (400 < l0.length) = false := decide_eq_false (by omega)
  have c2a : decide (400 < (l1.length : Int)) = false := decide_eq_false c2b
  have c2c : decide (400 < l1.length) = false := decide_eq_false (by omega)
  have H4 := Aside0.mk (show l0.length ≤ 400 by omega)
  have H5 := Aside0.mk (show l1.length ≤ 400 by omega)
  clear c1b c2b
  obtain ⟨k1, hk1⟩ := items_f l0 (by have := H4.out; omega) HB0.out.1
  obtain ⟨k2, hk2⟩ := lists_f l1 (by have := H5.out; omega) HB1.out.1
  have K1 := Aside0.mk (show coppiceref_Items.f k1 l0 = some l0 from hk1 k1 (Nat.le_refl _))
  have K2 := Aside0.mk (show coppiceref_ByteLists.f k2 l1 = some l1 from hk2 k2 (Nat.le_refl _))
  clear hk1 hk2
  go_enter Try.func10, Try.ntmps10
  go_wp2_with fail
  refine (coppicelaw9_first.calls true _ rfl).mono ?_
  rintro e w1 ⟨rfl, hb⟩
  have HB := Aside0.mk hb
  clear hb
  go_wp2_with fail
  refine (coppiceref_Items.calls k1 A0 c0 l0 l0 _ (Kd.C_below HR0.out HB.out) HC0.out K1.out).mono ?_
  rintro e w2 ⟨v8, rfl, hs, hb⟩
  have HL := Aside0.mk (Kd.N_lower (Kd.S_N hs) HB.out.size)
  have HB2 := Aside0.mk (below_then HB.out HB.out.size hb)
  clear hs hb K1
  have HP0 := Aside0.mk (show ∀ W : World, Kd.FK k38 W (fun _ => False) (⟨[], [], 77, 0⟩ : It) [.slice none 0 0, .slice none 0 0, .int .i64 77, .int .i64 0] from fun W => k38_mkF W _ (⟨[], [], 77, 0⟩ : It) (Nat.le_refl _) (Kd.V_F (Kd.V_nil (Kd.int .u8) 5 W 0 _)) (Nat.le_refl _) (Kd.V_F (Kd.V_nil (Kd.int .u8) 5 W 0 _)))
  have HM0 := Aside0.mk (show (l0.length + 1) * 64 ≤ 140737488355328 by have := H4.out; omega)
  go_wp2_with ((with_reducible refine gate_builtin (b := .append) (xs := #[.tmp 34, .tmp 36]) rfl ?_); at_builtin; refine Kd.N_append k38 (w0 := w) w.heap.size rfl (.tmp 34) (.tmp 36) 24 38 (.agg #[(.slice none 0 0), (.slice none 0 0), (.int .i64 0), (.int .i64 0)]) 64 rfl Try.underlying24 info38 rfl (by decide) (by omega) v8 l0 (⟨[], [], 77, 0⟩ : It) [.slice none 0 0, .slice none 0 0, .int .i64 77, .int .i64 0] (fun _ => True) (fun _ => False) rfl rfl (HP0.out _) (fun _ h => h.elim) (fun _ _ => trivial) ?aO ?aB ?aS HM0.out ?_; (case aO => exact (by (with_reducible repeat (first | apply Kd.N_alloc | apply Kd.N_drewN | apply Kd.N_drew)); exact HL.out)); (case aB => exact HB2.out); (case aS => exact HB2.out.size); intro v8' w3 ho hb3 hg hat; have HL3 := Aside0.mk (Kd.N_mono (Kd.N_bound ho) (fun _ h => h.2)); have HB3 := Aside0.mk hb3; clear ho hb3 hg hat HP0 HL HB HB2 HM0)
  refine (coppiceref_ByteLists.calls k2 A1 c1 l1 l1 _ (Kd.C_below HR1.out HB3.out) HC1.out K2.out).mono ?_
  rintro e w4 ⟨v9, rfl, hs, hb⟩
  obtain ⟨s, hsz⟩ : ∃ s, s = w3.heap.size := ⟨_, rfl⟩
  have HM := Aside0.mk (show Kd.N (Kd.slice 5 (Kd.int .u8)) 32 w4 s (fun k => s ≤ k) v9 l1 from hsz ▸ Kd.N_mono (Kd.S_N (Kd.S_bound hs)) (fun _ h => h.2.1))
  have HL4 := Aside0.mk (show Kd.N k38 38 w4 w.heap.size (fun k => k < s) v8' (l0 ++ [(⟨[], [], 77, 0⟩ : It)]) from hsz ▸ Kd.N_below HL3.out hb)
  have HB4 := Aside0.mk (below_then HB3.out HB3.out.size hb)
  have HS4 := Aside0.mk (show s ≤ w4.heap.size from hsz ▸ hb.size)
  have HS3 := Aside0.mk (show w.heap.size ≤ s from hsz ▸ HB3.out.size)
  clear hs hb hsz HL3 K2 HB3
  have kc := fun (w : World) (C : Array Value) (n c : Nat) => Lib.run_convert_bytes_const (P := Try.prog) w 32 5 C n c Try.underlying32 Try.underlying5
  have HM0 := Aside0.mk (show (l1.length + 1) * 24 ≤ 140737488355328 by have := H5.out; omega)
  go_wp2_with ((with_reducible refine gate_builtin (b := .append) (xs := #[.tmp 39, .tmp 42]) rfl ?_); at_builtin; refine Kd.N_append (Kd.slice 5 (Kd.int .u8)) (w0 := w4) s rfl (.tmp 39) (.tmp 42) 28 32 (.slice none 0 0) 24 rfl Try.underlying28 info32 rfl (by decide) (by omega) v9 l1 [109, 97, 114, 107] [.slice (some ⟨w4.heap.size, 0, none⟩) 4 4] (fun k => s ≤ k) (fun k => k = w4.heap.size) rfl ?aX ?aP ?aQ ?aF ?aO ?aB ?aS HM0.out ?_; (case aX => simp [Act.eval]); (case aP => exact Kd.FK_slice_mk (Nat.le_refl 4) (bytes_F _ w4.heap.size [109, 97, 114, 107] (4, 5) (by decide) (heap_alloc_new w4 _))); (case aQ => exact fun k hk => ⟨hk ▸ HS4.out, fun he => by have := Kd.N_lt HM.out k he.symm; omega⟩); (case aF => exact fun k hk => by have := HS4.out; simp at hk; omega); (case aO => exact Kd.N_alloc HM.out _); (case aB => exact (Below.refl s w4).alloc HS4.out _); (case aS => have := HS4.out; simp; omega); intro v9' w5 ho hb5 hg hat; have HG := Aside0.mk hg; have HO := Aside0.mk ho; have HB5 := Aside0.mk hb5; clear ho hb5 hg hat)
  have HI0 := Aside0.mk (show OwnInv w w5 s l0.length l1.length v8' v9' 0 (l0 ++ [(⟨[], [], 77, 0⟩ : It)]) (l1 ++ [[109, 97, 114, 107]]) from { items := Kd.N_grown (Kd.N_alloc HL4.out _) HG.out (fun k hk he => by have := Kd.N_base HM.out k he.symm; omega), seps := HO.out, below := below_more HB4.out HS3.out HB5.out, size := Nat.le_trans HS4.out HB5.out.size, long := by simp, longs := by simp, keys := own_keys HB0.out, lens := own_lens HB1.out })
  clear HG HO HB5 HM HL4 HB4 HS4 HM0
  have hf8 := Kd.N_form HI0.out.items (by simp)
  have hf9 := Kd.N_form HI0.out.seps (by simp)
  obtain ⟨g8, c8, hv8, hg8, _, _⟩ := hf8
  obtain ⟨g9, c9, hv9, hg9, _, _⟩ := hf9
  rw [HI0.out.long] at hv8
  rw [HI0.out.longs] at hv9
  subst hv8 hv9
  have HG8 := Aside0.mk (show g8 < s from HI0.out.items.1 g8 rfl)
  have HG9 := Aside0.mk hg9
  have HG8b := Aside0.mk hg8
  clear hg8 hg9 HB0 HB1 HR0 HR1
  go_loopg [10, 11, 12, 13, 14, 15, 16, 17, 18, 19, 20, 21, 22] 2 (fun kq v10 v11 v12 v13 v14 v15 v16 v17 v18 v19 v20 v21 v22 w' => ∃ (rd : Int) (q : Nat) (L : List It) (M : List (List Int)), v10 = .int .i64 rd ∧ Aside0 (rd = q ∧ q + kq = 2) ∧ Aside0 (OwnInv w w' s l0.length l1.length (.slice (some ⟨g8, 0, none⟩) (l0.length + 1) c8) (.slice (some ⟨g9, 0, none⟩) (l1.length + 1) c9) q L M))
  case atStart => exact ⟨0, 0, _, _, rfl, ⟨rfl, rfl⟩, HI0⟩
  case round =>
    clear HI0
    obtain ⟨rd, q, L, M, rfl, HQ, HI⟩ := hrel
    by_cases cq : q < 2
    · have crd : decide (rd < 2) = true := decide_eq_true (by have := HQ.out.1; omega)
      obtain ⟨i, j, x, y, hcalls⟩ := own_round HI.out H4.out H5.out (by omega)
      have HC := Aside0.mk hcalls
      clear hcalls
      obtain ⟨i08, hi08, _, hsz8, _⟩ := info_parts info38
      obtain ⟨i09, hi09, _, hsz9, _⟩ := info_parts info32
      have hcut8 := cut_to (P := Try.prog) 24 38 .i64 Try.underlying24 hi08 (some ⟨g8, 0, none⟩) (l0.length + 1) c8 (l0.length : Int) (by omega) (by omega) HC.out.room8
      have hcut9 := cut_to (P := Try.prog) 28 32 .i64 Try.underlying28 hi09 (some ⟨g9, 0, none⟩) (l1.length + 1) c9 (l1.length : Int) (by omega) (by omega) HC.out.room9
      simp only [Int.toNat_natCast] at hcut8 hcut9
      clear hi08 hsz8 hi09 hsz9
      go_wp2_with fail
      refine (HC.out.c15 _ (Below.refl _ _)).mono ?_
      rintro e W1 ⟨A13, c13, rfl, hb, hsame⟩
      have B1 := Aside0.mk hb
      have S8 := Aside0.mk (hsame W1 (Below.refl _ _))
      clear hb hsame
      go_wp2_with fail
      refine (HC.out.c18 _ (by repeat (first | exact B1.out | apply below_alloc | apply pw_below_drewN | apply below_drew))).mono ?_
      rintro e W2 ⟨A14, c14, rfl, hb, hsame⟩
      have B2 := Aside0.mk (below_then (by repeat (first | exact B1.out | apply below_alloc | apply pw_below_drewN | apply below_drew)) (Below.size (by repeat (first | exact B1.out | apply below_alloc | apply pw_below_drewN | apply below_drew))) hb)
      have D2 := Aside0.mk (show Below W1.heap.size W1 W2 from hb)
      have E2 := Aside0.mk (Below.refl W2.heap.size W2)
      have S9 := Aside0.mk (hsame W2 (Below.refl _ _))
      clear hb hsame B1
      go_wp2_with fail
      refine (HC.out.c14 _ (by repeat (first | exact B2.out | apply below_alloc | apply pw_below_drewN | apply below_drew))).mono ?_
      rintro e W3 ⟨rfl, hb⟩
      have B3 := Aside0.mk (below_then (by repeat (first | exact B2.out | apply below_alloc | apply pw_below_drewN | apply below_drew)) (Below.size (by repeat (first | exact B2.out | apply below_alloc | apply pw_below_drewN | apply below_drew))) hb)
      have D3 := Aside0.mk (below_then (by repeat (first | exact D2.out | apply below_alloc | apply pw_below_drewN | apply below_drew)) (Below.size (by repeat (first | exact D2.out | apply below_alloc | apply pw_below_drewN | apply below_drew))) hb)
      have E3 := Aside0.mk (below_then (by repeat (first | exact E2.out | apply below_alloc | apply pw_below_drewN | apply below_drew)) (Below.size (by repeat (first | exact E2.out | apply below_alloc | apply pw_below_drewN | apply below_drew))) hb)
      clear hb B2 D2 E2
      go_wp2_with fail
      refine (HC.out.c17 _ (by repeat (first | exact B3.out | apply below_alloc | apply pw_below_drewN | apply below_drew))).mono ?_
      rintro e W4 ⟨rfl, hb⟩
      have B4 := Aside0.mk (below_then (by repeat (first | exact B3.out | apply below_alloc | apply pw_below_drewN | apply below_drew)) (Below.size (by repeat (first | exact B3.out | apply below_alloc | apply pw_below_drewN | apply below_drew))) hb)
      have D4 := Aside0.mk (below_then (by repeat (first | exact D3.out | apply below_alloc | apply pw_below_drewN | apply below_drew)) (Below.size (by repeat (first | exact D3.out | apply below_alloc | apply pw_below_drewN | apply below_drew))) hb)
      have E4 := Aside0.mk (below_then (by repeat (first | exact E3.out | apply below_alloc | apply pw_below_drewN | apply below_drew)) (Below.size (by repeat (first | exact E3.out | apply below_alloc | apply pw_below_drewN | apply below_drew))) hb)
      clear hb B3 D3 E3
      go_wp2_with fail
      refine (HC.out.c20 _ (by repeat (first | exact B4.out | apply below_alloc | apply pw_below_drewN | apply below_drew))).mono ?_
      rintro e W5 ⟨rfl, hb⟩
      have B5 := Aside0.mk (below_then (by repeat (first | exact B4.out | apply below_alloc | apply pw_below_drewN | apply below_drew)) (Below.size (by repeat (first | exact B4.out | apply below_alloc | apply pw_below_drewN | apply below_drew))) hb)
      have D5 := Aside0.mk (below_then (by repeat (first | exact D4.out | apply below_alloc | apply pw_below_drewN | apply below_drew)) (Below.size (by repeat (first | exact D4.out | apply below_alloc | apply pw_below_drewN | apply below_drew))) hb)
      have E5 := Aside0.mk (below_then (by repeat (first | exact E4.out | apply below_alloc | apply pw_below_drewN | apply below_drew)) (Below.size (by repeat (first | exact E4.out | apply below_alloc | apply pw_below_drewN | apply below_drew))) hb)
      clear hb B4 D4 E4
      go_wp2_with fail
      refine (HC.out.c21 _ _ (by repeat (first | exact B5.out | apply below_alloc | apply pw_below_drewN | apply below_drew)) (made_one _ 115 (1, 2))).mono ?_
      rintro e W6 ⟨rfl, hb⟩
      have B6 := Aside0.mk (below_then (by repeat (first | exact B5.out | apply below_alloc | apply pw_below_drewN | apply below_drew)) (Below.size (by repeat (first | exact B5.out | apply below_alloc | apply pw_below_drewN | apply below_drew))) hb)
      have D6 := Aside0.mk (below_then (by repeat (first | exact D5.out | apply below_alloc | apply pw_below_drewN | apply below_drew)) (Below.size (by repeat (first | exact D5.out | apply below_alloc | apply pw_below_drewN | apply below_drew))) hb)
      have E6 := Aside0.mk (below_then (by repeat (first | exact E5.out | apply below_alloc | apply pw_below_drewN | apply below_drew)) (Below.size (by repeat (first | exact E5.out | apply below_alloc | apply pw_below_drewN | apply below_drew))) hb)
      clear hb B5 D5 E5
      go_wp2_with fail
      refine (S8.out _ (by repeat (first | exact B6.out | apply below_alloc | apply pw_below_drewN | apply below_drew)) (by repeat (first | exact D6.out | apply below_alloc | apply pw_below_drewN | apply below_drew))).mono ?_
      rintro e W7 ⟨rfl, hb⟩
      have B7 := Aside0.mk (below_then (by repeat (first | exact B6.out | apply below_alloc | apply pw_below_drewN | apply below_drew)) (Below.size (by repeat (first | exact B6.out | apply below_alloc | apply pw_below_drewN | apply below_drew))) hb)
      have D7 := Aside0.mk (below_then (by repeat (first | exact D6.out | apply below_alloc | apply pw_below_drewN | apply below_drew)) (Below.size (by repeat (first | exact D6.out | apply below_alloc | apply pw_below_drewN | apply below_drew))) hb)
      have E7 := Aside0.mk (below_then (by repeat (first | exact E6.out | apply below_alloc | apply pw_below_drewN | apply below_drew)) (Below.size (by repeat (first | exact E6.out | apply below_alloc | apply pw_below_drewN | apply below_drew))) hb)
      clear hb B6 D6 E6
      go_wp2_with fail
      refine (S9.out _ (by repeat (first | exact B7.out | apply below_alloc | apply pw_below_drewN | apply below_drew)) (by repeat (first | exact E7.out | apply below_alloc | apply pw_below_drewN | apply below_drew))).mono ?_
      rintro e W8 ⟨rfl, hb⟩
      have B8 := Aside0.mk (below_then (by repeat (first | exact B7.out | apply below_alloc | apply pw_below_drewN | apply below_drew)) (Below.size (by repeat (first | exact B7.out | apply below_alloc | apply pw_below_drewN | apply below_drew))) hb)
      have D8 := Aside0.mk (below_then (by repeat (first | exact D7.out | apply below_alloc | apply pw_below_drewN | apply below_drew)) (Below.size (by repeat (first | exact D7.out | apply below_alloc | apply pw_below_drewN | apply below_drew))) hb)
      have E8 := Aside0.mk (below_then (by repeat (first | exact E7.out | apply below_alloc | apply pw_below_drewN | apply below_drew)) (Below.size (by repeat (first | exact E7.out | apply below_alloc | apply pw_below_drewN | apply below_drew))) hb)
      clear hb B7 D7 E7
      go_wp2_with fail
      clear D8 E8 S8 S9
      refine (HC.out.c16 _ (by repeat (first | exact B8.out | apply below_alloc | apply pw_below_drewN | apply below_drew))).mono ?_
      rintro e W9 ⟨rfl, hb⟩
      have B9 := Aside0.mk (below_then (by repeat (first | exact B8.out | apply below_alloc | apply pw_below_drewN | apply below_drew)) (Below.size (by repeat (first | exact B8.out | apply below_alloc | apply pw_below_drewN | apply below_drew))) hb)
      clear hb B8
      go_wp2_with fail
      refine (HC.out.c19 _ (by repeat (first | exact B9.out | apply below_alloc | apply pw_below_drewN | apply below_drew))).mono ?_
      rintro e W10 ⟨rfl, hb⟩
      have B10 := Aside0.mk (below_then (by repeat (first | exact B9.out | apply below_alloc | apply pw_below_drewN | apply below_drew)) (Below.size (by repeat (first | exact B9.out | apply below_alloc | apply pw_below_drewN | apply below_drew))) hb)
      clear hb B9
      go_wp2_with fail
      refine (HC.out.c22 _ (by repeat (first | exact B10.out | apply below_alloc | apply pw_below_drewN | apply below_drew))).mono ?_
      rintro e W11 ⟨rfl, hb⟩
      have B11 := Aside0.mk (below_then (by repeat (first | exact B10.out | apply below_alloc | apply pw_below_drewN | apply below_drew)) (Below.size (by repeat (first | exact B10.out | apply below_alloc | apply pw_below_drewN | apply below_drew))) hb)
      clear hb B10
      go_wp2_with fail
      refine (HC.out.c23 _ _ (by repeat (first | exact B11.out | apply below_alloc | apply pw_below_drewN | apply below_drew)) (made_one _ 115 (1, 2))).mono ?_
      rintro e W12 ⟨rfl, hb⟩
      have B12 := Aside0.mk (below_then (by repeat (first | exact B11.out | apply below_alloc | apply pw_below_drewN | apply below_drew)) (Below.size (by repeat (first | exact B11.out | apply below_alloc | apply pw_below_drewN | apply below_drew))) hb)
      clear hb B11
      have HI2 := Aside0.mk (own_inv_below HI.out B12.out)
      clear HI B12 HC
      have HQL := Aside0.mk (show q ≤ 1 by omega)
      by_cases ca : 0 < l0.length
      · have ca1 : decide (0 < (l0.length : Int)) = true := decide_eq_true (by omega)
        have ca2 : decide (0 < l0.length) = true := decide_eq_true ca
        have ca3 : ((l0.length : Int) == 0) = false := beq_eq_false_iff_ne.mpr (by omega)
        have ca4 : (l0.length == 0) = false := beq_eq_false_iff_ne.mpr (by omega)
        have ca5 : ¬ (l0.length : Int) = 0 := by omega
        obtain ⟨hp0, hp1⟩ := own_index at_ l0.length ca H4.out
        obtain ⟨p, hp⟩ : ∃ p, (wrap64 (at_.tmod (l0.length : Int) + (l0.length : Int))).tmod (l0.length : Int) = p := ⟨_, rfl⟩
        rw [hp] at hp0 hp1
        obtain ⟨f, hf1, hf2, hput⟩ := own_put_item HI2.out p hp0 hp1
        have HPUT := Aside0.mk hput
        have hp0b := eq_true hp0
        have hp1b := eq_true hp1
        clear hput hp0 hp1
        by_cases cb : 0 < l1.length
        · have cb1 : decide (0 < (l1.length : Int)) = true := decide_eq_true (by omega)
          have cb2 : decide (0 < l1.length) = true := decide_eq_true cb
          have cb3 : ((l1.length : Int) == 0) = false := beq_eq_false_iff_ne.mpr (by omega)
          have cb4 : (l1.length == 0) = false := beq_eq_false_iff_ne.mpr (by omega)
          have cb5 : ¬ (l1.length : Int) = 0 := by omega
          obtain ⟨hq0, hq1⟩ := own_index at_ l1.length cb H5.out
          obtain ⟨p2, hp2⟩ : ∃ p2, (wrap64 (at_.tmod (l1.length : Int) + (l1.length : Int))).tmod (l1.length : Int) = p2 := ⟨_, rfl⟩
          rw [hp2] at hq0 hq1
          have HP0 := Aside0.mk hq0
          have HP1 := Aside0.mk hq1
          have hq0b := eq_true hq0
          have hq1b := eq_true hq1
          clear hq0 hq1
          go_wp2_with (first | ((with_reducible refine gate_store (t := 3) (p := 135) rfl ?_); refine store_event (t := 3) (p := 135) (v := .tmp 133) (w1 := W12.setCell ⟨g8, p.toNat * 4 + 2, none⟩ (.int .i64 (bits .xor .i64 (bits .and .i64 f 1023) 511))) ?hg ?ho ?hn ?hr ?_; (case ho => rfl); (case hg => rfl); (case hn => rfl); (case hr => first | (go_simp; done) | (go_simp; rfl)); intro W13 hw; obtain ⟨L3, hI3⟩ := HPUT.out (bits .xor .i64 (bits .and .i64 f 1023) 511); rw [← hw] at hI3; have HI3 := Aside0.mk hI3; clear hI3 hw HPUT HI2 hf1 hf2; obtain ⟨A9, d9, y9, hy1, hy2, hy3, hy4, hy5⟩ := own_sep_at HI3.out p2 HP0.out HP1.out; obtain ⟨A7, d7, W15, hrun, hd7, hF7, hb7⟩ := other_append (W13.alloc (.cells #[.int .u8 111, .int .u8 116, .int .u8 104, .int .u8 101, .int .u8 114] 5 (5, 6))) W13.heap.size (heap_alloc_new W13 _) A9 d9 y9 (Kd.C_alloc (Kd.F_now hy4) _) (by have := HQL.out; omega) 32; have hy6 : (W13.alloc (.cells #[.int .u8 111, .int .u8 116, .int .u8 104, .int .u8 101, .int .u8 114] 5 (5, 6))).cell? ⟨g9, p2.toNat, none⟩ = some (.slice A9 y9.length d9) := (World.cell?_alloc_lt _ _ _ (World.block_lt_of_cell? _ _ hy1)).trans hy1; obtain ⟨y7, hy7⟩ : ∃ y7, y7 = ([111, 116, 104, 101, 114] : List Int) ++ y9 := ⟨_, rfl⟩; have HLY := Aside0.mk (show y7.length ≤ 140737488351240 + 5 * (q + 1) by rw [hy7, List.length_append]; simp only [List.length_cons, List.length_nil]; omega); rw [← hy7] at hrun hd7 hF7; have HRUN := Aside0.mk hrun; have HD7 := Aside0.mk hd7; have HI5 := Aside0.mk (own_inv_below (own_inv_below HI3.out ((Below.refl _ _).alloc (Nat.le_refl _) (.cells #[.int .u8 111, .int .u8 116, .int .u8 104, .int .u8 101, .int .u8 114] 5 (5, 6)))) hb7); have HF7 := Aside0.mk (show Kd.F (Kd.int .u8) W15 (fun k => s ≤ k ∧ k ≠ g9) A7 y7.length y7 from Kd.F_mono hF7 (fun k hk => own_fresh HI3.out hk)); obtain ⟨A6, d6, y6, hz1, hz2, _, _, _⟩ := own_sep_at HI5.out p2 HP0.out HP1.out; clear hy1 hy2 hy3 hy4 hy5 hrun hd7 hF7 hb7 hy7 HI3) | ((with_reducible refine gate_builtin (b := .append) (xs := #[.tmp 152, .tmp 156]) rfl ?_); at_builtin; refine wpList_append_run rfl (.tmp 152) (.tmp 156) 32 rfl _ _ rfl rfl HRUN.out ?_; clear HRUN hy6))
          go_roundg (gk - 1)
          case measure => have := HQ.out; omega
          case rel =>
            have := HQ.out
            obtain ⟨M7, hM7⟩ := own_put_sep HI5.out HS3.out p2 HP0.out HP1.out A7 d7 y7 HD7.out HF7.out HLY.out
            refine ⟨rd + 1, q + 1, _, M7, ?_, ⟨⟨?_, ?_⟩⟩, ⟨hM7⟩⟩
            · rw [wrap_id _ (by omega) (by omega)]
            · push_cast; omega
            · omega
        · have cb1 : decide (0 < (l1.length : Int)) = false := decide_eq_false (by omega)
          have cb2 : decide (0 < l1.length) = false := decide_eq_false cb
          go_wp2_with ((with_reducible refine gate_store (t := 3) (p := 135) rfl ?_); refine store_event (t := 3) (p := 135) (v := .tmp 133) (w1 := W12.setCell ⟨g8, p.toNat * 4 + 2, none⟩ (.int .i64 (bits .xor .i64 (bits .and .i64 f 1023) 511))) ?hg ?ho ?hn ?hr ?_; (case ho => rfl); (case hg => rfl); (case hn => rfl); (case hr => first | (go_simp; done) | (go_simp; rfl)); intro W13 hw; obtain ⟨L3, hI3⟩ := HPUT.out (bits .xor .i64 (bits .and .i64 f 1023) 511); rw [← hw] at hI3; have HI3 := Aside0.mk hI3; clear hI3 hw HPUT HI2 hf1 hf2; skip)
          go_roundg (gk - 1)
          case measure => have := HQ.out; omega
          case rel =>
            have := HQ.out
            refine ⟨rd + 1, q + 1, _, _, ?_, ⟨⟨?_, ?_⟩⟩, ⟨own_inv_next HI3.out⟩⟩
            · rw [wrap_id _ (by omega) (by omega)]
            · push_cast; omega
            · omega
      · have ca1 : decide (0 < (l0.length : Int)) = false := decide_eq_false (by omega)
        have ca2 : decide (0 < l0.length) = false := decide_eq_false ca
        by_cases cb : 0 < l1.length
        · have cb1 : decide (0 < (l1.length : Int)) = true := decide_eq_true (by omega)
          have cb2 : decide (0 < l1.length) = true := decide_eq_true cb
          have cb3 : ((l1.length : Int) == 0) = false := beq_eq_false_iff_ne.mpr (by omega)
          have cb4 : (l1.length == 0) = false := beq_eq_false_iff_ne.mpr (by omega)
          have cb5 : ¬ (l1.length : Int) = 0 := by omega
          obtain ⟨hq0, hq1⟩ := own_index at_ l1.length cb H5.out
          obtain ⟨p2, hp2⟩ : ∃ p2, (wrap64 (at_.tmod (l1.length : Int) + (l1.length : Int))).tmod (l1.length : Int) = p2 := ⟨_, rfl⟩
          rw [hp2] at hq0 hq1
          have HP0 := Aside0.mk hq0
          have HP1 := Aside0.mk hq1
          have hq0b := eq_true hq0
          have hq1b := eq_true hq1
          clear hq0 hq1
          obtain ⟨A9, d9, y9, hy1, hy2, hy3, hy4, hy5⟩ := own_sep_at HI2.out p2 HP0.out HP1.out
          obtain ⟨A7, d7, W15, hrun, hd7, hF7, hb7⟩ := other_append (W12.alloc (.cells #[.int .u8 111, .int .u8 116, .int .u8 104, .int .u8 101, .int .u8 114] 5 (5, 6))) W12.heap.size (heap_alloc_new W12 _) A9 d9 y9 (Kd.C_alloc (Kd.F_now hy4) _) (by have := HQL.out; omega) 32
          have hy6 : (W12.alloc (.cells #[.int .u8 111, .int .u8 116, .int .u8 104, .int .u8 101, .int .u8 114] 5 (5, 6))).cell? ⟨g9, p2.toNat, none⟩ = some (.slice A9 y9.length d9) := (World.cell?_alloc_lt _ _ _ (World.block_lt_of_cell? _ _ hy1)).trans hy1
          obtain ⟨y7, hy7⟩ : ∃ y7, y7 = ([111, 116, 104, 101, 114] : List Int) ++ y9 := ⟨_, rfl⟩
          have HLY := Aside0.mk (show y7.length ≤ 140737488351240 + 5 * (q + 1) by rw [hy7, List.length_append]; simp only [List.length_cons, List.length_nil]; omega)
          rw [← hy7] at hrun hd7 hF7
          have HRUN := Aside0.mk hrun
          have HD7 := Aside0.mk hd7
          have HI5 := Aside0.mk (own_inv_below (own_inv_below HI2.out ((Below.refl _ _).alloc (Nat.le_refl _) (.cells #[.int .u8 111, .int .u8 116, .int .u8 104, .int .u8 101, .int .u8 114] 5 (5, 6)))) hb7)
          have HF7 := Aside0.mk (show Kd.F (Kd.int .u8) W15 (fun k => s ≤ k ∧ k ≠ g9) A7 y7.length y7 from Kd.F_mono hF7 (fun k hk => own_fresh HI2.out hk))
          obtain ⟨A6, d6, y6, hz1, hz2, _, _, _⟩ := own_sep_at HI5.out p2 HP0.out HP1.out
          clear hy1 hy2 hy3 hy4 hy5 hrun hd7 hF7 hb7 hy7 HI2
          go_wp2_with ((with_reducible refine gate_builtin (b := .append) (xs := #[.tmp 152, .tmp 156]) rfl ?_); at_builtin; refine wpList_append_run rfl (.tmp 152) (.tmp 156) 32 rfl _ _ rfl rfl HRUN.out ?_; clear HRUN hy6)
          go_roundg (gk - 1)
          case measure => have := HQ.out; omega
          case rel =>
            have := HQ.out
            obtain ⟨M7, hM7⟩ := own_put_sep HI5.out HS3.out p2 HP0.out HP1.out A7 d7 y7 HD7.out HF7.out HLY.out
            refine ⟨rd + 1, q + 1, _, M7, ?_, ⟨⟨?_, ?_⟩⟩, ⟨hM7⟩⟩
            · rw [wrap_id _ (by omega) (by omega)]
            · push_cast; omega
            · omega
        · have cb1 : decide (0 < (l1.length : Int)) = false := decide_eq_false (by omega)
          have cb2 : decide (0 < l1.length) = false := decide_eq_false cb
          go_wp2
          go_roundg (gk - 1)
          case measure => have := HQ.out; omega
          case rel =>
            have := HQ.out
            refine ⟨rd + 1, q + 1, _, _, ?_, ⟨⟨?_, ?_⟩⟩, ⟨own_inv_next HI2.out⟩⟩
            · rw [wrap_id _ (by omega) (by omega)]
            · push_cast; omega
            · omega
    · have crd : decide (rd < 2) = false := decide_eq_false (by have := HQ.out.1; omega)
      go_wp2
      go_ret
      exact ⟨rfl, HI.out.below⟩
theorem coppicelaw9_CutOwn.calls (A0 : Option Addr) (c0 : Nat) (l0 : List It) (A1 : Option Addr) (c1 : Nat) (l1 : List (List Int)) (a2 : Int) (r : Bool) (w : World)
    (hr0 : Kd.C k38 w A0 l0.length l0) (hc0 : l0.length ≤ c0) (hr1 : Kd.C (Kd.slice 5 (Kd.int .u8)) w A1 l1.length l1) (hc1 : l1.length ≤ c1) (h : Bitems l0 ∧ Blists l1 ∧ r = true) :
    Calls Try.prog 10 #[.slice A0 l0.length c0, .slice A1 l1.length c1, .int .i64 a2] w fun e w' => e = .returned (.bool r) ∧ Below w.heap.size w w' := by
  obtain ⟨h0, h1, rfl⟩ := h
  exact own_calls A0 c0 l0 A1 c1 l1 a2 w hr0 hc0 hr1 hc1 h0 h1
end Go.Proofs.Yteaiefkadmlabaa.P
