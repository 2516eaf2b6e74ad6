/- Parts of a proof, laid together by a program of this session (slim.py). -/
import Derived.Test.YtppjphghlclklaaGreatDoorY19
import Derived.Laws.EntriesVeiled
import Derived.Test.YtppjphghlclklaaGreatDoorY20
set_option maxHeartbeats 8000000
set_option maxRecDepth 100000
section
namespace Go.Proofs.YtppjphghlclklaaGreatDoor.P
open Go.RowKit Go.Proofs.YtppjphghlclklaaGreatDoorW.PrintWords Go.Proofs.YtppjphghlclklaaGreatDoorW.PrintLast Go.Proofs.YtppjphghlclklaaGreatDoorW.PrintMore
attribute [local go_sem] max2_int min2_int max_two min_two max_three min_three max_four min_four
set_option linter.unusedVariables false
set_option linter.unusedSimpArgs false
theorem page_DecodeE (A0 : Option Addr) (c0 n0 : Nat) (w : World) (err : Int) (HO : Aside0 (∀ W, Below w.heap.size w W → Calls Tryz.prog 41 #[.slice A0 n0 c0] W (OpenPost W ([], err)))) (HE : err ≠ 0) :
 Calls Tryz.prog 20 #[.slice A0 n0 c0] w (PgPost w (pg0, err)) := by
 have d1 : (err == 0) = false := beq_eq_false_iff_ne.mpr HE
 have d2 : (err != 0) = true := bne_iff_ne.mpr HE
 clear HE
 go_enter Tryz.func20, Tryz.ntmps20
 go_wp2_with fail
 obtain ⟨w1, hw1⟩ : ∃ x, x = w.alloc (.cells zeroPage 30) := ⟨_, rfl⟩
 have hw1' := hw1
 unfold zeroPage at hw1'
 rw [← hw1']
 have HB1 : Aside0 (Below w.heap.size w w1) := ⟨by rw [hw1]; exact below_alloc (Below.refl _ _) _⟩
 have HP1 : Aside0 (w1.heap[w.heap.size]? = some (.cells zeroPage 30)) := ⟨by rw [hw1]; exact heap_alloc_new _ _⟩
 clear hw1 hw1'
 refine (HO.out w1 HB1.out).mono ?_
 rintro e w2 ⟨v2, rfl, hR2, hB2⟩
 have HP2 := Aside0.mk ((hB2.block _ (blk_lt HP1.out)).trans HP1.out)
 have HB2 := Aside0.mk (below_step HB1.out hB2)
 clear HP1 HB1 hR2 hB2 HO
 have hg := HP2.out
 unfold zeroPage at hg
 obtain ⟨q0, q1, q2, q3, q4, q5, q6, q7, q8, q9, q10, q11, q12, q13, q14⟩ := cells15 hg
 obtain ⟨f0, f1, f2, f3, f4, f5, f6, f7, f8, f9, f10, f11, f12, f13, f14⟩ := frozen15 hg
 clear hg
 go_wp2
 refine bodyPost_ret (results_cell_tmp_row rfl _ _ w.heap.size 30 _ (0, 0) _ _ rfl rfl (page_store HP2.out _ _ _ _ _ _ _ _ _ _ _ _ _ _ _) Tryz.underlying30 rfl (by kernel_rfl)) rfl ?_
 exact ⟨_, rfl, ⟨.slice none 0 0, .slice none 0 0, .slice none 0 0, .slice none 0 0, .slice none 0 0, rfl, Kd.R_nil _ _ _ _ _, Kd.R_nil _ _ _ _ _, Kd.R_nil _ _ _ _ _, Kd.R_nil _ _ _ _ _, Kd.R_nil _ _ _ _ _⟩, page_below HB2.out (Nat.le_refl _) _ _ _ _ _ _ _ _ _ _ _ _ _ _ _⟩
theorem C_byte {W : World} {A : Option Addr} {l : List Int} (h : Kd.C (Kd.int .u8) W A l.length l) (i : Nat) (x : Int) (hi : l[i]? = some x) : ∃ ad, A = some ad ∧ W.cell? (ad.add i) = some (.int .u8 x) := by
 have hl : i < l.length := (List.getElem?_eq_some_iff.1 hi).1
 obtain ⟨ad, rfl, hcell⟩ := h.2.2 (by omega)
 obtain ⟨c1, _, rfl, h2⟩ := hcell i x hi
 have := h2 0 _ rfl
 rw [show (Kd.int IntKind.u8).sz = 1 from rfl, Nat.mul_one, Nat.add_zero] at this
 exact ⟨ad, rfl, this⟩
theorem page_DecodeK (A0 : Option Addr) (c0 n0 : Nat) (w : World) (B : List Int) (b0 : Int) (HO : Aside0 (∀ W, Below w.heap.size w W → Calls Tryz.prog 41 #[.slice A0 n0 c0] W (OpenPost W (B, 0)))) (HL : Aside0 (B.length = 4092)) (HB0 : Aside0 (B[0]? = some b0)) (HK : Aside0 (IntKind.i64.wrap b0 < 1 ∨ 5 < IntKind.i64.wrap b0)) :
 Calls Tryz.prog 20 #[.slice A0 n0 c0] w (PgPost w (pg0, 80)) := by
 go_enter Tryz.func20, Tryz.ntmps20
 go_wp2_with fail
 obtain ⟨w1, hw1⟩ : ∃ x, x = w.alloc (.cells zeroPage 30) := ⟨_, rfl⟩
 have hw1' := hw1
 unfold zeroPage at hw1'
 rw [← hw1']
 have HB1 : Aside0 (Below w.heap.size w w1) := ⟨by rw [hw1]; exact below_alloc (Below.refl _ _) _⟩
 have HP1 : Aside0 (w1.heap[w.heap.size]? = some (.cells zeroPage 30)) := ⟨by rw [hw1]; exact heap_alloc_new _ _⟩
 clear hw1 hw1'
 refine (HO.out w1 HB1.out).mono ?_
 rintro e w2 ⟨v2, rfl, hR2, hB2⟩
 have HP2 := Aside0.mk ((hB2.block _ (blk_lt HP1.out)).trans HP1.out)
 have HB2 := Aside0.mk (below_step HB1.out hB2)
 simp only at hR2 ⊢
 obtain ⟨A2, c2, hv2, hl2, hC2⟩ := Kd.R_reads hR2
 subst hv2
 obtain ⟨ad, had, y2'⟩ := C_byte hC2 0 b0 HB0.out
 obtain ⟨gB, cap, hv2, _, _⟩ := R_at hR2 (by rw [HL.out]; omega)
 injection hv2 with hv2 _ hcc
 subst hv2 hcc
 injection had with had
 subst had
 have y2 : w2.cell? ⟨gB, 0, none⟩ = some (.int .u8 b0) := y2'
 clear y2'
 rw [HL.out] at hl2 hC2 ⊢
 have HC2 := Aside0.mk hC2
 clear HP1 HB1 hR2 hB2 HO hC2
 go_wp2_with fail
 refine (page_kinds.calls _).mono ?_
 rintro e w3 ⟨gk, rfl, hgk, hkc, hB⟩
 have y3 := pw_cell_below hB y2
 have HP3 := Aside0.mk ((hB.block _ (blk_lt HP2.out)).trans HP2.out)
 have HB3 := Aside0.mk (below_step HB2.out hB)
 have HC3 := Aside0.mk (Kd.C_below HC2.out hB)
 clear HP2 HB2 HC2 hB hgk hkc y2
 have hg := HP3.out
 unfold zeroPage at hg
 obtain ⟨q0, q1, q2, q3, q4, q5, q6, q7, q8, q9, q10, q11, q12, q13, q14⟩ := cells15 hg
 obtain ⟨f0, f1, f2, f3, f4, f5, f6, f7, f8, f9, f10, f11, f12, f13, f14⟩ := frozen15 hg
 clear hg
 obtain ⟨nn, hnn⟩ : ∃ nn, IntKind.i64.wrap b0 = nn := ⟨_, rfl⟩
 rw [hnn] at HK
 by_cases c : nn < 1
 · have d1 : decide (nn < 1) = true := decide_eq_true c
   go_wp2
   refine bodyPost_ret (results_cell_tmp_row rfl _ _ w.heap.size 30 _ (0, 0) _ _ rfl rfl (page_store HP3.out _ _ _ _ _ _ _ _ _ _ _ _ _ _ _) Tryz.underlying30 rfl (by kernel_rfl)) rfl ?_
   exact ⟨_, rfl, ⟨.slice none 0 0, .slice none 0 0, .slice none 0 0, .slice none 0 0, .slice none 0 0, rfl, Kd.R_nil _ _ _ _ _, Kd.R_nil _ _ _ _ _, Kd.R_nil _ _ _ _ _, Kd.R_nil _ _ _ _ _, Kd.R_nil _ _ _ _ _⟩, page_below HB3.out (Nat.le_refl _) _ _ _ _ _ _ _ _ _ _ _ _ _ _ _⟩
 · have d1 : decide (nn < 1) = false := decide_eq_false c
   have d2 : decide (nn > 5) = true := decide_eq_true (by have := HK.out; omega)
   have d3 : decide (5 < nn) = true := d2
   go_wp2
   refine bodyPost_ret (results_cell_tmp_row rfl _ _ w.heap.size 30 _ (0, 0) _ _ rfl rfl (page_store HP3.out _ _ _ _ _ _ _ _ _ _ _ _ _ _ _) Tryz.underlying30 rfl (by kernel_rfl)) rfl ?_
   exact ⟨_, rfl, ⟨.slice none 0 0, .slice none 0 0, .slice none 0 0, .slice none 0 0, .slice none 0 0, rfl, Kd.R_nil _ _ _ _ _, Kd.R_nil _ _ _ _ _, Kd.R_nil _ _ _ _ _, Kd.R_nil _ _ _ _ _, Kd.R_nil _ _ _ _ _⟩, page_below HB3.out (Nat.le_refl _) _ _ _ _ _ _ _ _ _ _ _ _ _ _ _⟩
theorem page_DecodeV (A0 : Option Addr) (c0 n0 : Nat) (w : World) (B : List Int) (b0 : Int) (HO : Aside0 (∀ W, Below w.heap.size w W → Calls Tryz.prog 41 #[.slice A0 n0 c0] W (OpenPost W (B, 0)))) (HL : Aside0 (B.length = 4092)) (HB0 : Aside0 (B[0]? = some b0)) (n : Int) (hn1 : 1 ≤ n) (hn5 : n ≤ 5) (HK : Aside0 (IntKind.i64.wrap b0 = n)) (fd : Nat) (hcf : ∀ (args : Array Value) (W : World), (callFunc fd args).run Tryz.prog W = .ok (.enter fd args) W) (HF : Aside0 (kindCells[(n.toNat - 1) * 3 + 2]? = some (.func (.func fd) #[] #[]))) (D : Pg × Int)
 (HD : Aside0 (∀ (W : World) (A : Option Addr) (c : Nat), Below w.heap.size w W → Kd.C (Kd.int .u8) W A 4092 B → 4092 ≤ c → Calls Tryz.prog fd #[.slice A 4092 c] W (PgPost W D))) :
 Calls Tryz.prog 20 #[.slice A0 n0 c0] w (PgPost w (if D.2 = 0 then {D.1 with kind := n} else pg0, if D.2 = 0 then 0 else D.2)) := by
 obtain ⟨⟨kind, items, level, seps, kids, next, data, list, ⟨h0, h1, h2, h3, h4, h5, h6⟩⟩, de⟩ := D
 obtain ⟨R, hR⟩ : ∃ R : Pg × Int, (if de = 0 then (⟨n, items, level, seps, kids, next, data, list, ⟨h0, h1, h2, h3, h4, h5, h6⟩⟩ : Pg) else pg0, if de = 0 then 0 else de) = R := ⟨_, rfl⟩
 simp only
 rw [hR]
 have HR := Aside0.mk hR
 clear hR
 go_enter Tryz.func20, Tryz.ntmps20
 go_wp2_with fail
 obtain ⟨w1, hw1⟩ : ∃ x, x = w.alloc (.cells zeroPage 30) := ⟨_, rfl⟩
 have hw1' := hw1
 unfold zeroPage at hw1'
 rw [← hw1']
 have HB1 : Aside0 (Below w.heap.size w w1) := ⟨by rw [hw1]; exact below_alloc (Below.refl _ _) _⟩
 have HP1 : Aside0 (w1.heap[w.heap.size]? = some (.cells zeroPage 30)) := ⟨by rw [hw1]; exact heap_alloc_new _ _⟩
 clear hw1 hw1'
 refine (HO.out w1 HB1.out).mono ?_
 rintro e w2 ⟨v2, rfl, hR2, hB2⟩
 have HP2 := Aside0.mk ((hB2.block _ (blk_lt HP1.out)).trans HP1.out)
 have HB2 := Aside0.mk (below_step HB1.out hB2)
 simp only at hR2 ⊢
 obtain ⟨A2, c2, hv2, hl2, hC2⟩ := Kd.R_reads hR2
 subst hv2
 obtain ⟨ad, had, y2'⟩ := C_byte hC2 0 b0 HB0.out
 obtain ⟨gB, cap, hv2, _, _⟩ := R_at hR2 (by rw [HL.out]; omega)
 injection hv2 with hv2 _ hcc
 subst hv2 hcc
 injection had with had
 subst had
 have y2 : w2.cell? ⟨gB, 0, none⟩ = some (.int .u8 b0) := y2'
 clear y2'
 rw [HL.out] at hl2 hC2 ⊢
 have HC2 := Aside0.mk hC2
 clear HP1 HB1 hR2 hB2 HO hC2
 go_wp2_with fail
 refine (page_kinds.calls _).mono ?_
 rintro e w3 ⟨gk, rfl, hgk, hkc, hB⟩
 have y3 := pw_cell_below hB y2
 have HP3 := Aside0.mk ((hB.block _ (blk_lt HP2.out)).trans HP2.out)
 have HB3 := Aside0.mk (below_step HB2.out hB)
 have HC3 := Aside0.mk (Kd.C_below HC2.out hB)
 have kf := (blk_cell hkc ((n.toNat - 1) * 3 + 2)).trans HF.out
 have d1 : decide (n < 1) = false := decide_eq_false (by omega)
 have d2 : decide (n > 5) = false := decide_eq_false (by omega)
 have d3 : decide (5 < n) = false := d2
 have hnn := HK.out
 have HL2 := Aside0.mk (And.intro hl2 trivial)
 clear HP2 HB2 HC2 hB hgk hkc y2
 go_wp2_with fail
 refine (HD.out w3 _ _ HB3.out HC3.out HL2.out.1).mono ?_
 rintro e w5 ⟨_, rfl, ⟨_, _, _, _, _, rfl, hR1, hR3, hR4, hR6, hR7⟩, hB5⟩
 simp only at hR1 hR3 hR4 hR6 hR7 ⊢
 obtain ⟨A1, c1, hv, _, _⟩ := Kd.R_reads hR1; subst hv
 obtain ⟨A3, c3, hv, _, _⟩ := Kd.R_reads hR3; subst hv
 obtain ⟨A4, c4, hv, _, _⟩ := Kd.R_reads hR4; subst hv
 obtain ⟨A6, c6, hv, _, _⟩ := Kd.R_reads hR6; subst hv
 obtain ⟨A7, c7, hv, _, _⟩ := Kd.R_reads hR7; subst hv
 have HP5 := Aside0.mk ((hB5.block _ (blk_lt HP3.out)).trans HP3.out)
 have HB5 := Aside0.mk (below_step HB3.out hB5)
 have HLT := Aside0.mk (blk_lt HP3.out)
 have HR1 := Aside0.mk (Kd.R_lower (Kd.R_mono (ok' := fun k => k ≠ w.heap.size ∧ k < w5.heap.size) (Kd.R_bound hR1) (fun k hk => ⟨by have := hk.2.1; have := HLT.out; omega, hk.2.2.1⟩)) HB3.out.size)
 have HR3 := Aside0.mk (Kd.R_lower (Kd.R_mono (ok' := fun k => k ≠ w.heap.size ∧ k < w5.heap.size) (Kd.R_bound hR3) (fun k hk => ⟨by have := hk.2.1; have := HLT.out; omega, hk.2.2.1⟩)) HB3.out.size)
 have HR4 := Aside0.mk (Kd.R_lower (Kd.R_mono (ok' := fun k => k ≠ w.heap.size ∧ k < w5.heap.size) (Kd.R_bound hR4) (fun k hk => ⟨by have := hk.2.1; have := HLT.out; omega, hk.2.2.1⟩)) HB3.out.size)
 have HR6 := Aside0.mk (Kd.R_lower (Kd.R_mono (ok' := fun k => k ≠ w.heap.size ∧ k < w5.heap.size) (Kd.R_bound hR6) (fun k hk => ⟨by have := hk.2.1; have := HLT.out; omega, hk.2.2.1⟩)) HB3.out.size)
 have HR7 := Aside0.mk (Kd.R_lower (Kd.R_mono (ok' := fun k => k ≠ w.heap.size ∧ k < w5.heap.size) (Kd.R_bound hR7) (fun k hk => ⟨by have := hk.2.1; have := HLT.out; omega, hk.2.2.1⟩)) HB3.out.size)
 clear hR1 hR3 hR4 hR6 hR7 hB5 HD HP3 HB3 HC3 y3 kf d1 d2 d3
 go_upto_region 9 with (fail)
 obtain ⟨w6, hw6⟩ : ∃ x, x = w5.alloc (.cells #[.int .i64 kind, .slice A1 items.length c1, .int .i64 level, .slice A3 seps.length c3, .slice A4 kids.length c4, .int .i64 next, .slice A6 data.length c6, .slice A7 list.length c7, .int .i64 h0, .int .i64 h1, .int .i64 h2, .int .i64 h3, .int .i64 h4, .int .i64 h5, .int .i64 h6] 30) := ⟨_, rfl⟩
 obtain ⟨g6, hg6⟩ : ∃ x, x = w5.heap.size := ⟨_, rfl⟩
 rw [← hw6, ← hg6]
 have hb6 : Below w5.heap.size w5 w6 := by rw [hw6]; exact below_alloc (Below.refl _ _) _
 have hn6 : w6.heap[g6]? = some (.cells #[.int .i64 kind, .slice A1 items.length c1, .int .i64 level, .slice A3 seps.length c3, .slice A4 kids.length c4, .int .i64 next, .slice A6 data.length c6, .slice A7 list.length c7, .int .i64 h0, .int .i64 h1, .int .i64 h2, .int .i64 h3, .int .i64 h4, .int .i64 h5, .int .i64 h6] 30) := by rw [hw6, hg6]; exact heap_alloc_new _ _
 have HN6 := Aside0.mk hn6
 have HP6 := Aside0.mk ((hb6.block _ (blk_lt HP5.out)).trans HP5.out)
 have HB6 := Aside0.mk (below_then HB5.out HB5.out.size hb6)
 have HNE : Aside0 (w.heap.size ≠ g6) := ⟨by rw [hg6]; exact Nat.ne_of_lt (blk_lt HP5.out)⟩
 have HG6 : Aside0 (w.heap.size ≤ g6) := ⟨by rw [hg6]; exact HB5.out.size⟩
 have HS1 := Aside0.mk (Kd.R_mono (ok' := fun k => k ≠ w.heap.size ∧ k ≠ g6) (Kd.R_below HR1.out hb6) (fun k hk => ⟨hk.1, by have := hk.2; rw [hg6]; omega⟩))
 have HS3 := Aside0.mk (Kd.R_mono (ok' := fun k => k ≠ w.heap.size ∧ k ≠ g6) (Kd.R_below HR3.out hb6) (fun k hk => ⟨hk.1, by have := hk.2; rw [hg6]; omega⟩))
 have HS4 := Aside0.mk (Kd.R_mono (ok' := fun k => k ≠ w.heap.size ∧ k ≠ g6) (Kd.R_below HR4.out hb6) (fun k hk => ⟨hk.1, by have := hk.2; rw [hg6]; omega⟩))
 have HS6 := Aside0.mk (Kd.R_mono (ok' := fun k => k ≠ w.heap.size ∧ k ≠ g6) (Kd.R_below HR6.out hb6) (fun k hk => ⟨hk.1, by have := hk.2; rw [hg6]; omega⟩))
 have HS7 := Aside0.mk (Kd.R_mono (ok' := fun k => k ≠ w.heap.size ∧ k ≠ g6) (Kd.R_below HR7.out hb6) (fun k hk => ⟨hk.1, by have := hk.2; rw [hg6]; omega⟩))
 clear hw6 hg6 hb6 hn6 HP5 HB5 HR1 HR3 HR4 HR6 HR7 HLT
 by_cases ce : de = 0
 · subst ce
   obtain rfl : ((⟨n, items, level, seps, kids, next, data, list, ⟨h0, h1, h2, h3, h4, h5, h6⟩⟩ : Pg), (0 : Int)) = R := by rw [← HR.out]; rfl
   have hg := HN6.out
   have p0 := (blk_cell hg 0).trans rfl
   have pf0 := blk_frozen hg 0
   clear hg HR
   go_upto_region 12 with (fail)
   obtain ⟨w7, hw7⟩ : ∃ x, x = w6.setCell ⟨g6, 0, none⟩ (.int .i64 n) := ⟨_, rfl⟩
   rw [← hw7]
   have hn7 : w7.heap[g6]? = some (.cells #[.int .i64 n, .slice A1 items.length c1, .int .i64 level, .slice A3 seps.length c3, .slice A4 kids.length c4, .int .i64 next, .slice A6 data.length c6, .slice A7 list.length c7, .int .i64 h0, .int .i64 h1, .int .i64 h2, .int .i64 h3, .int .i64 h4, .int .i64 h5, .int .i64 h6] 30) := by rw [hw7]; simpa using blk_set HN6.out 0 (.int .i64 n)
   have hp7 : w7.heap[w.heap.size]? = some (.cells zeroPage 30) := by rw [hw7]; exact blk_far HP6.out HNE.out _
   have HP7 := Aside0.mk hp7
   have HB7 : Aside0 (Below w.heap.size w w7) := ⟨by rw [hw7]; exact HB6.out.setCell HG6.out _⟩
   have HT1 : Aside0 (Kd.R k77 77 w7 w.heap.size (fun k => k ≠ w.heap.size) (.slice A1 items.length c1) items) := ⟨by rw [hw7]; exact Kd.R_mono (Kd.R_far (p := ⟨g6, 0, none⟩) HS1.out (fun k hk => hk.2) _) (fun k hk => hk.1)⟩
   have HT3 : Aside0 (Kd.R KSeps 25 w7 w.heap.size (fun k => k ≠ w.heap.size) (.slice A3 seps.length c3) seps) := ⟨by rw [hw7]; exact Kd.R_mono (Kd.R_far (p := ⟨g6, 0, none⟩) HS3.out (fun k hk => hk.2) _) (fun k hk => hk.1)⟩
   have HT4 : Aside0 (Kd.R k82 82 w7 w.heap.size (fun k => k ≠ w.heap.size) (.slice A4 kids.length c4) kids) := ⟨by rw [hw7]; exact Kd.R_mono (Kd.R_far (p := ⟨g6, 0, none⟩) HS4.out (fun k hk => hk.2) _) (fun k hk => hk.1)⟩
   have HT6 : Aside0 (Kd.R (Kd.int .u8) 5 w7 w.heap.size (fun k => k ≠ w.heap.size) (.slice A6 data.length c6) data) := ⟨by rw [hw7]; exact Kd.R_mono (Kd.R_far (p := ⟨g6, 0, none⟩) HS6.out (fun k hk => hk.2) _) (fun k hk => hk.1)⟩
   have HT7 : Aside0 (Kd.R (Kd.int .i64) 3 w7 w.heap.size (fun k => k ≠ w.heap.size) (.slice A7 list.length c7) list) := ⟨by rw [hw7]; exact Kd.R_mono (Kd.R_far (p := ⟨g6, 0, none⟩) HS7.out (fun k hk => hk.2) _) (fun k hk => hk.1)⟩
   clear hw7 p0 pf0 HS1 HS3 HS4 HS6 HS7 HN6 HP6 HB6 HNE HG6
   obtain ⟨p0, p1, p2, p3, p4, p5, p6, p7, p8, p9, p10, p11, p12, p13, p14⟩ := cells15 hn7
   unfold zeroPage at hp7
   obtain ⟨q0, q1, q2, q3, q4, q5, q6, q7, q8, q9, q10, q11, q12, q13, q14⟩ := cells15 hp7
   obtain ⟨f0, f1, f2, f3, f4, f5, f6, f7, f8, f9, f10, f11, f12, f13, f14⟩ := frozen15 hp7
   clear hn7 hp7
   go_wp2
   refine bodyPost_ret (results_cell_tmp_row rfl _ _ w.heap.size 30 _ (0, 0) _ _ rfl rfl (page_store HP7.out _ _ _ _ _ _ _ _ _ _ _ _ _ _ _) Tryz.underlying30 rfl (by kernel_rfl)) rfl ?_
   exact ⟨_, rfl, ⟨.slice A1 items.length c1, .slice A3 seps.length c3, .slice A4 kids.length c4, .slice A6 data.length c6, .slice A7 list.length c7, rfl, Kd.R_mono (page_far HT1.out (fun k hk => hk) _ _ _ _ _ _ _ _ _ _ _ _ _ _ _) (fun _ _ => trivial), Kd.R_mono (page_far HT3.out (fun k hk => hk) _ _ _ _ _ _ _ _ _ _ _ _ _ _ _) (fun _ _ => trivial), Kd.R_mono (page_far HT4.out (fun k hk => hk) _ _ _ _ _ _ _ _ _ _ _ _ _ _ _) (fun _ _ => trivial), Kd.R_mono (page_far HT6.out (fun k hk => hk) _ _ _ _ _ _ _ _ _ _ _ _ _ _ _) (fun _ _ => trivial), Kd.R_mono (page_far HT7.out (fun k hk => hk) _ _ _ _ _ _ _ _ _ _ _ _ _ _ _) (fun _ _ => trivial)⟩, page_below HB7.out (Nat.le_refl _) _ _ _ _ _ _ _ _ _ _ _ _ _ _ _⟩
 · obtain rfl : (pg0, de) = R := by rw [← HR.out, if_neg ce, if_neg ce]
   have d1 : (de == 0) = false := beq_eq_false_iff_ne.mpr ce
   have d2 : (de != 0) = true := bne_iff_ne.mpr ce
   have hp6 := HP6.out
   unfold zeroPage at hp6
   obtain ⟨q0, q1, q2, q3, q4, q5, q6, q7, q8, q9, q10, q11, q12, q13, q14⟩ := cells15 hp6
   obtain ⟨f0, f1, f2, f3, f4, f5, f6, f7, f8, f9, f10, f11, f12, f13, f14⟩ := frozen15 hp6
   clear hp6 ce HR HN6 HNE HG6 HS1 HS3 HS4 HS6 HS7
   go_wp2
   refine bodyPost_ret (results_cell_tmp_row rfl _ _ w.heap.size 30 _ (0, 0) _ _ rfl rfl (page_store HP6.out _ _ _ _ _ _ _ _ _ _ _ _ _ _ _) Tryz.underlying30 rfl (by kernel_rfl)) rfl ?_
   exact ⟨_, rfl, ⟨.slice none 0 0, .slice none 0 0, .slice none 0 0, .slice none 0 0, .slice none 0 0, rfl, Kd.R_nil _ _ _ _ _, Kd.R_nil _ _ _ _ _, Kd.R_nil _ _ _ _ _, Kd.R_nil _ _ _ _ _, Kd.R_nil _ _ _ _ _⟩, page_below HB6.out (Nat.le_refl _) _ _ _ _ _ _ _ _ _ _ _ _ _ _ _⟩
theorem entered {F : Nat} {fn : Func} (hf : Tryz.prog.funcs[F]? = some fn) (hb : fn.body.isNone = false) (hn : (fn.name == "runtime.NumGoroutine") = false) : ∀ (args : Array Value) (W : World), (callFunc F args).run Tryz.prog W = .ok (.enter F args) W := fun args W => by
 have h1 : ¬ fn.name = "runtime.NumGoroutine" := fun e => by rw [e] at hn; exact absurd hn (by decide)
 have h2 : ¬ fn.body = none := fun e => by rw [e] at hb; exact absurd hb (by decide)
 simp [callFunc, go_sem, hf, h1, h2]
def PgC (w : World) (p : Pg) (v : Value) : Prop := ∃ A1 c1 A3 c3 A4 c4 A6 c6 A7 c7, v = pgv p.kind (.slice A1 p.items.length c1) p.level (.slice A3 p.seps.length c3) (.slice A4 p.kids.length c4) p.next (.slice A6 p.data.length c6) (.slice A7 p.list.length c7) p.head ∧ (p.items.length ≤ c1 ∧ Kd.C k77 w A1 p.items.length p.items) ∧ (p.seps.length ≤ c3 ∧ Kd.C KSeps w A3 p.seps.length p.seps) ∧ (p.kids.length ≤ c4 ∧ Kd.C k82 w A4 p.kids.length p.kids) ∧ (p.data.length ≤ c6 ∧ Kd.C (Kd.int .u8) w A6 p.data.length p.data) ∧ (p.list.length ≤ c7 ∧ Kd.C (Kd.int .i64) w A7 p.list.length p.list)
theorem PgR.C {W : World} {base : Nat} {ok : Nat → Prop} {p : Pg} {v : Value} (h : PgR W base ok p v) : PgC W p v := by
 obtain ⟨v1, v3, v4, v6, v7, rfl, h1, h3, h4, h6, h7⟩ := h
 obtain ⟨A1, c1, rfl, l1, r1⟩ := Kd.R_reads h1
 obtain ⟨A3, c3, rfl, l3, r3⟩ := Kd.R_reads h3
 obtain ⟨A4, c4, rfl, l4, r4⟩ := Kd.R_reads h4
 obtain ⟨A6, c6, rfl, l6, r6⟩ := Kd.R_reads h6
 obtain ⟨A7, c7, rfl, l7, r7⟩ := Kd.R_reads h7
 exact ⟨A1, c1, A3, c3, A4, c4, A6, c6, A7, c7, rfl, ⟨l1, r1⟩, ⟨l3, r3⟩, ⟨l4, r4⟩, ⟨l6, r6⟩, ⟨l7, r7⟩⟩
theorem PgC.below {w W : World} {p : Pg} {v : Value} (h : PgC w p v) (hb : Below w.heap.size w W) : PgC W p v := by
 obtain ⟨A1, c1, A3, c3, A4, c4, A6, c6, A7, c7, rfl, ⟨l1, r1⟩, ⟨l3, r3⟩, ⟨l4, r4⟩, ⟨l6, r6⟩, ⟨l7, r7⟩⟩ := h
 exact ⟨A1, c1, A3, c3, A4, c4, A6, c6, A7, c7, rfl, ⟨l1, Kd.C_below r1 hb⟩, ⟨l3, Kd.C_below r3 hb⟩, ⟨l4, Kd.C_below r4 hb⟩, ⟨l6, Kd.C_below r6 hb⟩, ⟨l7, Kd.C_below r7 hb⟩⟩
def SmallP (p : Pg) : Prop := Small p.items ∧ SmallB p.seps ∧ p.kids.length ≤ 70001 ∧ p.list.length ≤ 9223372036854775806
def plainL (p : Pg) : List Int := [(p.items.length : Int), p.level, (p.seps.length : Int), (p.kids.length : Int), p.next, (p.data.length : Int), (p.list.length : Int), p.head.v, p.head.c, p.head.r, p.head.h, p.head.k, p.head.f, p.head.n]
def hasP (p : Pg) : Pg :=
 if p.kind = 1 then {pg0 with items := p.items} else if p.kind = 2 then {pg0 with level := p.level, seps := p.seps, kids := p.kids} else if p.kind = 3 then {pg0 with next := p.next, data := p.data} else if p.kind = 4 then {pg0 with next := p.next, list := p.list} else {pg0 with head := p.head}
def bareB (p : Pg) : Bool := eqLs (plainL p) (plainL (hasP p))
def bodyR (p : Pg) : List Int × Int := if p.kind = 1 then encLeafR p.items else if p.kind = 2 then encBranchR p.level p.seps p.kids else if p.kind = 3 then encDataR p.next p.data else if p.kind = 4 then encListR p.next p.list else encHd p.head
def sealR (b : List Int) : List Int := b ++ markOf (crcSum b)
def encPageR (p : Pg) : List Int × Int :=
 if p.kind < 1 ∨ 5 < p.kind then ([], 80) else if bareB p = true then (if (bodyR p).2 = 0 then (sealR (bodyR p).1, 0) else ([], (bodyR p).2)) else ([], 81)
theorem leaf_len (l : List It) (hs : Small l) (h : (encLeafR l).2 = 0) : (encLeafR l).1.length = 4092 := by
 unfold encLeafR at h ⊢
 by_cases c1 : mayR l = 0
 · rw [if_pos c1] at h ⊢
   by_cases c2 : sizeL l ≤ 4092
   · rw [if_pos c2]
     have hz := size_eq l hs c1
     show (leafBody l).length = 4092
     unfold leafBody
     simp only [List.length_append, zs_length, slotsL_length]
     omega
   · rw [if_neg c2] at h
     exact absurd h (by decide)
 · rw [if_neg c1] at h
   exact absurd h c1
theorem branch_len (lv : Int) (seps : List (List Int)) (kids : List Kid) (hs : SmallB seps) (h : (encBranchR lv seps kids).2 = 0) : (encBranchR lv seps kids).1.length = 4092 := by
 unfold encBranchR at h ⊢
 by_cases c1 : wrongR lv seps kids = 0
 · rw [if_pos c1]
   have hw := wrongR_zero c1
   have hz := sizeB_eq lv seps kids hs hw.2.2.1
   have hk := hw.2.2.1
   have hf : (firstB kids).length = 8 := by
    match kids, hk with
    | k :: ks, _ => simp [firstB, kidBytes_length]
   have hzl : (seps.zip kids.tail).length = seps.length := by rw [List.length_zip, List.length_tail]; omega
   show (branchBody lv seps kids).length = 4092
   unfold branchBody
   simp only [List.length_append, zs_length, slotsK_length, hf, hzl]
   have := hw.2.2.2.2.2.2
   omega
 · rw [if_neg c1] at h
   exact absurd h c1
theorem data_len (n : Int) (d : List Int) (h : (encDataR n d).2 = 0) : (encDataR n d).1.length = 4092 := by
 unfold encDataR at h ⊢
 by_cases c1 : nextB n = true
 · rw [if_pos c1] at h ⊢
   by_cases c2 : dataB n d.length = true
   · rw [if_pos c2]
     have hd := of_decide_eq_true c2
     simp only [List.length_append, chainHead_length, zs_length]
     omega
   · rw [if_neg c2] at h
     exact absurd h (by decide)
 · rw [if_neg c1] at h
   exact absurd h (by decide)
theorem list_len (n : Int) (d : List Int) (h : (encListR n d).2 = 0) : (encListR n d).1.length = 4092 := by
 unfold encListR at h ⊢
 by_cases c1 : nextB n = true
 · rw [if_pos c1] at h ⊢
   by_cases c2 : listB n d = true
   · rw [if_pos c2]
     unfold listB at c2
     rw [Bool.and_eq_true] at c2
     have hd := of_decide_eq_true c2.2
     simp only [List.length_append, chainHead_length, zs_length, listBytes_length]
     omega
   · rw [if_neg c2] at h
     exact absurd h (by decide)
 · rw [if_neg c1] at h
   exact absurd h (by decide)
theorem meta_len (x : Hd7) (h : (encHd x).2 = 0) : (encHd x).1.length = 4092 := by
 unfold encHd encMetaR at h ⊢
 by_cases c1 : mayB x.v x.c x.r x.h x.k x.f x.n = true
 · rw [if_pos c1]
   simp only [List.length_append, headBytes_length, zs_length]
   rfl
 · rw [if_neg c1] at h
   exact absurd h (by decide)
theorem seal_f (b : List Int) (h : b.length = 4092) : crc_Seal.f b = some (sealR b, 0) := by
 unfold crc_Seal.f
 rw [if_pos (by omega)]
 rfl
theorem page_Encode.calls (p : Pg) (v : Value) (w : World) (hp : PgC w p v) (hs : SmallP p) (hL : CrcLaid w) (hM : MetaLaid w) :
 Calls Tryz.prog 13 #[v] w (EncPost w (encPageR p)) := by
 obtain ⟨A1, c1, A3, c3, A4, c4, A6, c6, A7, c7, rfl, ⟨l1, r1⟩, ⟨l3, r3⟩, ⟨l4, r4⟩, ⟨l6, r6⟩, ⟨l7, r7⟩⟩ := hp
 obtain ⟨kind, items, level, seps, kids, next, data, list, head⟩ := p
 obtain ⟨s1, s2, s3, s4⟩ := hs
 simp only at l1 r1 l3 r3 l4 r4 l6 r6 l7 r7 s1 s2 s3 s4 ⊢
 unfold encPageR
 by_cases c : kind < 1 ∨ 5 < kind
 · rw [if_pos c]
   exact page_Encode0 kind A1 _ c1 level A3 _ c3 A4 _ c4 next A6 _ c6 A7 _ c7 head w c
 · rw [if_neg c]
   rcases (by omega : kind = 1 ∨ kind = 2 ∨ kind = 3 ∨ kind = 4 ∨ kind = 5) with rfl | rfl | rfl | rfl | rfl
   · exact page_EncodeV 1 (by decide) (by decide) 65 66 68 (entered Tryz.func65 (by kernel_rfl) (by decide +kernel)) (entered Tryz.func66 (by kernel_rfl) (by decide +kernel)) ⟨⟨rfl, rfl, rfl⟩⟩ _ _ _ _ _ _ _ _ _ _ _ _ _ _ _ _ _ _ A1 _ c1 level A3 _ c3 A4 _ c4 next A6 _ c6 A7 _ c7 head w _ _ _ ⟨fun W hb => page_enc1 1 level next head A1 c1 items A3 _ c3 A4 _ c4 A6 _ c6 A7 _ c7 W (Kd.C_below r1 hb) l1 s1⟩ ⟨fun W => page_has1 1 A1 _ c1 level A3 _ c3 A4 _ c4 next A6 _ c6 A7 _ c7 head W⟩ ⟨hL⟩ ⟨rfl⟩ ⟨fun h => seal_f _ (leaf_len items s1 h)⟩
   · exact page_EncodeV 2 (by decide) (by decide) 70 71 73 (entered Tryz.func70 (by kernel_rfl) (by decide +kernel)) (entered Tryz.func71 (by kernel_rfl) (by decide +kernel)) ⟨⟨rfl, rfl, rfl⟩⟩ _ _ _ _ _ _ _ _ _ _ _ _ _ _ _ _ _ _ A1 _ c1 level A3 _ c3 A4 _ c4 next A6 _ c6 A7 _ c7 head w _ _ _ ⟨fun W hb => page_enc2 2 level next head A1 _ c1 A3 c3 seps A4 c4 kids A6 _ c6 A7 _ c7 W (Kd.C_below r3 hb) l3 (Kd.C_below r4 hb) l4 s2 s3⟩ ⟨fun W => page_has2 2 A1 _ c1 level A3 _ c3 A4 _ c4 next A6 _ c6 A7 _ c7 head W⟩ ⟨hL⟩ ⟨rfl⟩ ⟨fun h => seal_f _ (branch_len level seps kids s2 h)⟩
   · exact page_EncodeV 3 (by decide) (by decide) 75 76 78 (entered Tryz.func75 (by kernel_rfl) (by decide +kernel)) (entered Tryz.func76 (by kernel_rfl) (by decide +kernel)) ⟨⟨rfl, rfl, rfl⟩⟩ _ _ _ _ _ _ _ _ _ _ _ _ _ _ _ _ _ _ A1 _ c1 level A3 _ c3 A4 _ c4 next A6 _ c6 A7 _ c7 head w _ _ _ ⟨fun W hb => page_enc3 3 level next head A1 _ c1 A3 _ c3 A4 _ c4 A6 c6 data A7 _ c7 W (Kd.C_below r6 hb) l6⟩ ⟨fun W => page_has3 3 A1 _ c1 level A3 _ c3 A4 _ c4 next A6 _ c6 A7 _ c7 head W⟩ ⟨hL⟩ ⟨rfl⟩ ⟨fun h => seal_f _ (data_len next data h)⟩
   · exact page_EncodeV 4 (by decide) (by decide) 80 81 83 (entered Tryz.func80 (by kernel_rfl) (by decide +kernel)) (entered Tryz.func81 (by kernel_rfl) (by decide +kernel)) ⟨⟨rfl, rfl, rfl⟩⟩ _ _ _ _ _ _ _ _ _ _ _ _ _ _ _ _ _ _ A1 _ c1 level A3 _ c3 A4 _ c4 next A6 _ c6 A7 _ c7 head w _ _ _ ⟨fun W hb => page_enc4 4 level next head A1 _ c1 A3 _ c3 A4 _ c4 A6 _ c6 A7 c7 list W (Kd.C_below r7 hb) l7 s4⟩ ⟨fun W => page_has4 4 A1 _ c1 level A3 _ c3 A4 _ c4 next A6 _ c6 A7 _ c7 head W⟩ ⟨hL⟩ ⟨rfl⟩ ⟨fun h => seal_f _ (list_len next list h)⟩
   · exact page_EncodeV 5 (by decide) (by decide) 85 86 88 (entered Tryz.func85 (by kernel_rfl) (by decide +kernel)) (entered Tryz.func86 (by kernel_rfl) (by decide +kernel)) ⟨⟨rfl, rfl, rfl⟩⟩ _ _ _ _ _ _ _ _ _ _ _ _ _ _ _ _ _ _ A1 _ c1 level A3 _ c3 A4 _ c4 next A6 _ c6 A7 _ c7 head w _ _ _ ⟨fun W hb => page_enc5 5 level next head A1 _ c1 A3 _ c3 A4 _ c4 A6 _ c6 A7 _ c7 W (hM.below hb)⟩ ⟨fun W => page_has5 5 A1 _ c1 level A3 _ c3 A4 _ c4 next A6 _ c6 A7 _ c7 head W⟩ ⟨hL⟩ ⟨rfl⟩ ⟨fun h => seal_f _ (meta_len head h)⟩
def decKindR (n : Int) (b : List Int) : Pg × Int :=
 if n = 1 then ({pg0 with items := (decLeafR b).1}, (decLeafR b).2) else if n = 2 then ({pg0 with level := (decBranchR b).lv, seps := (decBranchR b).seps, kids := (decBranchR b).kids}, (decBranchR b).err) else if n = 3 then ({pg0 with next := (decDataR b).1, data := (decDataR b).2.1}, (decDataR b).2.2) else if n = 4 then ({pg0 with next := (decListR b).1, list := (decListR b).2.1}, (decListR b).2.2) else ({pg0 with head := (decMetaR b).1}, (decMetaR b).2)
def bodyDecR (b : List Int) : Pg × Int :=
 if IntKind.i64.wrap (b.getD 0 0) < 1 ∨ 5 < IntKind.i64.wrap (b.getD 0 0) then (pg0, 80)
 else (if (decKindR (IntKind.i64.wrap (b.getD 0 0)) b).2 = 0 then {(decKindR (IntKind.i64.wrap (b.getD 0 0)) b).1 with kind := IntKind.i64.wrap (b.getD 0 0)} else pg0, if (decKindR (IntKind.i64.wrap (b.getD 0 0)) b).2 = 0 then 0 else (decKindR (IntKind.i64.wrap (b.getD 0 0)) b).2)
def decPageR (l : List Int) : Pg × Int := if (openR l).2 = 0 then bodyDecR (openR l).1 else (pg0, (openR l).2)
theorem openR_ok {l : List Int} (h : (openR l).2 = 0) : l.length = 4096 ∧ l.drop 4092 = markOf (crcSum (l.take 4092)) ∧ (openR l).1 = l.take 4092 := by
 unfold openR at h ⊢
 by_cases c1 : l.length = 4096
 · rw [if_pos c1] at h ⊢
   by_cases c2 : l.drop 4092 = markOf (crcSum (l.take 4092))
   · rw [if_pos c2]
     exact ⟨c1, c2, rfl⟩
   · rw [if_neg c2] at h
     exact absurd h (by decide)
 · rw [if_neg c1] at h
   exact absurd h (by decide)
theorem openR_no {l : List Int} (h : ¬ (openR l).2 = 0) : openR l = ([], (openR l).2) := by
 unfold openR at h ⊢
 by_cases c1 : l.length = 4096
 · rw [if_pos c1] at h ⊢
   by_cases c2 : l.drop 4092 = markOf (crcSum (l.take 4092))
   · rw [if_pos c2] at h
     exact absurd rfl h
   · rw [if_neg c2]
 · rw [if_neg c1]
theorem page_Decode.calls (A0 : Option Addr) (c0 : Nat) (l : List Int) (w : World) (hr : Kd.C (Kd.int .u8) w A0 l.length l) (hc : l.length ≤ c0) (hL : CrcLaid w) (hM : MetaLaid w) :
 Calls Tryz.prog 20 #[.slice A0 l.length c0] w (PgPost w (decPageR l)) := by
 have HO : Aside0 (∀ W, Below w.heap.size w W → Calls Tryz.prog 41 #[.slice A0 l.length c0] W (OpenPost W (openR l))) := ⟨fun W hb => crc_Open.calls A0 c0 l W (hL.below hb) (Kd.C_below hr hb) hc⟩
 unfold decPageR
 by_cases c : (openR l).2 = 0
 · rw [if_pos c]
   obtain ⟨h1, h2, h3⟩ := openR_ok c
   obtain ⟨B, hB⟩ : ∃ B, (openR l).1 = B := ⟨_, rfl⟩
   have he : openR l = (B, 0) := by rw [← hB, ← c]
   have hl : B.length = 4092 := by rw [← hB, h3, List.length_take]; omega
   rw [he] at HO ⊢
   have hb0 : B[0]? = some (B.getD 0 0) := by
    rw [List.getD_eq_getElem?_getD, List.getElem?_eq_getElem (by omega)]
    rfl
   simp only
   unfold bodyDecR
   by_cases ck : IntKind.i64.wrap (B.getD 0 0) < 1 ∨ 5 < IntKind.i64.wrap (B.getD 0 0)
   · rw [if_pos ck]
     exact page_DecodeK A0 c0 l.length w B _ HO ⟨hl⟩ ⟨hb0⟩ ⟨ck⟩
   · rw [if_neg ck]
     obtain ⟨n, hn⟩ : ∃ n, IntKind.i64.wrap (B.getD 0 0) = n := ⟨_, rfl⟩
     rw [hn] at ck ⊢
     rcases (by omega : n = 1 ∨ n = 2 ∨ n = 3 ∨ n = 4 ∨ n = 5) with rfl | rfl | rfl | rfl | rfl
     · exact page_DecodeV A0 c0 l.length w B _ HO ⟨hl⟩ ⟨hb0⟩ 1 (by decide) (by decide) ⟨hn⟩ 68 (entered Tryz.func68 (by kernel_rfl) (by decide +kernel)) ⟨rfl⟩ (decKindR 1 B) ⟨fun W A c hb hC hc' => by
        have h := page_dec1 A c B W (by rw [hl]; exact hC) (by rw [hl]; exact hc')
        rw [hl] at h
        exact h⟩
     · exact page_DecodeV A0 c0 l.length w B _ HO ⟨hl⟩ ⟨hb0⟩ 2 (by decide) (by decide) ⟨hn⟩ 73 (entered Tryz.func73 (by kernel_rfl) (by decide +kernel)) ⟨rfl⟩ (decKindR 2 B) ⟨fun W A c hb hC hc' => by
        have h := page_dec2 A c B W (by rw [hl]; exact hC) (by rw [hl]; exact hc')
        rw [hl] at h
        exact h⟩
     · exact page_DecodeV A0 c0 l.length w B _ HO ⟨hl⟩ ⟨hb0⟩ 3 (by decide) (by decide) ⟨hn⟩ 78 (entered Tryz.func78 (by kernel_rfl) (by decide +kernel)) ⟨rfl⟩ (decKindR 3 B) ⟨fun W A c hb hC hc' => by
        have h := page_dec3 A c B W (by rw [hl]; exact hC) (by rw [hl]; exact hc')
        rw [hl] at h
        exact h⟩
     · exact page_DecodeV A0 c0 l.length w B _ HO ⟨hl⟩ ⟨hb0⟩ 4 (by decide) (by decide) ⟨hn⟩ 83 (entered Tryz.func83 (by kernel_rfl) (by decide +kernel)) ⟨rfl⟩ (decKindR 4 B) ⟨fun W A c hb hC hc' => by
        have h := page_dec4 A c B W (by rw [hl]; exact hC) (by rw [hl]; exact hc')
        rw [hl] at h
        exact h⟩
     · exact page_DecodeV A0 c0 l.length w B _ HO ⟨hl⟩ ⟨hb0⟩ 5 (by decide) (by decide) ⟨hn⟩ 88 (entered Tryz.func88 (by kernel_rfl) (by decide +kernel)) ⟨rfl⟩ (decKindR 5 B) ⟨fun W A c hb hC hc' => by
        have h := page_dec5 A c B W (hM.below hb) (by rw [hl]; exact hC) (by rw [hl]; exact hc')
        rw [hl] at h
        exact h⟩
 · rw [if_neg c]
   rw [openR_no c] at HO
   exact page_DecodeE A0 c0 l.length w _ HO c
end Go.Proofs.YtppjphghlclklaaGreatDoor.P
end
