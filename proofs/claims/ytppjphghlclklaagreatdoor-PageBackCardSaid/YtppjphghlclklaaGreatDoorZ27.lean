/- Parts of a proof, laid together by a program of this session (slim.py). -/
import Derived.Test.YtppjphghlclklaaGreatDoorZ25
import Derived.Test.YtppjphghlclklaaGreatDoorZ26
import Derived.Deep.RegionHeld3
set_option maxHeartbeats 8000000
set_option maxRecDepth 100000
section
namespace Go.Proofs.YtppjphghlclklaaGreatDoor.P
open Go.RowKit Go.Proofs.YtppjphghlclklaaGreatDoorW.PrintWords Go.Proofs.YtppjphghlclklaaGreatDoorW.PrintLast Go.Proofs.YtppjphghlclklaaGreatDoorW.PrintMore
attribute [local go_sem] max2_int min2_int max_two min_two max_three min_three max_four min_four
set_option linter.unusedVariables false
set_option linter.unusedSimpArgs false
theorem coppicelaw8_PageBack_any (p q : Pg) (u v : Value) (b : List Int) (A : Option Addr) (c0 : Nat) (w : World) (hp : PgC w p u) (hq : PgC w q v) (hC : Kd.C (Kd.int .u8) w A b.length b) (hc : b.length ≤ c0) (hbp : ByteP p) (hbq : ByteP q) (hbb : ByteL b) (hL : CrcLaid w) (hM : MetaLaid w) :
 Calls Tryz.prog 6 #[u, v, .slice A b.length c0] w (TruePost w) := by
 obtain ⟨P1, pc1, P3, pc3, P4, pc4, P6, pc6, P7, pc7, rfl, pr1, pr3, pr4, pr6, pr7⟩ := hp
 obtain ⟨Q1, qc1, Q3, qc3, Q4, qc4, Q6, qc6, Q7, qc7, rfl, qr1, qr3, qr4, qr6, qr7⟩ := hq
 have HPC := Aside0.mk (show PgC w p _ from ⟨_, _, _, _, _, _, _, _, _, _, rfl, pr1, pr3, pr4, pr6, pr7⟩)
 have HQC := Aside0.mk (show PgC w q _ from ⟨_, _, _, _, _, _, _, _, _, _, rfl, qr1, qr3, qr4, qr6, qr7⟩)
 have HC := Aside0.mk (And.intro hC hc)
 have HBP := Aside0.mk hbp
 have HBQ := Aside0.mk hbq
 have HBB := Aside0.mk hbb
 have HL := Aside0.mk hL
 have HM := Aside0.mk hM
 obtain ⟨n, hn⟩ : ∃ n, b.length = n := ⟨_, rfl⟩
 have hnm : n ≤ 9223372036854775807 := by rw [← hn]; exact hC.2.1
 rw [hn]
 have HN := Aside0.mk hn
 clear hn pr1 pr3 pr4 pr6 pr7 qr1 qr3 qr4 qr6 qr7 hC hc hbp hbq hbb hL hM
 go_enter Tryz.func6, Tryz.ntmps6
 go_upto_region 1 with (fail)
 obtain ⟨w1, hw1⟩ : ∃ x, x = (w.alloc (.cells #[.int .i64 p.kind, .slice P1 p.items.length pc1, .int .i64 p.level, .slice P3 p.seps.length pc3, .slice P4 p.kids.length pc4, .int .i64 p.next, .slice P6 p.data.length pc6, .slice P7 p.list.length pc7, .int .i64 p.head.v, .int .i64 p.head.c, .int .i64 p.head.r, .int .i64 p.head.h, .int .i64 p.head.k, .int .i64 p.head.f, .int .i64 p.head.n] 30)).alloc (.cells #[.int .i64 q.kind, .slice Q1 q.items.length qc1, .int .i64 q.level, .slice Q3 q.seps.length qc3, .slice Q4 q.kids.length qc4, .int .i64 q.next, .slice Q6 q.data.length qc6, .slice Q7 q.list.length qc7, .int .i64 q.head.v, .int .i64 q.head.c, .int .i64 q.head.r, .int .i64 q.head.h, .int .i64 q.head.k, .int .i64 q.head.f, .int .i64 q.head.n] 30) := ⟨_, rfl⟩
 rw [← hw1]
 have hp1 := (Below.block (below_alloc (Below.refl _ _) (.cells #[.int .i64 q.kind, .slice Q1 q.items.length qc1, .int .i64 q.level, .slice Q3 q.seps.length qc3, .slice Q4 q.kids.length qc4, .int .i64 q.next, .slice Q6 q.data.length qc6, .slice Q7 q.list.length qc7, .int .i64 q.head.v, .int .i64 q.head.c, .int .i64 q.head.r, .int .i64 q.head.h, .int .i64 q.head.k, .int .i64 q.head.f, .int .i64 q.head.n] 30)) _ (blk_lt (heap_alloc_new w (.cells #[.int .i64 p.kind, .slice P1 p.items.length pc1, .int .i64 p.level, .slice P3 p.seps.length pc3, .slice P4 p.kids.length pc4, .int .i64 p.next, .slice P6 p.data.length pc6, .slice P7 p.list.length pc7, .int .i64 p.head.v, .int .i64 p.head.c, .int .i64 p.head.r, .int .i64 p.head.h, .int .i64 p.head.k, .int .i64 p.head.f, .int .i64 p.head.n] 30)))).trans (heap_alloc_new w (.cells #[.int .i64 p.kind, .slice P1 p.items.length pc1, .int .i64 p.level, .slice P3 p.seps.length pc3, .slice P4 p.kids.length pc4, .int .i64 p.next, .slice P6 p.data.length pc6, .slice P7 p.list.length pc7, .int .i64 p.head.v, .int .i64 p.head.c, .int .i64 p.head.r, .int .i64 p.head.h, .int .i64 p.head.k, .int .i64 p.head.f, .int .i64 p.head.n] 30))
 have hq1 := alloc_two w (.cells #[.int .i64 p.kind, .slice P1 p.items.length pc1, .int .i64 p.level, .slice P3 p.seps.length pc3, .slice P4 p.kids.length pc4, .int .i64 p.next, .slice P6 p.data.length pc6, .slice P7 p.list.length pc7, .int .i64 p.head.v, .int .i64 p.head.c, .int .i64 p.head.r, .int .i64 p.head.h, .int .i64 p.head.k, .int .i64 p.head.f, .int .i64 p.head.n] 30) (.cells #[.int .i64 q.kind, .slice Q1 q.items.length qc1, .int .i64 q.level, .slice Q3 q.seps.length qc3, .slice Q4 q.kids.length qc4, .int .i64 q.next, .slice Q6 q.data.length qc6, .slice Q7 q.list.length qc7, .int .i64 q.head.v, .int .i64 q.head.c, .int .i64 q.head.r, .int .i64 q.head.h, .int .i64 q.head.k, .int .i64 q.head.f, .int .i64 q.head.n] 30)
 have HB1 : Aside0 (Below w.heap.size w w1) := ⟨by rw [hw1]; exact below_alloc (below_alloc (Below.refl _ _) _) _⟩
 rw [← hw1] at hp1 hq1
 have HP1 := Aside0.mk hp1
 have HQ1 := Aside0.mk hq1
 clear hw1 hp1 hq1
 go_wp2_with fail
 refine (coppicelaw8_first_any w1 (HL.out.below HB1.out) (HM.out.below HB1.out)).mono ?_
 rintro e w2 ⟨rfl, hb⟩
 have HB2 := Aside0.mk (below_then HB1.out HB1.out.size hb)
 have hp2 := (hb.block _ (blk_lt HP1.out)).trans HP1.out
 have hq2 := (hb.block _ (blk_lt HQ1.out)).trans HQ1.out
 have HP2 := Aside0.mk hp2
 have HQ2 := Aside0.mk hq2
 obtain ⟨x0, x1, x2, x3, x4, x5, x6, x7, x8, x9, x10, x11, x12, x13, x14⟩ := cells15 hp2
 clear hp2 hq2 hb HB1 HP1 HQ1
 go_wp2_with fail
 refine (coppicelaw8_fits_any p _ w2 (HPC.out.below HB2.out)).mono ?_
 rintro e w3 ⟨f1, rfl, hf1, hb⟩
 have HB3 := Aside0.mk (below_then HB2.out HB2.out.size hb)
 have hp3 := (hb.block _ (blk_lt HP2.out)).trans HP2.out
 have hq3 := (hb.block _ (blk_lt HQ2.out)).trans HQ2.out
 have HP3 := Aside0.mk hp3
 have HQ3 := Aside0.mk hq3
 clear x0 x1 x2 x3 x4 x5 x6 x7 x8 x9 x10 x11 x12 x13 x14
 obtain ⟨y0, y1, y2, y3, y4, y5, y6, y7, y8, y9, y10, y11, y12, y13, y14⟩ := cells15 hq3
 clear hp3 hq3 hb HB2 HP2 HQ2
 have HF1 := Aside0.mk hf1
 clear hf1
 cases f1 with
 | false =>
  go_wp2
  go_ret
  exact ⟨rfl, HB3.out⟩
 | true =>
 go_wp2_with fail
 refine (coppicelaw8_fits_any q _ w3 (HQC.out.below HB3.out)).mono ?_
 rintro e w4 ⟨f2, rfl, hf2, hb⟩
 have HB4 := Aside0.mk (below_then HB3.out HB3.out.size hb)
 have hp4 := (hb.block _ (blk_lt HP3.out)).trans HP3.out
 have hq4 := (hb.block _ (blk_lt HQ3.out)).trans HQ3.out
 have HP4 := Aside0.mk hp4
 have HQ4 := Aside0.mk hq4
 clear y0 y1 y2 y3 y4 y5 y6 y7 y8 y9 y10 y11 y12 y13 y14
 obtain ⟨x0, x1, x2, x3, x4, x5, x6, x7, x8, x9, x10, x11, x12, x13, x14⟩ := cells15 hp4
 clear hp4 hq4 hb HB3 HP3 HQ3
 have HF2 := Aside0.mk hf2
 clear hf2
 cases f2 with
 | false =>
  go_wp2
  go_ret
  exact ⟨rfl, HB4.out⟩
 | true =>
 have HSP := Aside0.mk (HF1.out (by simp)).small
 have HSQ := Aside0.mk (HF2.out (by simp)).small
 clear HF1 HF2
 by_cases cn : n > 65536
 · have d1 : decide ((n : Int) > 65536) = true := decide_eq_true (by omega)
   have d2 : decide ((65536 : Int) < n) = true := decide_eq_true (by omega)
   go_wp2
   go_ret
   exact ⟨rfl, HB4.out⟩
 have d1 : decide ((n : Int) > 65536) = false := decide_eq_false (by omega)
 have d2 : decide ((65536 : Int) < n) = false := decide_eq_false (by omega)
 obtain ⟨⟨c, ec⟩, hec⟩ : ∃ x, encPageR p = x := ⟨_, rfl⟩
 obtain ⟨⟨d, ed⟩, hed⟩ : ∃ x, encPageR q = x := ⟨_, rfl⟩
 have HEC := Aside0.mk hec
 have HED := Aside0.mk hed
 clear hec hed
 go_wp2_with fail
 clear d1 d2 cn
 have HE := page_Encode.calls p _ w4 (HPC.out.below HB4.out) HSP.out (HL.out.below HB4.out) (HM.out.below HB4.out)
 rw [HEC.out] at HE
 refine HE.mono ?_
 rintro e w5 ⟨v5, rfl, hR5, hb⟩
 simp only at hR5 ⊢
 obtain ⟨A5, c5, hv5, hl5, hC5⟩ := Kd.R_reads hR5
 subst hv5
 have HC5 := Aside0.mk (And.intro hl5 hC5)
 have HB5 := Aside0.mk (below_then HB4.out HB4.out.size hb)
 have hp5 := (hb.block _ (blk_lt HP4.out)).trans HP4.out
 have hq5 := (hb.block _ (blk_lt HQ4.out)).trans HQ4.out
 have HP5 := Aside0.mk hp5
 have HQ5 := Aside0.mk hq5
 clear x0 x1 x2 x3 x4 x5 x6 x7 x8 x9 x10 x11 x12 x13 x14
 obtain ⟨y0, y1, y2, y3, y4, y5, y6, y7, y8, y9, y10, y11, y12, y13, y14⟩ := cells15 hq5
 clear hp5 hq5 hb HB4 HP4 HQ4
 clear HE hR5 hl5 hC5
 go_wp2_with fail
 have HE := page_Encode.calls q _ w5 (HQC.out.below HB5.out) HSQ.out (HL.out.below HB5.out) (HM.out.below HB5.out)
 rw [HED.out] at HE
 refine HE.mono ?_
 rintro e w6 ⟨v6, rfl, hR6, hb⟩
 simp only at hR6 ⊢
 obtain ⟨A6, c6, hv6, hl6, hC6⟩ := Kd.R_reads hR6
 subst hv6
 have HC6 := Aside0.mk (And.intro hl6 hC6)
 have HC56 := Aside0.mk (And.intro HC5.out.1 (Kd.C_below HC5.out.2 hb))
 have HB6 := Aside0.mk (below_then HB5.out HB5.out.size hb)
 have hp6 := (hb.block _ (blk_lt HP5.out)).trans HP5.out
 have hq6 := (hb.block _ (blk_lt HQ5.out)).trans HQ5.out
 have HP6 := Aside0.mk hp6
 have HQ6 := Aside0.mk hq6
 clear y0 y1 y2 y3 y4 y5 y6 y7 y8 y9 y10 y11 y12 y13 y14
 clear hp6 hq6 hb HB5 HP5 HQ5
 clear HE hR6 hl6 hC6 HC5
 have HBK := Aside0.mk (fun (W : World) (hb : Below w6.heap.size w6 W) => coppicelaw8_back_any p _ W (HPC.out.below (below_then HB6.out HB6.out.size hb)) HSP.out HBP.out c ec HEC.out A5 c5 (Kd.C_below HC56.out.2 hb) HC56.out.1 (HL.out.below (below_then HB6.out HB6.out.size hb)) (HM.out.below (below_then HB6.out HB6.out.size hb)))
 go_upto_region 6 with (fail)
 have HSX : Aside0 (∀ W : World, Below w6.heap.size w6 W → (Below w6.heap.size w6 W ∧ W.cell? ⟨w.heap.size, 0, none⟩ = some (.int .i64 p.kind) ∧ W.cell? ⟨w.heap.size, 1, none⟩ = some (.slice P1 p.items.length pc1) ∧ W.cell? ⟨w.heap.size, 2, none⟩ = some (.int .i64 p.level) ∧ W.cell? ⟨w.heap.size, 3, none⟩ = some (.slice P3 p.seps.length pc3) ∧ W.cell? ⟨w.heap.size, 4, none⟩ = some (.slice P4 p.kids.length pc4) ∧ W.cell? ⟨w.heap.size, 5, none⟩ = some (.int .i64 p.next) ∧ W.cell? ⟨w.heap.size, 6, none⟩ = some (.slice P6 p.data.length pc6) ∧ W.cell? ⟨w.heap.size, 7, none⟩ = some (.slice P7 p.list.length pc7) ∧ W.cell? ⟨w.heap.size, 8, none⟩ = some (.int .i64 p.head.v) ∧ W.cell? ⟨w.heap.size, 9, none⟩ = some (.int .i64 p.head.c) ∧ W.cell? ⟨w.heap.size, 10, none⟩ = some (.int .i64 p.head.r) ∧ W.cell? ⟨w.heap.size, 11, none⟩ = some (.int .i64 p.head.h) ∧ W.cell? ⟨w.heap.size, 12, none⟩ = some (.int .i64 p.head.k) ∧ W.cell? ⟨w.heap.size, 13, none⟩ = some (.int .i64 p.head.f) ∧ W.cell? ⟨w.heap.size, 14, none⟩ = some (.int .i64 p.head.n))) := ⟨fun W hb => by
  have h1 := (hb.block _ (blk_lt HP6.out)).trans HP6.out
  have h2 := (hb.block _ (blk_lt HQ6.out)).trans HQ6.out
  exact ⟨hb, (blk_cell h1 0).trans rfl, (blk_cell h1 1).trans rfl, (blk_cell h1 2).trans rfl, (blk_cell h1 3).trans rfl, (blk_cell h1 4).trans rfl, (blk_cell h1 5).trans rfl, (blk_cell h1 6).trans rfl, (blk_cell h1 7).trans rfl, (blk_cell h1 8).trans rfl, (blk_cell h1 9).trans rfl, (blk_cell h1 10).trans rfl, (blk_cell h1 11).trans rfl, (blk_cell h1 12).trans rfl, (blk_cell h1 13).trans rfl, (blk_cell h1 14).trans rfl⟩⟩
 have HSD := HSX.out w6.drew (below_drew1 (Below.refl _ _))
 go_cut [12] (fun v12 wx => v12 = .bool true ∧ Aside0 (Below w6.heap.size w6 wx))
 case first =>
  as_aux_lemma =>
   go_region_held3 (fun W => Below w6.heap.size w6 W ∧ W.cell? ⟨w.heap.size, 0, none⟩ = some (.int .i64 p.kind) ∧ W.cell? ⟨w.heap.size, 1, none⟩ = some (.slice P1 p.items.length pc1) ∧ W.cell? ⟨w.heap.size, 2, none⟩ = some (.int .i64 p.level) ∧ W.cell? ⟨w.heap.size, 3, none⟩ = some (.slice P3 p.seps.length pc3) ∧ W.cell? ⟨w.heap.size, 4, none⟩ = some (.slice P4 p.kids.length pc4) ∧ W.cell? ⟨w.heap.size, 5, none⟩ = some (.int .i64 p.next) ∧ W.cell? ⟨w.heap.size, 6, none⟩ = some (.slice P6 p.data.length pc6) ∧ W.cell? ⟨w.heap.size, 7, none⟩ = some (.slice P7 p.list.length pc7) ∧ W.cell? ⟨w.heap.size, 8, none⟩ = some (.int .i64 p.head.v) ∧ W.cell? ⟨w.heap.size, 9, none⟩ = some (.int .i64 p.head.c) ∧ W.cell? ⟨w.heap.size, 10, none⟩ = some (.int .i64 p.head.r) ∧ W.cell? ⟨w.heap.size, 11, none⟩ = some (.int .i64 p.head.h) ∧ W.cell? ⟨w.heap.size, 12, none⟩ = some (.int .i64 p.head.k) ∧ W.cell? ⟨w.heap.size, 13, none⟩ = some (.int .i64 p.head.f) ∧ W.cell? ⟨w.heap.size, 14, none⟩ = some (.int .i64 p.head.n)) (first | exact HSD | exact HSX.out _ (by assumption)) (first | (go_at_call 17; (with_reducible refine (coppicelaw8_num.calls ec ec _ rfl).mono ?_); rintro e W ⟨rfl, hd⟩; have hBn : Below w6.heap.size w6 W := below_step (by first | assumption | exact HSD.1) (Drawn0.below hd); clear hd) | (go_at_call 26; refine (HBK.out _ (by first | assumption | exact HSD.1)).mono ?_; rintro e W2 ⟨rfl, hb2⟩; have hBn2 : Below w6.heap.size w6 W2 := below_step (by first | assumption | exact HSD.1) hb2; clear hb2))
   all_goals
    go_wp2
    go_meet
    case rel => exact ⟨rfl, ⟨by assumption⟩⟩
 case rest =>
 obtain ⟨rfl, hbx⟩ := hcut
 obtain ⟨w7, rfl⟩ : ∃ x : World, x = wc := ⟨_, rfl⟩
 have hb := hbx.out
 have HC57 := Aside0.mk (And.intro HC56.out.1 (Kd.C_below HC56.out.2 hb))
 have HC67 := Aside0.mk (And.intro HC6.out.1 (Kd.C_below HC6.out.2 hb))
 clear HBK HC56 HC6 hbx HSX HSD
 have HB7 := Aside0.mk (below_then HB6.out HB6.out.size hb)
 have hp7 := (hb.block _ (blk_lt HP6.out)).trans HP6.out
 have hq7 := (hb.block _ (blk_lt HQ6.out)).trans HQ6.out
 have HP7 := Aside0.mk hp7
 have HQ7 := Aside0.mk hq7
 clear hp7 hq7 hb HB6 HP6 HQ6
 have HBK := Aside0.mk (fun (W : World) (hb : Below w7.heap.size w7 W) => coppicelaw8_back_any q _ W (HQC.out.below (below_then HB7.out HB7.out.size hb)) HSQ.out HBQ.out d ed HED.out A6 c6 (Kd.C_below HC67.out.2 hb) HC67.out.1 (HL.out.below (below_then HB7.out HB7.out.size hb)) (HM.out.below (below_then HB7.out HB7.out.size hb)))
 go_upto_region 7 with (fail)
 have HSX : Aside0 (∀ W : World, Below w7.heap.size w7 W → (Below w7.heap.size w7 W ∧ W.cell? ⟨w.heap.size + 1, 0, none⟩ = some (.int .i64 q.kind) ∧ W.cell? ⟨w.heap.size + 1, 1, none⟩ = some (.slice Q1 q.items.length qc1) ∧ W.cell? ⟨w.heap.size + 1, 2, none⟩ = some (.int .i64 q.level) ∧ W.cell? ⟨w.heap.size + 1, 3, none⟩ = some (.slice Q3 q.seps.length qc3) ∧ W.cell? ⟨w.heap.size + 1, 4, none⟩ = some (.slice Q4 q.kids.length qc4) ∧ W.cell? ⟨w.heap.size + 1, 5, none⟩ = some (.int .i64 q.next) ∧ W.cell? ⟨w.heap.size + 1, 6, none⟩ = some (.slice Q6 q.data.length qc6) ∧ W.cell? ⟨w.heap.size + 1, 7, none⟩ = some (.slice Q7 q.list.length qc7) ∧ W.cell? ⟨w.heap.size + 1, 8, none⟩ = some (.int .i64 q.head.v) ∧ W.cell? ⟨w.heap.size + 1, 9, none⟩ = some (.int .i64 q.head.c) ∧ W.cell? ⟨w.heap.size + 1, 10, none⟩ = some (.int .i64 q.head.r) ∧ W.cell? ⟨w.heap.size + 1, 11, none⟩ = some (.int .i64 q.head.h) ∧ W.cell? ⟨w.heap.size + 1, 12, none⟩ = some (.int .i64 q.head.k) ∧ W.cell? ⟨w.heap.size + 1, 13, none⟩ = some (.int .i64 q.head.f) ∧ W.cell? ⟨w.heap.size + 1, 14, none⟩ = some (.int .i64 q.head.n))) := ⟨fun W hb => by
  have h1 := (hb.block _ (blk_lt HP7.out)).trans HP7.out
  have h2 := (hb.block _ (blk_lt HQ7.out)).trans HQ7.out
  exact ⟨hb, (blk_cell h2 0).trans rfl, (blk_cell h2 1).trans rfl, (blk_cell h2 2).trans rfl, (blk_cell h2 3).trans rfl, (blk_cell h2 4).trans rfl, (blk_cell h2 5).trans rfl, (blk_cell h2 6).trans rfl, (blk_cell h2 7).trans rfl, (blk_cell h2 8).trans rfl, (blk_cell h2 9).trans rfl, (blk_cell h2 10).trans rfl, (blk_cell h2 11).trans rfl, (blk_cell h2 12).trans rfl, (blk_cell h2 13).trans rfl, (blk_cell h2 14).trans rfl⟩⟩
 have HSD := HSX.out w7.drew (below_drew1 (Below.refl _ _))
 go_cut [13] (fun v13 wx => v13 = .bool true ∧ Aside0 (Below w7.heap.size w7 wx))
 case first =>
  as_aux_lemma =>
   go_region_held3 (fun W => Below w7.heap.size w7 W ∧ W.cell? ⟨w.heap.size + 1, 0, none⟩ = some (.int .i64 q.kind) ∧ W.cell? ⟨w.heap.size + 1, 1, none⟩ = some (.slice Q1 q.items.length qc1) ∧ W.cell? ⟨w.heap.size + 1, 2, none⟩ = some (.int .i64 q.level) ∧ W.cell? ⟨w.heap.size + 1, 3, none⟩ = some (.slice Q3 q.seps.length qc3) ∧ W.cell? ⟨w.heap.size + 1, 4, none⟩ = some (.slice Q4 q.kids.length qc4) ∧ W.cell? ⟨w.heap.size + 1, 5, none⟩ = some (.int .i64 q.next) ∧ W.cell? ⟨w.heap.size + 1, 6, none⟩ = some (.slice Q6 q.data.length qc6) ∧ W.cell? ⟨w.heap.size + 1, 7, none⟩ = some (.slice Q7 q.list.length qc7) ∧ W.cell? ⟨w.heap.size + 1, 8, none⟩ = some (.int .i64 q.head.v) ∧ W.cell? ⟨w.heap.size + 1, 9, none⟩ = some (.int .i64 q.head.c) ∧ W.cell? ⟨w.heap.size + 1, 10, none⟩ = some (.int .i64 q.head.r) ∧ W.cell? ⟨w.heap.size + 1, 11, none⟩ = some (.int .i64 q.head.h) ∧ W.cell? ⟨w.heap.size + 1, 12, none⟩ = some (.int .i64 q.head.k) ∧ W.cell? ⟨w.heap.size + 1, 13, none⟩ = some (.int .i64 q.head.f) ∧ W.cell? ⟨w.heap.size + 1, 14, none⟩ = some (.int .i64 q.head.n)) (first | exact HSD | exact HSX.out _ (by assumption)) (first | (go_at_call 17; (with_reducible refine (coppicelaw8_num.calls ed ed _ rfl).mono ?_); rintro e W ⟨rfl, hd⟩; have hBn : Below w7.heap.size w7 W := below_step (by first | assumption | exact HSD.1) (Drawn0.below hd); clear hd) | (go_at_call 26; refine (HBK.out _ (by first | assumption | exact HSD.1)).mono ?_; rintro e W2 ⟨rfl, hb2⟩; have hBn2 : Below w7.heap.size w7 W2 := below_step (by first | assumption | exact HSD.1) hb2; clear hb2))
   all_goals
    go_wp2
    go_meet
    case rel => exact ⟨rfl, ⟨by assumption⟩⟩
 case rest =>
 obtain ⟨rfl, hbx⟩ := hcut
 obtain ⟨w8, rfl⟩ : ∃ x : World, x = wc := ⟨_, rfl⟩
 have hb := hbx.out
 have HC58 := Aside0.mk (And.intro HC57.out.1 (Kd.C_below HC57.out.2 hb))
 have HC68 := Aside0.mk (And.intro HC67.out.1 (Kd.C_below HC67.out.2 hb))
 clear HBK HC57 HC67 hbx HSX HSD
 have HB8 := Aside0.mk (below_then HB7.out HB7.out.size hb)
 have hp8 := (hb.block _ (blk_lt HP7.out)).trans HP7.out
 have hq8 := (hb.block _ (blk_lt HQ7.out)).trans HQ7.out
 have HP8 := Aside0.mk hp8
 have HQ8 := Aside0.mk hq8
 clear hp8 hq8 hb HB7 HP7 HQ7
 have HSB : Aside0 (∃ r : Bool, (∀ W, Below w8.heap.size w8 W → Calls Tryz.prog 18 #[.slice A5 c.length c5, .slice A6 d.length c6] W fun e w' => e = .returned (.bool r) ∧ Below W.heap.size W w') ∧
  (ec = 0 → ed = 0 → ∀ W, Below w8.heap.size w8 W → Calls Tryz.prog 22 #[pgv p.kind (.slice P1 p.items.length pc1) p.level (.slice P3 p.seps.length pc3) (.slice P4 p.kids.length pc4) p.next (.slice P6 p.data.length pc6) (.slice P7 p.list.length pc7) p.head, pgv q.kind (.slice Q1 q.items.length qc1) q.level (.slice Q3 q.seps.length qc3) (.slice Q4 q.kids.length qc4) q.next (.slice Q6 q.data.length qc6) (.slice Q7 q.list.length qc7) q.head] W fun e w' => e = .returned (.bool r) ∧ Below W.heap.size W w')) := ⟨eqStr c d,
  fun W hb => (coppiceref_SameBytes.calls A5 c5 c A6 c6 d _ W (Kd.C_below HC58.out.2 hb) HC58.out.1 (Kd.C_below HC68.out.2 hb) HC68.out.1 rfl).mono fun _ _ h => ⟨h.1, Drawn0.below h.2⟩,
  fun h1 h2 W hb => (coppiceref_SamePage_any p q _ _ W (HPC.out.below (below_then HB8.out HB8.out.size hb)) (HQC.out.below (below_then HB8.out HB8.out.size hb)) HBP.out HBQ.out).mono fun e w' h => by
   obtain ⟨b, rfl, hb1, hb2⟩ := h
   have e1 := HEC.out
   have e2 := HED.out
   rw [h1] at e1
   rw [h2] at e2
   rw [enc_same HSP.out HSQ.out HBP.out HBQ.out e1 e2 hb1]
   exact ⟨rfl, hb2⟩⟩
 obtain ⟨r, hSB, hSM⟩ := HSB.out
 have HSBR := Aside0.mk hSB
 have HSMR := Aside0.mk hSM
 clear HSB hSB hSM HEC HED HC58 HC68
 go_upto_region 10 with (fail)
 have HSX : Aside0 (∀ W : World, Below w8.heap.size w8 W → (Below w8.heap.size w8 W ∧ W.cell? ⟨w.heap.size, 0, none⟩ = some (.int .i64 p.kind) ∧ W.cell? ⟨w.heap.size, 1, none⟩ = some (.slice P1 p.items.length pc1) ∧ W.cell? ⟨w.heap.size, 2, none⟩ = some (.int .i64 p.level) ∧ W.cell? ⟨w.heap.size, 3, none⟩ = some (.slice P3 p.seps.length pc3) ∧ W.cell? ⟨w.heap.size, 4, none⟩ = some (.slice P4 p.kids.length pc4) ∧ W.cell? ⟨w.heap.size, 5, none⟩ = some (.int .i64 p.next) ∧ W.cell? ⟨w.heap.size, 6, none⟩ = some (.slice P6 p.data.length pc6) ∧ W.cell? ⟨w.heap.size, 7, none⟩ = some (.slice P7 p.list.length pc7) ∧ W.cell? ⟨w.heap.size, 8, none⟩ = some (.int .i64 p.head.v) ∧ W.cell? ⟨w.heap.size, 9, none⟩ = some (.int .i64 p.head.c) ∧ W.cell? ⟨w.heap.size, 10, none⟩ = some (.int .i64 p.head.r) ∧ W.cell? ⟨w.heap.size, 11, none⟩ = some (.int .i64 p.head.h) ∧ W.cell? ⟨w.heap.size, 12, none⟩ = some (.int .i64 p.head.k) ∧ W.cell? ⟨w.heap.size, 13, none⟩ = some (.int .i64 p.head.f) ∧ W.cell? ⟨w.heap.size, 14, none⟩ = some (.int .i64 p.head.n) ∧ W.cell? ⟨w.heap.size + 1, 0, none⟩ = some (.int .i64 q.kind) ∧ W.cell? ⟨w.heap.size + 1, 1, none⟩ = some (.slice Q1 q.items.length qc1) ∧ W.cell? ⟨w.heap.size + 1, 2, none⟩ = some (.int .i64 q.level) ∧ W.cell? ⟨w.heap.size + 1, 3, none⟩ = some (.slice Q3 q.seps.length qc3) ∧ W.cell? ⟨w.heap.size + 1, 4, none⟩ = some (.slice Q4 q.kids.length qc4) ∧ W.cell? ⟨w.heap.size + 1, 5, none⟩ = some (.int .i64 q.next) ∧ W.cell? ⟨w.heap.size + 1, 6, none⟩ = some (.slice Q6 q.data.length qc6) ∧ W.cell? ⟨w.heap.size + 1, 7, none⟩ = some (.slice Q7 q.list.length qc7) ∧ W.cell? ⟨w.heap.size + 1, 8, none⟩ = some (.int .i64 q.head.v) ∧ W.cell? ⟨w.heap.size + 1, 9, none⟩ = some (.int .i64 q.head.c) ∧ W.cell? ⟨w.heap.size + 1, 10, none⟩ = some (.int .i64 q.head.r) ∧ W.cell? ⟨w.heap.size + 1, 11, none⟩ = some (.int .i64 q.head.h) ∧ W.cell? ⟨w.heap.size + 1, 12, none⟩ = some (.int .i64 q.head.k) ∧ W.cell? ⟨w.heap.size + 1, 13, none⟩ = some (.int .i64 q.head.f) ∧ W.cell? ⟨w.heap.size + 1, 14, none⟩ = some (.int .i64 q.head.n))) := ⟨fun W hb => by
  have h1 := (hb.block _ (blk_lt HP8.out)).trans HP8.out
  have h2 := (hb.block _ (blk_lt HQ8.out)).trans HQ8.out
  exact ⟨hb, (blk_cell h1 0).trans rfl, (blk_cell h1 1).trans rfl, (blk_cell h1 2).trans rfl, (blk_cell h1 3).trans rfl, (blk_cell h1 4).trans rfl, (blk_cell h1 5).trans rfl, (blk_cell h1 6).trans rfl, (blk_cell h1 7).trans rfl, (blk_cell h1 8).trans rfl, (blk_cell h1 9).trans rfl, (blk_cell h1 10).trans rfl, (blk_cell h1 11).trans rfl, (blk_cell h1 12).trans rfl, (blk_cell h1 13).trans rfl, (blk_cell h1 14).trans rfl, (blk_cell h2 0).trans rfl, (blk_cell h2 1).trans rfl, (blk_cell h2 2).trans rfl, (blk_cell h2 3).trans rfl, (blk_cell h2 4).trans rfl, (blk_cell h2 5).trans rfl, (blk_cell h2 6).trans rfl, (blk_cell h2 7).trans rfl, (blk_cell h2 8).trans rfl, (blk_cell h2 9).trans rfl, (blk_cell h2 10).trans rfl, (blk_cell h2 11).trans rfl, (blk_cell h2 12).trans rfl, (blk_cell h2 13).trans rfl, (blk_cell h2 14).trans rfl⟩⟩
 have HSD := HSX.out w8.drew (below_drew1 (Below.refl _ _))
 go_cut [79] (fun v79 wx => v79 = .bool false ∧ Aside0 (Below w8.heap.size w8 wx))
 case first =>
  as_aux_lemma =>
   by_cases k1 : ec = 0
   rotate_left
   · have d1 : (ec == 0) = false := beq_eq_false_iff_ne.mpr k1
     clear HSBR HSMR k1
     go_quiet ((first | (go_at_call 17; exact num_quiet _ _ _)))
     go_wp2
     go_meet
     case rel => exact ⟨rfl, ⟨pw_below_drewN (Below.refl _ _) _⟩⟩
   subst k1
   by_cases k2 : ed = 0
   rotate_left
   · have d1 : (ed == 0) = false := beq_eq_false_iff_ne.mpr k2
     clear HSBR HSMR k2
     go_quiet ((first | (go_at_call 17; exact num_quiet _ _ _)))
     go_wp2
     go_meet
     case rel => exact ⟨rfl, ⟨pw_below_drewN (Below.refl _ _) _⟩⟩
   subst k2
   have hm := HSMR.out rfl rfl
   have HSMT := Aside0.mk hm
   clear hm HSMR
   go_region_held3 (fun W => Below w8.heap.size w8 W ∧ W.cell? ⟨w.heap.size, 0, none⟩ = some (.int .i64 p.kind) ∧ W.cell? ⟨w.heap.size, 1, none⟩ = some (.slice P1 p.items.length pc1) ∧ W.cell? ⟨w.heap.size, 2, none⟩ = some (.int .i64 p.level) ∧ W.cell? ⟨w.heap.size, 3, none⟩ = some (.slice P3 p.seps.length pc3) ∧ W.cell? ⟨w.heap.size, 4, none⟩ = some (.slice P4 p.kids.length pc4) ∧ W.cell? ⟨w.heap.size, 5, none⟩ = some (.int .i64 p.next) ∧ W.cell? ⟨w.heap.size, 6, none⟩ = some (.slice P6 p.data.length pc6) ∧ W.cell? ⟨w.heap.size, 7, none⟩ = some (.slice P7 p.list.length pc7) ∧ W.cell? ⟨w.heap.size, 8, none⟩ = some (.int .i64 p.head.v) ∧ W.cell? ⟨w.heap.size, 9, none⟩ = some (.int .i64 p.head.c) ∧ W.cell? ⟨w.heap.size, 10, none⟩ = some (.int .i64 p.head.r) ∧ W.cell? ⟨w.heap.size, 11, none⟩ = some (.int .i64 p.head.h) ∧ W.cell? ⟨w.heap.size, 12, none⟩ = some (.int .i64 p.head.k) ∧ W.cell? ⟨w.heap.size, 13, none⟩ = some (.int .i64 p.head.f) ∧ W.cell? ⟨w.heap.size, 14, none⟩ = some (.int .i64 p.head.n) ∧ W.cell? ⟨w.heap.size + 1, 0, none⟩ = some (.int .i64 q.kind) ∧ W.cell? ⟨w.heap.size + 1, 1, none⟩ = some (.slice Q1 q.items.length qc1) ∧ W.cell? ⟨w.heap.size + 1, 2, none⟩ = some (.int .i64 q.level) ∧ W.cell? ⟨w.heap.size + 1, 3, none⟩ = some (.slice Q3 q.seps.length qc3) ∧ W.cell? ⟨w.heap.size + 1, 4, none⟩ = some (.slice Q4 q.kids.length qc4) ∧ W.cell? ⟨w.heap.size + 1, 5, none⟩ = some (.int .i64 q.next) ∧ W.cell? ⟨w.heap.size + 1, 6, none⟩ = some (.slice Q6 q.data.length qc6) ∧ W.cell? ⟨w.heap.size + 1, 7, none⟩ = some (.slice Q7 q.list.length qc7) ∧ W.cell? ⟨w.heap.size + 1, 8, none⟩ = some (.int .i64 q.head.v) ∧ W.cell? ⟨w.heap.size + 1, 9, none⟩ = some (.int .i64 q.head.c) ∧ W.cell? ⟨w.heap.size + 1, 10, none⟩ = some (.int .i64 q.head.r) ∧ W.cell? ⟨w.heap.size + 1, 11, none⟩ = some (.int .i64 q.head.h) ∧ W.cell? ⟨w.heap.size + 1, 12, none⟩ = some (.int .i64 q.head.k) ∧ W.cell? ⟨w.heap.size + 1, 13, none⟩ = some (.int .i64 q.head.f) ∧ W.cell? ⟨w.heap.size + 1, 14, none⟩ = some (.int .i64 q.head.n)) (first | exact HSD | exact HSX.out _ (by assumption)) (first
    | (go_at_call 17; (with_reducible refine (coppicelaw8_num.calls 0 0 _ rfl).mono ?_); rintro e W ⟨rfl, hd⟩; have hBn : Below w8.heap.size w8 W := below_step (by first | assumption | exact HSD.1) (Drawn0.below hd); clear hd)
    | (go_at_call 18; refine (HSBR.out _ (by first | assumption | exact HSD.1)).mono ?_; rintro e W2 ⟨rfl, hb2⟩; have hBn2 : Below w8.heap.size w8 W2 := below_step (by first | assumption | exact HSD.1) hb2; clear hb2)
    | (go_at_call 22; refine (HSMT.out _ (by first | assumption | exact HSD.1)).mono ?_; rintro e W3 ⟨rfl, hb3⟩; have hBn3 : Below w8.heap.size w8 W3 := below_step (by first | assumption | exact HSD.1) hb3; clear hb3))
   all_goals
    go_wp2
    go_meet
    case rel => exact ⟨congrArg Value.bool (by simp), ⟨by assumption⟩⟩
 case rest =>
 obtain ⟨rfl, hbx⟩ := hcut
 obtain ⟨w9, rfl⟩ : ∃ x : World, x = wc := ⟨_, rfl⟩
 have hb := hbx.out
 clear hbx HSBR HSMR HSX HSD
 have HB9 := Aside0.mk (below_then HB8.out HB8.out.size hb)
 have hp9 := (hb.block _ (blk_lt HP8.out)).trans HP8.out
 have hq9 := (hb.block _ (blk_lt HQ8.out)).trans HQ8.out
 have HP9 := Aside0.mk hp9
 have HQ9 := Aside0.mk hq9
 clear hp9 hq9 hb HB8 HP8 HQ8
 clear HP9 HQ9 HPC HQC HBP HBQ HSP HSQ
 obtain ⟨⟨rp, er⟩, hdr⟩ : ∃ x, decPageR b = x := ⟨_, rfl⟩
 have HD := page_Decode.calls A c0 b w9 (Kd.C_below HC.out.1 HB9.out) HC.out.2 (HL.out.below HB9.out) (HM.out.below HB9.out)
 rw [HN.out, hdr] at HD
 have HD := Aside0.mk HD
 have HDR := Aside0.mk hdr
 clear hdr
 go_wp2_with fail
 refine HD.out.mono ?_
 rintro e w10 ⟨v10, rfl, hR10, hb⟩
 have hT := PgR.C hR10
 simp only at hT
 obtain ⟨T1, tc1, T3, tc3, T4, tc4, T6, tc6, T7, tc7, rfl, tr1, tr3, tr4, tr6, tr7⟩ := hT
 have HT10 := Aside0.mk (show PgC w10 rp _ from ⟨_, _, _, _, _, _, _, _, _, _, rfl, tr1, tr3, tr4, tr6, tr7⟩)
 have HB10 := Aside0.mk (below_then HB9.out HB9.out.size hb)
 clear HD hR10 hb HB9 tr1 tr3 tr4 tr6 tr7
 go_upto_region 13 with (fail)
 obtain ⟨w11, hw11⟩ : ∃ x, x = w10.alloc (.cells #[.int .i64 rp.kind, .slice T1 rp.items.length tc1, .int .i64 rp.level, .slice T3 rp.seps.length tc3, .slice T4 rp.kids.length tc4, .int .i64 rp.next, .slice T6 rp.data.length tc6, .slice T7 rp.list.length tc7, .int .i64 rp.head.v, .int .i64 rp.head.c, .int .i64 rp.head.r, .int .i64 rp.head.h, .int .i64 rp.head.k, .int .i64 rp.head.f, .int .i64 rp.head.n] 30) := ⟨_, rfl⟩
 obtain ⟨g11, hg11⟩ : ∃ x, x = w10.heap.size := ⟨_, rfl⟩
 rw [← hw11, ← hg11]
 have hb : Below w10.heap.size w10 w11 := by rw [hw11]; exact below_alloc (Below.refl _ _) _
 have ht11 : w11.heap[g11]? = some (.cells #[.int .i64 rp.kind, .slice T1 rp.items.length tc1, .int .i64 rp.level, .slice T3 rp.seps.length tc3, .slice T4 rp.kids.length tc4, .int .i64 rp.next, .slice T6 rp.data.length tc6, .slice T7 rp.list.length tc7, .int .i64 rp.head.v, .int .i64 rp.head.c, .int .i64 rp.head.r, .int .i64 rp.head.h, .int .i64 rp.head.k, .int .i64 rp.head.f, .int .i64 rp.head.n] 30) := by rw [hw11, hg11]; exact heap_alloc_new _ _
 have HT11 := Aside0.mk (HT10.out.below hb)
 have HB11 := Aside0.mk (below_then HB10.out HB10.out.size hb)
 have HTT11 := Aside0.mk ht11
 clear hw11 hg11 hb ht11 HT10 HB10
 go_wp2_with fail
 refine (coppicelaw8_num.calls er er w11 rfl).mono ?_
 rintro e w12 ⟨rfl, hd⟩
 have hb : Below w11.heap.size w11 w12 := Drawn0.below hd
 have HT12 := Aside0.mk (HT11.out.below hb)
 have HB12 := Aside0.mk (below_then HB11.out HB11.out.size hb)
 have ht12 := (hb.block _ (blk_lt HTT11.out)).trans HTT11.out
 obtain ⟨z0, z1, z2, z3, z4, z5, z6, z7, z8, z9, z10, z11, z12, z13, z14⟩ := cells15 ht12
 clear hd hb ht12 HTT11 HT11 HB11
 by_cases k1 : er = 0
 rotate_left
 · have d1 : (er == 0) = false := beq_eq_false_iff_ne.mpr k1
   have d2 : (er != 0) = true := bne_iff_ne.mpr k1
   have hr0 := page_dec_no (l := b) (by rw [HDR.out]; exact k1)
   rw [HDR.out] at hr0
   have hr0' : rp = pg0 := hr0
   have hb0 : ByteP pg0 := ⟨fun x hx => by simp [pg0] at hx, fun x hx => by simp [pg0] at hx, fun x hx => by simp [pg0] at hx⟩
   have HSM : Aside0 (∀ W, Below w12.heap.size w12 W → Calls Tryz.prog 22 #[pgv rp.kind (.slice T1 rp.items.length tc1) rp.level (.slice T3 rp.seps.length tc3) (.slice T4 rp.kids.length tc4) rp.next (.slice T6 rp.data.length tc6) (.slice T7 rp.list.length tc7) rp.head, pgv 0 (.slice none 0 0) 0 (.slice none 0 0) (.slice none 0 0) 0 (.slice none 0 0) (.slice none 0 0) hd0] W (TruePost W)) := ⟨fun W hb => (coppiceref_SamePage_any rp pg0 _ _ W (HT12.out.below hb) ⟨none, 0, none, 0, none, 0, none, 0, none, 0, rfl, ⟨by decide, Kd.C_nil _ _⟩, ⟨by decide, Kd.C_nil _ _⟩, ⟨by decide, Kd.C_nil _ _⟩, ⟨by decide, Kd.C_nil _ _⟩, ⟨by decide, Kd.C_nil _ _⟩⟩ (by rw [hr0']; exact hb0) hb0).mono fun e w' h => by
    obtain ⟨bb, rfl, hb1, hb2⟩ := h
    rw [hb1.2 hr0']
    exact ⟨rfl, hb2⟩⟩
   clear hr0 hr0' hb0 k1 HDR HT12
   go_wp2_with fail
   refine (HSM.out w12 (Below.refl _ _)).mono ?_
   rintro e w13 ⟨rfl, hb⟩
   have HB13 := Aside0.mk (below_then HB12.out HB12.out.size hb)
   clear hb HSM HB12
   go_wp2
   go_ret
   exact ⟨rfl, HB13.out⟩
 subst k1
 obtain ⟨po1, po2⟩ := page_only HBB.out HDR.out
 have HE := page_Encode.calls rp _ w12 HT12.out po2 (HL.out.below HB12.out) (HM.out.below HB12.out)
 rw [po1] at HE
 have HE := Aside0.mk HE
 clear po1 po2 HDR HT12
 go_wp2_with fail
 refine HE.out.mono ?_
 rintro e w13 ⟨v13, rfl, hR13, hb⟩
 simp only at hR13 ⊢
 obtain ⟨A13, c13, hv13, hl13, hC13⟩ := Kd.R_reads hR13
 subst hv13
 have HB13 := Aside0.mk (below_then HB12.out HB12.out.size hb)
 have HC13 := Aside0.mk (And.intro hl13 hC13)
 clear HE hR13 hl13 hC13 hb HB12 z0 z1 z2 z3 z4 z5 z6 z7 z8 z9 z10 z11 z12 z13 z14
 go_wp2_with fail
 refine (coppicelaw8_num.calls 0 0 w13 rfl).mono ?_
 rintro e w14 ⟨rfl, hd⟩
 have hb : Below w13.heap.size w13 w14 := Drawn0.below hd
 have HB14 := Aside0.mk (below_then HB13.out HB13.out.size hb)
 have HSB := (coppiceref_SameBytes.calls A13 c13 b A c0 b true w14 (Kd.C_below HC13.out.2 hb) HC13.out.1 (Kd.C_below HC.out.1 HB14.out) HC.out.2 (congrArg some (eqStr_self b)))
 rw [HN.out] at HSB
 have HSB := Aside0.mk HSB
 rw [HN.out]
 clear hd hb HB13 HC13
 go_wp2_with fail
 refine HSB.out.mono ?_
 rintro e w15 ⟨rfl, hd⟩
 have HB15 := Aside0.mk (below_then HB14.out HB14.out.size (Drawn0.below hd))
 clear hd HSB HB14
 go_wp2
 go_ret
 exact ⟨rfl, HB15.out⟩
end Go.Proofs.YtppjphghlclklaaGreatDoor.P
end
