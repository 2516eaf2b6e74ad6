/- Parts of a proof, laid together by a program of this session (slim.py). -/
import Derived.Test.YtppjphghlclklaaGreatDoorZ23
import Derived.BigQuiet
set_option maxHeartbeats 8000000
set_option maxRecDepth 100000
section
namespace Go.Proofs.YtppjphghlclklaaGreatDoor.P
open Go.RowKit Go.Proofs.YtppjphghlclklaaGreatDoorW.PrintWords Go.Proofs.YtppjphghlclklaaGreatDoorW.PrintLast Go.Proofs.YtppjphghlclklaaGreatDoorW.PrintMore
attribute [local go_sem] max2_int min2_int max_two min_two max_three min_three max_four min_four
set_option linter.unusedVariables false
set_option linter.unusedSimpArgs false
theorem num_quiet (a : Int) (w : World) (n : Nat) : Calls Tryz.prog 17 #[.int .i64 a] (w.drewN n) fun e w'' => e = .returned (.int .i64 a) ∧ ∃ m, w'' = w.drewN m :=
 Calls.quiet_of ((coppicelaw8_num.calls a a _ rfl).mono fun _ _ h => ⟨h.1, h.2.1⟩)
def TruePost (w : World) (e : Ending) (w' : World) : Prop := e = .returned (.bool true) ∧ Below w.heap.size w w'
theorem coppicelaw8_back_any (p : Pg) (v : Value) (w : World) (hp : PgC w p v) (hs : SmallP p) (hbp : ByteP p) (c : List Int) (e : Int) (hE : encPageR p = (c, e)) (A : Option Addr) (c0 : Nat) (hC : Kd.C (Kd.int .u8) w A c.length c) (hc : c.length ≤ c0) (hL : CrcLaid w) (hM : MetaLaid w) :
 Calls Tryz.prog 26 #[v, .slice A c.length c0, .int .i64 e] w (TruePost w) := by
 obtain ⟨P1, pc1, P3, pc3, P4, pc4, P6, pc6, P7, pc7, rfl, pr1, pr3, pr4, pr6, pr7⟩ := hp
 by_cases ce : e = 0
 rotate_left
 · have hcn : c = [] := by
    have h := page_enc_no (p := p) (by rw [hE]; exact ce)
    rw [hE] at h
    exact h
   subst hcn
   have d1 : (e == 0) = false := beq_eq_false_iff_ne.mpr ce
   have d2 : (e != 0) = true := bne_iff_ne.mpr ce
   clear ce hE hC hc hL hM hs hbp pr1 pr3 pr4 pr6 pr7
   go_enter Tryz.func26, Tryz.ntmps26
   go_wp2
   go_ret
   exact ⟨rfl, below_alloc (Below.refl _ _) _⟩
 subst ce
 obtain ⟨b1, b2, b3, b4, b5⟩ := page_back hs hE
 have HD := Aside0.mk (fun (W : World) (hb : Below w.heap.size w W) => page_Decode.calls A c0 c W (Kd.C_below hC hb) hc (hL.below hb) (hM.below hb))
 have HO := Aside0.mk (fun (W : World) (hb : Below w.heap.size w W) => crc_Open.calls A c0 c W (hL.below hb) (Kd.C_below hC hb) hc)
 rw [b1] at HD
 rw [b3] at HO
 obtain ⟨B, hB⟩ : ∃ B, c.take 4092 = B := ⟨_, rfl⟩
 rw [hB] at HO b4 b5
 have hb0 : B[0]? = some p.kind := by
  rw [← b5, List.getD_eq_getElem?_getD, List.getElem?_eq_getElem (by omega)]
  rfl
 have hkr : 1 ≤ p.kind ∧ p.kind ≤ 5 := by
  unfold encPageR at hE
  by_cases ck : p.kind < 1 ∨ 5 < p.kind
  · rw [if_pos ck] at hE
    exact absurd (Prod.mk.inj hE).2 (by decide)
  · omega
 have hw : IntKind.i64.wrap p.kind = p.kind := by rw [IntKind.wrap_i64]; omega
 have HPC := Aside0.mk (show PgC w p _ from ⟨_, _, _, _, _, _, _, _, _, _, rfl, pr1, pr3, pr4, pr6, pr7⟩)
 have HBP := Aside0.mk hbp
 have HB0 := Aside0.mk hb0
 have HBL := Aside0.mk b4
 have HW := Aside0.mk hw
 rw [b2] at HD HO ⊢
 clear hE hC hc hL hM hs hbp pr1 pr3 pr4 pr6 pr7 b1 b3 b5 hB hb0 hkr b2 b4 hw
 go_enter Tryz.func26, Tryz.ntmps26
 go_wp2_with fail
 obtain ⟨w1, hw1⟩ : ∃ x, x = w.alloc (.cells #[.int .i64 p.kind, .slice P1 p.items.length pc1, .int .i64 p.level, .slice P3 p.seps.length pc3, .slice P4 p.kids.length pc4, .int .i64 p.next, .slice P6 p.data.length pc6, .slice P7 p.list.length pc7, .int .i64 p.head.v, .int .i64 p.head.c, .int .i64 p.head.r, .int .i64 p.head.h, .int .i64 p.head.k, .int .i64 p.head.f, .int .i64 p.head.n] 30) := ⟨_, rfl⟩
 rw [← hw1]
 have HB1 : Aside0 (Below w.heap.size w w1) := ⟨by rw [hw1]; exact below_alloc (Below.refl _ _) _⟩
 have HP1 : Aside0 (w1.heap[w.heap.size]? = some (.cells #[.int .i64 p.kind, .slice P1 p.items.length pc1, .int .i64 p.level, .slice P3 p.seps.length pc3, .slice P4 p.kids.length pc4, .int .i64 p.next, .slice P6 p.data.length pc6, .slice P7 p.list.length pc7, .int .i64 p.head.v, .int .i64 p.head.c, .int .i64 p.head.r, .int .i64 p.head.h, .int .i64 p.head.k, .int .i64 p.head.f, .int .i64 p.head.n] 30)) := ⟨by rw [hw1]; exact heap_alloc_new _ _⟩
 clear hw1
 refine (HD.out w1 HB1.out).mono ?_
 rintro e w2 ⟨v2, rfl, hR2, hB2⟩
 have hQ := PgR.C hR2
 obtain ⟨Q1, qc1, Q3, qc3, Q4, qc4, Q6, qc6, Q7, qc7, rfl, qr1, qr3, qr4, qr6, qr7⟩ := hQ
 have HQC := Aside0.mk (show PgC w2 p _ from ⟨_, _, _, _, _, _, _, _, _, _, rfl, qr1, qr3, qr4, qr6, qr7⟩)
 have HP2 := Aside0.mk ((hB2.block _ (blk_lt HP1.out)).trans HP1.out)
 have HB2 := Aside0.mk (below_step HB1.out hB2)
 clear HB1 HP1 hR2 hB2 qr1 qr3 qr4 qr6 qr7 HD
 go_wp2_with fail
 obtain ⟨w3, hw3⟩ : ∃ x, x = w2.alloc (.cells #[.int .i64 p.kind, .slice Q1 p.items.length qc1, .int .i64 p.level, .slice Q3 p.seps.length qc3, .slice Q4 p.kids.length qc4, .int .i64 p.next, .slice Q6 p.data.length qc6, .slice Q7 p.list.length qc7, .int .i64 p.head.v, .int .i64 p.head.c, .int .i64 p.head.r, .int .i64 p.head.h, .int .i64 p.head.k, .int .i64 p.head.f, .int .i64 p.head.n] 30) := ⟨_, rfl⟩
 obtain ⟨g3, hg3⟩ : ∃ x, x = w2.heap.size := ⟨_, rfl⟩
 rw [← hw3, ← hg3]
 have hb3 : Below w2.heap.size w2 w3 := by rw [hw3]; exact below_alloc (Below.refl _ _) _
 have HQ3 : Aside0 (w3.heap[g3]? = some (.cells #[.int .i64 p.kind, .slice Q1 p.items.length qc1, .int .i64 p.level, .slice Q3 p.seps.length qc3, .slice Q4 p.kids.length qc4, .int .i64 p.next, .slice Q6 p.data.length qc6, .slice Q7 p.list.length qc7, .int .i64 p.head.v, .int .i64 p.head.c, .int .i64 p.head.r, .int .i64 p.head.h, .int .i64 p.head.k, .int .i64 p.head.f, .int .i64 p.head.n] 30)) := ⟨by rw [hw3, hg3]; exact heap_alloc_new _ _⟩
 have HP3 := Aside0.mk ((hb3.block _ (blk_lt HP2.out)).trans HP2.out)
 have HQC3 := Aside0.mk (HQC.out.below hb3)
 have HB3 := Aside0.mk (below_then HB2.out HB2.out.size hb3)
 clear hw3 hg3 hb3 HP2 HB2 HQC
 refine (HO.out w3 HB3.out).mono ?_
 rintro e w4 ⟨v4, rfl, hR4, hB4⟩
 simp only at hR4
 obtain ⟨A4, c4, hv4, hl4, hC4⟩ := Kd.R_reads hR4
 subst hv4
 obtain ⟨ad, had, y4⟩ := C_byte hC4 0 p.kind HB0.out
 obtain ⟨gB, cap, hv2, _, _⟩ := R_at hR4 (by rw [HBL.out]; omega)
 injection hv2 with hv2 _ hcc
 subst hv2 hcc
 injection had with had
 subst had
 have z4 : w4.cell? ⟨gB, 0, none⟩ = some (.int .u8 p.kind) := y4
 have HZ4 := Aside0.mk z4
 clear y4 z4
 simp only
 rw [HBL.out]
 have hp4 := (hB4.block _ (blk_lt HP3.out)).trans HP3.out
 have hq4 := (hB4.block _ (blk_lt HQ3.out)).trans HQ3.out
 have HP4 := Aside0.mk hp4
 have HQC4 := Aside0.mk (HQC3.out.below hB4)
 have HB4 := Aside0.mk (below_step HB3.out hB4)
 obtain ⟨x0, x1, x2, x3, x4, x5, x6, x7, x8, x9, x10, x11, x12, x13, x14⟩ := cells15 hp4
 obtain ⟨y0, y1, y2, y3, y4, y5, y6, y7, y8, y9, y10, y11, y12, y13, y14⟩ := cells15 hq4
 clear hp4 hq4 hB4 HP3 HQ3 HQC3 HB3 hR4 hl4 hC4 HO
 go_wp2_with fail
 refine (coppiceref_SamePage_any p p _ _ w4 (HPC.out.below HB4.out) HQC4.out HBP.out HBP.out).mono ?_
 rintro e w5 ⟨b, rfl, hbb, hB5⟩
 obtain rfl : b = true := hbb.2 rfl
 have hp5 := (hB5.block _ (blk_lt HP4.out)).trans HP4.out
 have z5 := pw_cell_below hB5 HZ4.out
 have HB5 := Aside0.mk (below_step HB4.out hB5)
 clear x0 y0 x1 y1 x2 y2 x3 y3 x4 y4 x5 y5 x6 y6 x7 y7 x8 y8 x9 y9 x10 y10 x11 y11 x12 y12 x13 y13 x14 y14 HP4 HQC4 HB4 hB5 hbb HZ4
 have x0 := (blk_cell hp5 0).trans rfl
 clear hp5
 have hw := HW.out
 go_upto_region 6 with (fail)
 go_quiet (first | (go_at_call 17; exact num_quiet _ _ _))
 go_wp2
 go_ret
 exact ⟨rfl, pw_below_drewN HB5.out _⟩
end Go.Proofs.YtppjphghlclklaaGreatDoor.P
end
