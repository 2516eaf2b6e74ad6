/- Parts of a proof, laid together by a program of this session (slim.py). -/
import Derived.Test.YtppjphghlclklaaGreatDoorY19
import Derived.Laws.EntriesVeiled
set_option maxHeartbeats 8000000
set_option maxRecDepth 100000
section
namespace Go.Proofs.YtppjphghlclklaaGreatDoor.P
open Go.RowKit Go.Proofs.YtppjphghlclklaaGreatDoorW.PrintWords Go.Proofs.YtppjphghlclklaaGreatDoorW.PrintLast Go.Proofs.YtppjphghlclklaaGreatDoorW.PrintMore
attribute [local go_sem] max2_int min2_int max_two min_two max_three min_three max_four min_four
set_option linter.unusedVariables false
set_option linter.unusedSimpArgs false
attribute [local go_sem high] plain_neq
theorem page_EncodeV (n : Int) (hn1 : 1 ≤ n) (hn5 : n ≤ 5) (fh fe fd : Nat) (hcf : ∀ (args : Array Value) (W : World), (callFunc fh args).run Tryz.prog W = .ok (.enter fh args) W) (hcg : ∀ (args : Array Value) (W : World), (callFunc fe args).run Tryz.prog W = .ok (.enter fe args) W) (HF : Aside0 (kindCells[(n.toNat - 1) * 3]? = some (.func (.func fh) #[] #[]) ∧ kindCells[(n.toNat - 1) * 3 + 1]? = some (.func (.func fe) #[] #[]) ∧ kindCells[(n.toNat - 1) * 3 + 2]? = some (.func (.func fd) #[] #[]))) (B1 : Option Addr) (m1 d1 : Nat) (l2 : Int) (B3 : Option Addr) (m3 d3 : Nat) (B4 : Option Addr) (m4 d4 : Nat) (l5 : Int) (B6 : Option Addr) (m6 d6 : Nat) (B7 : Option Addr) (m7 d7 : Nat) (hh : Hd7) (A1 : Option Addr) (n1 c1 : Nat) (p2 : Int) (A3 : Option Addr) (n3 c3 : Nat) (A4 : Option Addr) (n4 c4 : Nat) (p5 : Int) (A6 : Option Addr) (n6 c6 : Nat) (A7 : Option Addr) (n7 c7 : Nat) (h : Hd7) (w : World) (E S : List Int × Int) (sp : Bool)
 (HE : Aside0 (∀ W, Below w.heap.size w W → Calls Tryz.prog fe #[pgv n (.slice A1 n1 c1) p2 (.slice A3 n3 c3) (.slice A4 n4 c4) p5 (.slice A6 n6 c6) (.slice A7 n7 c7) h] W (EncPost W E)))
 (HH : Aside0 (∀ W, Calls Tryz.prog fh #[pgv n (.slice A1 n1 c1) p2 (.slice A3 n3 c3) (.slice A4 n4 c4) p5 (.slice A6 n6 c6) (.slice A7 n7 c7) h] W (fun e w' => e = .returned (pgv 0 (.slice B1 m1 d1) l2 (.slice B3 m3 d3) (.slice B4 m4 d4) l5 (.slice B6 m6 d6) (.slice B7 m7 d7) hh) ∧ Below W.heap.size W w'))) (HL : Aside0 (CrcLaid w)) (HSP : Aside0 (eqLs [(n1 : Int), p2, (n3 : Int), (n4 : Int), p5, (n6 : Int), (n7 : Int), h.v, h.c, h.r, h.h, h.k, h.f, h.n] [(m1 : Int), l2, (m3 : Int), (m4 : Int), l5, (m6 : Int), (m7 : Int), hh.v, hh.c, hh.r, hh.h, hh.k, hh.f, hh.n] = sp)) (HS : Aside0 (E.2 = 0 → crc_Seal.f E.1 = some S)) :
 Calls Tryz.prog 13 #[pgv n (.slice A1 n1 c1) p2 (.slice A3 n3 c3) (.slice A4 n4 c4) p5 (.slice A6 n6 c6) (.slice A7 n7 c7) h] w (EncPost w (if sp = true then (if E.2 = 0 then S else ([], E.2)) else ([], 81))) := by
 obtain ⟨h0, h1, h2, h3, h4, h5, h6⟩ := h
 obtain ⟨e0, e1, e2, e3, e4, e5, e6⟩ := hh
 obtain ⟨E1, ee⟩ := E
 obtain ⟨S1, S2⟩ := S
 obtain ⟨R, hR⟩ : ∃ R : List Int × Int, (if sp = true then (if ee = 0 then (S1, S2) else ([], ee)) else ([], 81)) = R := ⟨_, rfl⟩
 simp only at HS ⊢
 rw [hR]
 have HR := Aside0.mk hR
 clear hR
 go_enter Tryz.func13, Tryz.ntmps13
 go_wp2_with fail
 obtain ⟨w1, hw1⟩ : ∃ x, x = w.alloc (.cells #[.int .i64 n, .slice A1 n1 c1, .int .i64 p2, .slice A3 n3 c3, .slice A4 n4 c4, .int .i64 p5, .slice A6 n6 c6, .slice A7 n7 c7, .int .i64 h0, .int .i64 h1, .int .i64 h2, .int .i64 h3, .int .i64 h4, .int .i64 h5, .int .i64 h6] 30) := ⟨_, rfl⟩
 rw [← hw1]
 have HB1 : Aside0 (Below w.heap.size w w1) := ⟨by rw [hw1]; exact below_alloc (Below.refl _ _) _⟩
 have hb1 : w1.heap[w.heap.size]? = some (.cells #[.int .i64 n, .slice A1 n1 c1, .int .i64 p2, .slice A3 n3 c3, .slice A4 n4 c4, .int .i64 p5, .slice A6 n6 c6, .slice A7 n7 c7, .int .i64 h0, .int .i64 h1, .int .i64 h2, .int .i64 h3, .int .i64 h4, .int .i64 h5, .int .i64 h6] 30) := by rw [hw1]; exact heap_alloc_new _ _
 have HP1 := Aside0.mk hb1
 clear hw1 hb1
 refine (page_kinds.calls _).mono ?_
 rintro e w2 ⟨gk, rfl, hgk, hkc, hB⟩
 have hb2 := (hB.block _ (blk_lt HP1.out)).trans HP1.out
 have HP2 := Aside0.mk hb2
 have HB2 := Aside0.mk (below_step HB1.out hB)
 obtain ⟨q0, q1, q2, q3, q4, q5, q6, q7, q8, q9, q10, q11, q12, q13, q14⟩ := cells15 hb2
 have k0 := (blk_cell hkc ((n.toNat - 1) * 3)).trans HF.out.1
 have k1 := (blk_cell hkc ((n.toNat - 1) * 3 + 1)).trans HF.out.2.1
 have k2 := (blk_cell hkc ((n.toNat - 1) * 3 + 2)).trans HF.out.2.2
 have dn1 : decide (n < 1) = false := decide_eq_false (by omega)
 have dn2 : decide (n > 5) = false := decide_eq_false (by omega)
 have dn3 : decide (5 < n) = false := dn2
 clear HB1 HP1 hb2 hkc hB hgk
 go_upto_region 5 with (fail)
 obtain ⟨w3, hw3⟩ : ∃ x, x = w2.alloc (.cells #[.func (.func fh) #[] #[], .func (.func fe) #[] #[], .func (.func fd) #[] #[]] 87) := ⟨_, rfl⟩
 obtain ⟨g3, hg3⟩ : ∃ x, x = w2.heap.size := ⟨_, rfl⟩
 rw [← hw3, ← hg3]
 have hb3 : Below w2.heap.size w2 w3 := by rw [hw3]; exact below_alloc (Below.refl _ _) _
 have hn3 : w3.heap[g3]? = some (.cells #[.func (.func fh) #[] #[], .func (.func fe) #[] #[], .func (.func fd) #[] #[]] 87) := by rw [hw3, hg3]; exact heap_alloc_new _ _
 have hx3 := (hb3.block _ (blk_lt HP2.out)).trans HP2.out
 have HP3 := Aside0.mk hx3
 have HK3 := Aside0.mk hn3
 have HB3 := Aside0.mk (below_then HB2.out HB2.out.size hb3)
 clear hw3 hg3 hb3 HP2 HB2 q0 q1 q2 q3 q4 q5 q6 q7 q8 q9 q10 q11 q12 q13 q14 k0 k1 k2 dn1 dn2 dn3
 obtain ⟨q0, q1, q2, q3, q4, q5, q6, q7, q8, q9, q10, q11, q12, q13, q14⟩ := cells15 hx3
 have k0 := (blk_cell hn3 0).trans rfl
 have k1 := (blk_cell hn3 1).trans rfl
 have k2 := (blk_cell hn3 2).trans rfl
 clear hx3 hn3
 have HC0 : Aside0 (Below w3.heap.size w3 w3.drew) := ⟨below_drew1 (Below.refl _ _)⟩
 go_cut [32] (fun v32 wc => v32 = .bool (!sp) ∧ Aside0 (Below w3.heap.size w3 wc))
 case first =>
  go_region_with (first
   | (go_at_call 37; (with_reducible refine (page_plain_any n A1 n1 c1 p2 A3 n3 c3 A4 n4 c4 p5 A6 n6 c6 A7 n7 c7 ⟨h0, h1, h2, h3, h4, h5, h6⟩ _).mono ?_); rintro e W' ⟨rfl, hb⟩; have HC := Aside0.mk (below_step HC0.out hb); have hbx := (HC.out.block _ (blk_lt HP3.out)).trans HP3.out; have hkx := (HC.out.block _ (blk_lt HK3.out)).trans HK3.out; obtain ⟨q0, q1, q2, q3, q4, q5, q6, q7, q8, q9, q10, q11, q12, q13, q14⟩ := cells15 hbx; have k0 := (blk_cell hkx 0).trans rfl; have k1 := (blk_cell hkx 1).trans rfl; have k2 := (blk_cell hkx 2).trans rfl; clear hbx hkx hb HC0; have HC0 := HC; clear HC)
   | (go_at_call 37; (with_reducible refine (page_plain_any 0 B1 m1 d1 l2 B3 m3 d3 B4 m4 d4 l5 B6 m6 d6 B7 m7 d7 ⟨e0, e1, e2, e3, e4, e5, e6⟩ _).mono ?_); rintro e W' ⟨rfl, hb⟩; have HC := Aside0.mk (below_step HC0.out hb); have hbx := (HC.out.block _ (blk_lt HP3.out)).trans HP3.out; have hkx := (HC.out.block _ (blk_lt HK3.out)).trans HK3.out; obtain ⟨q0, q1, q2, q3, q4, q5, q6, q7, q8, q9, q10, q11, q12, q13, q14⟩ := cells15 hbx; have k0 := (blk_cell hkx 0).trans rfl; have k1 := (blk_cell hkx 1).trans rfl; have k2 := (blk_cell hkx 2).trans rfl; clear hbx hkx hb HC0; have HC0 := HC; clear HC)
   | ((with_reducible refine (HH.out _).mono ?_); rintro e W' ⟨rfl, hb⟩; have HC := Aside0.mk (below_step HC0.out hb); have hbx := (HC.out.block _ (blk_lt HP3.out)).trans HP3.out; have hkx := (HC.out.block _ (blk_lt HK3.out)).trans HK3.out; obtain ⟨q0, q1, q2, q3, q4, q5, q6, q7, q8, q9, q10, q11, q12, q13, q14⟩ := cells15 hbx; have k0 := (blk_cell hkx 0).trans rfl; have k1 := (blk_cell hkx 1).trans rfl; have k2 := (blk_cell hkx 2).trans rfl; clear hbx hkx hb HC0; have HC0 := HC; clear HC))
  all_goals
   go_wp2
   go_meet
   case rel => exact ⟨congrArg (fun b => Value.bool (!b)) HSP.out, HC0⟩
 case rest =>
  clear q0 q1 q2 q3 q4 q5 q6 q7 q8 q9 q10 q11 q12 q13 q14 k0 k1 k2 HC0 HSP
  obtain ⟨rfl, HC⟩ := hcut
  have HBC := Aside0.mk (below_then HB3.out HB3.out.size HC.out)
  cases sp with
  | false =>
   obtain rfl : (([] : List Int), (81 : Int)) = R := by rw [← HR.out]; rfl
   go_wp2
   go_ret2
   exact ⟨_, rfl, Kd.R_nil _ _ _ _ _, HBC.out⟩
  | true =>
   have hr := HR.out
   rw [if_pos rfl] at hr
   clear HR
   have HR := Aside0.mk hr
   clear hr
   have hbx := (HC.out.block _ (blk_lt HP3.out)).trans HP3.out
   have hkx := (HC.out.block _ (blk_lt HK3.out)).trans HK3.out
   obtain ⟨q0, q1, q2, q3, q4, q5, q6, q7, q8, q9, q10, q11, q12, q13, q14⟩ := cells15 hbx
   have k0 := (blk_cell hkx 0).trans rfl
   have k1 := (blk_cell hkx 1).trans rfl
   have k2 := (blk_cell hkx 2).trans rfl
   clear hbx hkx HP3 HK3
   go_wp2_with fail
   refine (HE.out _ HBC.out).mono ?_
   rintro e w4 ⟨v4, rfl, hR4, hB4⟩
   obtain ⟨A4', C4', hv4, hl4, hC4⟩ := Kd.R_reads hR4
   simp only at hv4 hl4 hC4
   subst hv4
   have HB4 := Aside0.mk (below_step HBC.out hB4)
   have HC4 := Aside0.mk (And.intro hl4 hC4)
   clear hR4 hB4 hl4 hC4 HE HBC HC HB3 q0 q1 q2 q3 q4 q5 q6 q7 q8 q9 q10 q11 q12 q13 q14 k0 k1 k2
   by_cases ce : ee = 0
   · subst ce
     obtain rfl : (S1, S2) = R := by rw [← HR.out, if_pos rfl]
     have HX := Aside0.mk (crc_Seal.calls A4' C4' E1 S1 S2 w4 (HL.out.below HB4.out) HC4.out.2 HC4.out.1 (HS.out rfl))
     go_wp2_with fail
     refine HX.out.mono ?_
     rintro e w5 ⟨v5, rfl, hR5, hB5⟩
     have HR5 := Aside0.mk (Kd.R_lower hR5 HB4.out.size)
     have HB5 := Aside0.mk (below_step HB4.out hB5)
     clear hR5 hB5 HX
     go_wp2
     go_ret2
     exact ⟨_, rfl, HR5.out, HB5.out⟩
   · obtain rfl : (([] : List Int), ee) = R := by rw [← HR.out, if_neg ce]
     have d1 : (ee == 0) = false := beq_eq_false_iff_ne.mpr ce
     have d2 : (ee != 0) = true := bne_iff_ne.mpr ce
     clear ce
     go_wp2
     go_ret2
     exact ⟨_, rfl, Kd.R_nil _ _ _ _ _, HB4.out⟩
end Go.Proofs.YtppjphghlclklaaGreatDoor.P
end
