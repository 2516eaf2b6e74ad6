/- Parts of a proof, laid together by a program of this session (slim.py). -/
import Derived.Test.YtppjphghlclklaaGreatDoorY24
import Derived.Test.YtppjphghlclklaaGreatDoorY25
set_option maxHeartbeats 8000000
set_option maxRecDepth 100000
section
namespace Go.Proofs.YtppjphghlclklaaGreatDoor.P
open Go.RowKit Go.Proofs.YtppjphghlclklaaGreatDoorW.PrintWords Go.Proofs.YtppjphghlclklaaGreatDoorW.PrintLast Go.Proofs.YtppjphghlclklaaGreatDoorW.PrintMore
attribute [local go_sem] max2_int min2_int max_two min_two max_three min_three max_four min_four
set_option linter.unusedVariables false
set_option linter.unusedSimpArgs false
theorem pow_mod {r : Nat} (h : r < 8) : (2 : Int) ^ r % 256 = 2 ^ r := (show ∀ r : Nat, r < 8 → (2 : Int) ^ r % 256 = 2 ^ r by decide) r h
theorem place_of (n : Int) : ∃ a : Nat, (wrap64 (n.tmod 32768 + 32768)).tmod 32768 = (a : Int) ∧ a < 32768 := by
 have h1 := Int.lt_tmod_of_pos n (show (0 : Int) < 32768 by decide)
 have h2 := Int.tmod_lt_of_pos n (show (0 : Int) < 32768 by decide)
 obtain ⟨t, ht⟩ : ∃ t, t = n.tmod 32768 := ⟨_, rfl⟩
 rw [← ht] at h1 h2 ⊢
 have hw : wrap64 (t + 32768) = t + 32768 := by unfold wrap64; omega
 rw [hw, Int.tmod_eq_emod_of_nonneg (by omega)]
 exact ⟨((t + 32768) % 32768).toNat, by omega, by omega⟩
theorem coppicelaw8_PageSpoilt_any (p : Pg) (u : Value) (n1 n2 n3 : Int) (w : World) (hp : PgC w p u) (hbp : ByteP p) (hL : CrcLaid w) (hM : MetaLaid w) (hn1 : -9223372036854775808 ≤ n1) (hn1' : n1 ≤ 9223372036854775807) (hn2 : -9223372036854775808 ≤ n2) (hn2' : n2 ≤ 9223372036854775807) (hn3 : 0 ≤ n3) (hn3' : n3 ≤ 4294967295) :
 Calls Tryz.prog 7 #[u, .int .i64 n1, .int .i64 n2, .int .u32 n3] w (TruePost w) := by
 obtain ⟨P1, pc1, P3, pc3, P4, pc4, P6, pc6, P7, pc7, rfl, pr1, pr3, pr4, pr6, pr7⟩ := hp
 have HPC := Aside0.mk (show PgC w p _ from ⟨_, _, _, _, _, _, _, _, _, _, rfl, pr1, pr3, pr4, pr6, pr7⟩)
 have HBP := Aside0.mk hbp
 have HL := Aside0.mk hL
 have HM := Aside0.mk hM
 clear pr1 pr3 pr4 pr6 pr7 hbp hL hM
 go_enter Tryz.func7, Tryz.ntmps7
 go_upto_region 1 with (fail)
 obtain ⟨w1, hw1⟩ : ∃ x, x = w.alloc (.cells #[.int .i64 p.kind, .slice P1 p.items.length pc1, .int .i64 p.level, .slice P3 p.seps.length pc3, .slice P4 p.kids.length pc4, .int .i64 p.next, .slice P6 p.data.length pc6, .slice P7 p.list.length pc7, .int .i64 p.head.v, .int .i64 p.head.c, .int .i64 p.head.r, .int .i64 p.head.h, .int .i64 p.head.k, .int .i64 p.head.f, .int .i64 p.head.n] 30) := ⟨_, rfl⟩
 rw [← hw1]
 have hp1 := heap_alloc_new w (.cells #[.int .i64 p.kind, .slice P1 p.items.length pc1, .int .i64 p.level, .slice P3 p.seps.length pc3, .slice P4 p.kids.length pc4, .int .i64 p.next, .slice P6 p.data.length pc6, .slice P7 p.list.length pc7, .int .i64 p.head.v, .int .i64 p.head.c, .int .i64 p.head.r, .int .i64 p.head.h, .int .i64 p.head.k, .int .i64 p.head.f, .int .i64 p.head.n] 30)
 have HB1 : Aside0 (Below w.heap.size w w1) := ⟨by rw [hw1]; exact below_alloc (Below.refl _ _) _⟩
 rw [← hw1] at hp1
 have HP1 := Aside0.mk hp1
 clear hw1 hp1
 go_wp2_with fail
 refine (coppicelaw8_first_any w1 (HL.out.below HB1.out) (HM.out.below HB1.out)).mono ?_
 rintro e w2 ⟨rfl, hb⟩
 have HB2 := Aside0.mk (below_then HB1.out HB1.out.size hb)
 have hp2 := (hb.block _ (blk_lt HP1.out)).trans HP1.out
 have HP2 := Aside0.mk hp2
 obtain ⟨x0, x1, x2, x3, x4, x5, x6, x7, x8, x9, x10, x11, x12, x13, x14⟩ := cells15 hp2
 clear hp2 hb HB1 HP1
 go_wp2_with fail
 refine (coppicelaw8_fits_any p _ w2 (HPC.out.below HB2.out)).mono ?_
 rintro e w3 ⟨f1, rfl, hf1, hb⟩
 have HB3 := Aside0.mk (below_then HB2.out HB2.out.size hb)
 have hp3 := (hb.block _ (blk_lt HP2.out)).trans HP2.out
 clear x0 x1 x2 x3 x4 x5 x6 x7 x8 x9 x10 x11 x12 x13 x14
 have HF1 := Aside0.mk hf1
 clear hf1
 cases f1 with
 | false =>
  go_wp2
  go_ret
  exact ⟨rfl, HB3.out⟩
 | true =>
 have HSP := Aside0.mk (HF1.out (by simp)).small
 obtain ⟨x0, x1, x2, x3, x4, x5, x6, x7, x8, x9, x10, x11, x12, x13, x14⟩ := cells15 hp3
 clear HF1 hp3 hb HB2 HP2
 obtain ⟨⟨c, ec⟩, hec⟩ : ∃ x, encPageR p = x := ⟨_, rfl⟩
 have HEC := Aside0.mk hec
 clear hec
 go_wp2_with fail
 have HE := page_Encode.calls p _ w3 (HPC.out.below HB3.out) HSP.out (HL.out.below HB3.out) (HM.out.below HB3.out)
 rw [HEC.out] at HE
 refine HE.mono ?_
 rintro e w4 ⟨v4, rfl, hR4, hb⟩
 simp only at hR4 ⊢
 obtain ⟨A4, c4, hv4, hl4, hC4⟩ := Kd.R_reads hR4
 subst hv4
 have HC4 := Aside0.mk (And.intro hl4 hC4)
 have HB4 := Aside0.mk (below_then HB3.out HB3.out.size hb)
 clear HE hR4 hl4 hC4 hb HB3 x0 x1 x2 x3 x4 x5 x6 x7 x8 x9 x10 x11 x12 x13 x14
 go_wp2_with fail
 refine (coppicelaw8_num.calls ec ec w4 rfl).mono ?_
 rintro e w5 ⟨rfl, hd⟩
 have hb : Below w4.heap.size w4 w5 := Drawn0.below hd
 have HB5 := Aside0.mk (below_then HB4.out HB4.out.size hb)
 have HC5 := Aside0.mk (And.intro HC4.out.1 (Kd.C_below HC4.out.2 hb))
 clear hd hb HB4 HC4
 by_cases k1 : ec = 0
 rotate_left
 · have d1 : (ec == 0) = false := beq_eq_false_iff_ne.mpr k1
   have d2 : (ec != 0) = true := bne_iff_ne.mpr k1
   obtain rfl : c = [] := by have h := page_enc_no (p := p) (by rw [HEC.out]; exact k1); rw [HEC.out] at h; exact h
   clear k1 HEC
   go_wp2
   go_ret
   exact ⟨rfl, HB5.out⟩
 subst k1
 obtain ⟨b1, b2, b3, b4, b5⟩ := page_back HSP.out HEC.out
 have HCB := Aside0.mk (enc_byte HBP.out HEC.out)
 have HB1 := Aside0.mk b1
 have HB3 := Aside0.mk b3
 have HCL := Aside0.mk b2
 have HC5' := HC5.out
 rw [b2] at HC5' ⊢
 have HC6 := Aside0.mk HC5'
 clear b1 b2 b3 b4 b5 HC5 HC5' HEC
 go_upto_region 11 with (fail)
 obtain ⟨a, ha, ha2⟩ := place_of n1
 obtain ⟨b, hb, hb2⟩ := place_of n2
 rw [ha, hb]
 clear ha hb hn1 hn1' hn2 hn2' hn3 hn3'
 have HY := coppiceref_Bytes_any A4 c4 c w5 (by rw [HCL.out]; exact HC6.out.2) (by rw [HCL.out]; omega)
 rw [HCL.out] at HY
 go_wp2_with fail
 refine HY.mono ?_
 rintro e w6 ⟨v6, rfl, hR6, hb⟩
 have hl6 : 0 < c.length := by rw [HCL.out]; omega
 obtain ⟨g, cap, hv, hg1, hg2⟩ := R_at hR6 hl6
 subst hv
 have hR6' := hR6
 rw [HCL.out] at hR6' ⊢
 have HR6 := Aside0.mk hR6'
 have HB6 := Aside0.mk hb
 clear HY hR6 hR6' hb hl6
 go_wp2
 go_loopg [13, 14, 15] 32 (fun kq v13 v14 v15 W => ∃ (k v : Nat) (s : Bool) (A : List Int), v13 = .bool s ∧ v14 = .int .i64 (k : Int) ∧ k + kq = 32 ∧ Aside0 (Turned c a k A s v) ∧ Aside0 (Kd.R (Kd.int .u8) 5 W w5.heap.size (fun _ => True) (.slice (some ⟨g, 0, none⟩) 4096 cap) A) ∧ Aside0 (Below w5.heap.size w5 W))
 case atStart => exact ⟨0, 0, false, c, rfl, rfl, rfl, ⟨Turned.start HCB.out a⟩, HR6, HB6⟩
 case round =>
  obtain ⟨k, v, s, A, rfl, rfl, hk, HT, HR, HW⟩ := hrel
  have HK := Aside0.mk hk
  clear HR6 HB6 hk
  by_cases ck : k < 32
  · have d1 : decide ((k : Int) < 32) = true := decide_eq_true (by omega)
    have HSH : ∀ (t : TypeId), binOp .shr t (.int .u32 n3) (.int .u64 (k : Int)) = pure (.int .u32 (n3 / 2 ^ k)) := fun t => (shift_shr .u32 .u64 n3 (k : Int) (by omega) (show (k : Int) ≤ 32 by omega)).trans (by rw [Int.toNat_natCast])
    obtain ⟨m, hm⟩ : ∃ m, n3 / 2 ^ k = m := ⟨_, rfl⟩
    rw [hm] at HSH
    clear hm
    by_cases cb : m.tmod 2 = 1
    rotate_left
    · have e1 : (m.tmod 2 == 1) = false := beq_eq_false_iff_ne.mpr cb
      clear cb
      go_wp2
      go_roundg (gk - 1)
      case measure => have := HK.out; omega
      case rel =>
       have hk := HK.out
       exact ⟨k + 1, v, s, A, rfl, by go_num, by omega, ⟨HT.out.skip⟩, HR, HW⟩
    have e1 : (m.tmod 2 == 1) = true := beq_iff_eq.mpr cb
    clear cb
    by_cases ci : a + k < 32768
    rotate_left
    · have e2 : decide ((a : Int) + (k : Int) < 32768) = false := decide_eq_false (by omega)
      go_wp2
      go_roundg (gk - 1)
      case measure => have := HK.out; omega
      case rel =>
       have hk := HK.out
       exact ⟨k + 1, v, s, A, rfl, by go_num, by omega, ⟨HT.out.skip⟩, HR, HW⟩
    have e2 : decide ((a : Int) + (k : Int) < 32768) = true := decide_eq_true (by omega)
    go_upto_region 18 with (fail)
    obtain ⟨i, hi⟩ : ∃ i : Nat, a + k = i := ⟨_, rfl⟩
    have hc : (a : Int) + (k : Int) = (i : Int) := by omega
    rw [hc]
    obtain ⟨j, hj⟩ : ∃ j : Nat, i / 8 = j := ⟨_, rfl⟩
    obtain ⟨r, hr⟩ : ∃ r : Nat, i % 8 = r := ⟨_, rfl⟩
    have hj4 : j < 4096 := by omega
    have hr8 : r < 8 := by omega
    have hi0 : i < 32768 := by omega
    have hq : (i : Int) / 8 = (j : Int) := by omega
    have hq2 : (i : Int) % 8 = (r : Int) := by omega
    have HI := Aside0.mk (And.intro hi (And.intro hj hr))
    obtain ⟨y1, y2, y3⟩ := R_put8 HR.out j hj4
    obtain ⟨o, ho⟩ : ∃ o, A.getD j 0 = o := ⟨_, rfl⟩
    rw [ho] at y1
    have HO := Aside0.mk ho
    have HP := Aside0.mk y3
    clear hi hj hr hc ho y3 e2
    go_wp2
    go_roundg (gk - 1)
    case measure => have := HK.out; omega
    case rel =>
     have hk := HK.out
     obtain ⟨hi, hj, hr⟩ := HI.out
     have hflip : flipI A (a + k) = A.set j (Go.bits .xor .u8 o (2 ^ r % 256)) := by rw [hi]; unfold flipI; rw [hj, hr, HO.out, pow_mod hr8]
     exact ⟨k + 1, v ^^^ 2 ^ k, true, flipI A (a + k), rfl, by go_num, by omega, ⟨HT.out.turn (by rw [HCL.out]; omega)⟩, ⟨by rw [hflip]; exact HP.out _⟩, ⟨HW.out.setCell hg2 _⟩⟩
  have d1 : decide ((k : Int) < 32) = false := decide_eq_false (by omega)
  obtain rfl : k = 32 := by have := HK.out; omega
  obtain ⟨t1, f1, h1, h2, h3⟩ : ∃ (t : Bool) (f : Int), s = t ∧ (f == 22) = t ∧ (decPageR A).2 = f := by
   rcases HT.out.told HCB.out HCL.out (by omega) (by rw [HB3.out]) with ⟨hs, ho⟩ | ⟨hs, ho⟩
   · exact ⟨true, 22, hs, rfl, by unfold decPageR; rw [ho]; rfl⟩
   · exact ⟨false, 0, hs, rfl, by rw [ho, HB1.out]⟩
  subst h1
  have hla : A.length = 4096 := by rw [HT.out.len, HCL.out]
  have HH := Aside0.mk h2
  have HWW := Aside0.mk (below_then HB5.out HB5.out.size HW.out)
  have HC8 := Aside0.mk (Kd.C_below HC6.out.2 HW.out)
  have HD := page_Decode.calls (some ⟨g, 0, none⟩) cap A wr (by obtain ⟨_, _, e, _, hC⟩ := Kd.R_reads HR.out; injection e with e1 e2 e3; subst e1; exact hC) (by obtain ⟨_, _, e, hl, hC⟩ := Kd.R_reads HR.out; injection e with e1 e2 e3; rw [hla]; omega) (HL.out.below HWW.out) (HM.out.below HWW.out)
  obtain ⟨⟨rp, rf⟩, hdr⟩ : ∃ x, decPageR A = x := ⟨_, rfl⟩
  rw [hdr] at h3 HD
  obtain rfl : rf = f1 := h3
  rw [hla] at HD
  have HD := Aside0.mk HD
  obtain ⟨v1, e1⟩ : ∃ w' : World, w' = wr := ⟨_, rfl⟩
  clear hdr h2 hla HT HR HK hg1 hg2 e1
  go_wp2_with fail
  refine HD.out.mono ?_
  rintro e w8 ⟨v8, rfl, hR8, hb⟩
  have hT := PgR.C hR8
  simp only at hT
  obtain ⟨T1, tc1, T3, tc3, T4, tc4, T6, tc6, T7, tc7, rfl, -, -, -, -, -⟩ := hT
  have HB8 := Aside0.mk (below_then HWW.out HWW.out.size hb)
  have HC9 := Aside0.mk (Kd.C_below HC8.out hb)
  clear HD hR8 hb HWW HC8 HW
  go_upto_region 21 with (fail)
  obtain ⟨w9, hw9⟩ : ∃ x, x = w8.alloc (.cells #[.int .i64 rp.kind, .slice T1 rp.items.length tc1, .int .i64 rp.level, .slice T3 rp.seps.length tc3, .slice T4 rp.kids.length tc4, .int .i64 rp.next, .slice T6 rp.data.length tc6, .slice T7 rp.list.length tc7, .int .i64 rp.head.v, .int .i64 rp.head.c, .int .i64 rp.head.r, .int .i64 rp.head.h, .int .i64 rp.head.k, .int .i64 rp.head.f, .int .i64 rp.head.n] 30) := ⟨_, rfl⟩
  rw [← hw9]
  have hb : Below w8.heap.size w8 w9 := by rw [hw9]; exact below_alloc (Below.refl _ _) _
  have HB9 := Aside0.mk (below_then HB8.out HB8.out.size hb)
  have HC10 := Aside0.mk (Kd.C_below HC9.out hb)
  clear hw9 hb HB8 HC9
  have HY := coppiceref_Bytes_any A4 c4 c w9 (by rw [HCL.out]; exact HC10.out) (by rw [HCL.out]; omega)
  rw [HCL.out] at HY
  go_wp2_with fail
  refine HY.mono ?_
  rintro e w10 ⟨v10, rfl, hR10, hb⟩
  have hl10 : 0 < c.length := by rw [HCL.out]; omega
  obtain ⟨h, cap2, hv, hh1, hh2⟩ := R_at hR10 hl10
  subst hv
  have hR10' := hR10
  rw [HCL.out] at hR10' ⊢
  obtain ⟨y1, y2, y3⟩ := R_put8 hR10' (a / 8) (by omega)
  have HB10 := Aside0.mk (below_then HB9.out HB9.out.size hb)
  have HB9s := Aside0.mk hb
  obtain ⟨o1, ho1⟩ : ∃ o, c.getD (a / 8) 0 = o := ⟨_, rfl⟩
  rw [ho1] at y1
  obtain ⟨j1, hj1⟩ : ∃ j : Nat, a / 8 = j := ⟨_, rfl⟩
  obtain ⟨r1, hr1⟩ : ∃ r : Nat, a % 8 = r := ⟨_, rfl⟩
  have hj14 : j1 < 4096 := by omega
  have hr18 : r1 < 8 := by omega
  have hq : (a : Int) / 8 = (j1 : Int) := by omega
  have hq2 : (a : Int) % 8 = (r1 : Int) := by omega
  have y4 := y3 (Go.bits .xor .u8 o1 (2 ^ r1 % 256))
  have hf1 : flipI c a = c.set j1 (Go.bits .xor .u8 o1 (2 ^ r1 % 256)) := by unfold flipI; rw [ho1, hj1, hr1, pow_mod hr18]
  rw [hj1] at y1 y2 y4
  rw [← hf1] at y4
  obtain ⟨X1, hX1⟩ : ∃ x, Go.bits .xor .u8 o1 (2 ^ r1 % 256) = x := ⟨_, rfl⟩
  rw [hX1] at y4
  have HX1 := Aside0.mk hX1
  have HR11 := Aside0.mk y4
  clear HY hR10 hR10' hl10 hb HB10 y3 y4 ho1 hj1 hr1 hf1 hX1
  go_upto_region 23 with (fail)
  rw [HX1.out]
  obtain ⟨w11, hw11⟩ : ∃ x, x = w10.setCell ⟨h, j1, none⟩ (.int .u8 X1) := ⟨_, rfl⟩
  rw [← hw11]
  have HB11 : Aside0 (Below w9.heap.size w9 w11) := ⟨by rw [hw11]; exact HB9s.out.setCell hh2 _⟩
  have hR11 := HR11.out
  rw [← hw11] at hR11
  clear hw11 HR11 HB9s HX1 hq hq2 y1 y2
  obtain ⟨y1, y2, y3⟩ := R_put8 hR11 (b / 8) (by omega)
  obtain ⟨o2, ho2⟩ : ∃ o, (flipI c a).getD (b / 8) 0 = o := ⟨_, rfl⟩
  rw [ho2] at y1
  obtain ⟨j2, hj2⟩ : ∃ j : Nat, b / 8 = j := ⟨_, rfl⟩
  obtain ⟨r2, hr2⟩ : ∃ r : Nat, b % 8 = r := ⟨_, rfl⟩
  have hj24 : j2 < 4096 := by omega
  have hr28 : r2 < 8 := by omega
  have hq : (b : Int) / 8 = (j2 : Int) := by omega
  have hq2 : (b : Int) % 8 = (r2 : Int) := by omega
  have y4 := y3 (Go.bits .xor .u8 o2 (2 ^ r2 % 256))
  have hf2 : flipI (flipI c a) b = (flipI c a).set j2 (Go.bits .xor .u8 o2 (2 ^ r2 % 256)) := by unfold flipI at ho2 ⊢; rw [ho2, hj2, hr2, pow_mod hr28]
  rw [hj2] at y1 y2 y4
  rw [← hf2] at y4
  obtain ⟨X2, hX2⟩ : ∃ x, Go.bits .xor .u8 o2 (2 ^ r2 % 256) = x := ⟨_, rfl⟩
  rw [hX2] at y4
  have HX2 := Aside0.mk hX2
  have HR12 := Aside0.mk y4
  clear hR11 y3 y4 ho2 hj2 hr2 hf2 hX2
  go_upto_region 24 with (fail)
  rw [HX2.out]
  obtain ⟨w12, hw12⟩ : ∃ x, x = w11.setCell ⟨h, j2, none⟩ (.int .u8 X2) := ⟨_, rfl⟩
  rw [← hw12]
  have HB12 : Aside0 (Below w9.heap.size w9 w12) := ⟨by rw [hw12]; exact HB11.out.setCell hh2 _⟩
  have hR12 := HR12.out
  rw [← hw12] at hR12
  clear hw12 HR12 HB11 HX2 hq hq2 y1 y2
  have HB13 := Aside0.mk (below_then HB9.out HB9.out.size HB12.out)
  obtain ⟨B, hB⟩ : ∃ B, flipI (flipI c a) b = B := ⟨_, rfl⟩
  rw [hB] at hR12
  obtain ⟨t2, f2, h1, h2, h3⟩ : ∃ (t : Bool) (f : Int), ((a : Int) != (b : Int)) = t ∧ (f == 22) = t ∧ (decPageR B).2 = f := by
   rcases flips_told HCB.out HCL.out ha2 hb2 (by rw [HB3.out]) with ⟨hs, ho⟩ | ⟨hs, ho⟩
   · exact ⟨true, 22, bne_iff_ne.mpr (fun h => hs (by omega)), rfl, by unfold decPageR; rw [← hB, ho]; rfl⟩
   · exact ⟨false, 0, bne_eq_false_iff_eq.mpr (by omega), rfl, by rw [← hB, ho, HB1.out]⟩
  have hlB : B.length = 4096 := by
   obtain ⟨_, _, e, _, _⟩ := Kd.R_reads hR12
   injection e with e1 e2 e3
   exact e2.symm
  have HD := page_Decode.calls (some ⟨h, 0, none⟩) cap2 B w12 (by obtain ⟨_, _, e, _, hC⟩ := Kd.R_reads hR12; injection e with e1 e2 e3; subst e1; exact hC) (by obtain ⟨_, _, e, hl, hC⟩ := Kd.R_reads hR12; injection e with e1 e2 e3; rw [hlB]; omega) (HL.out.below HB13.out) (HM.out.below HB13.out)
  obtain ⟨⟨rq, rg⟩, hdr⟩ : ∃ x, decPageR B = x := ⟨_, rfl⟩
  rw [hdr] at h3 HD
  obtain rfl : rg = f2 := h3
  rw [hlB] at HD
  have HD := Aside0.mk HD
  have HT2 := Aside0.mk (And.intro h1 h2)
  clear hdr h1 h2 hlB hR12 hB hh1 hh2 HB12 HB9
  go_wp2_with fail
  refine HD.out.mono ?_
  rintro e w13 ⟨v13, rfl, hR13, hb⟩
  have hT := PgR.C hR13
  simp only at hT
  obtain ⟨Q1, qc1, Q3, qc3, Q4, qc4, Q6, qc6, Q7, qc7, rfl, -, -, -, -, -⟩ := hT
  have HB14 := Aside0.mk (below_then HB13.out HB13.out.size hb)
  clear HD hR13 hb HB13
  go_upto_region 25 with (fail)
  obtain ⟨w14, hw14⟩ : ∃ x, x = w13.alloc (.cells #[.int .i64 rq.kind, .slice Q1 rq.items.length qc1, .int .i64 rq.level, .slice Q3 rq.seps.length qc3, .slice Q4 rq.kids.length qc4, .int .i64 rq.next, .slice Q6 rq.data.length qc6, .slice Q7 rq.list.length qc7, .int .i64 rq.head.v, .int .i64 rq.head.c, .int .i64 rq.head.r, .int .i64 rq.head.h, .int .i64 rq.head.k, .int .i64 rq.head.f, .int .i64 rq.head.n] 30) := ⟨_, rfl⟩
  rw [← hw14]
  have hb : Below w13.heap.size w13 w14 := by rw [hw14]; exact below_alloc (Below.refl _ _) _
  have HB15 := Aside0.mk (below_then HB14.out HB14.out.size hb)
  clear hw14 hb HB14
  go_wp2_with fail
  refine (coppicelaw8_num.calls rf rf w14 rfl).mono ?_
  rintro e w15 ⟨rfl, hd⟩
  have hb : Below w14.heap.size w14 w15 := Drawn0.below hd
  have HB16 := Aside0.mk (below_then HB15.out HB15.out.size hb)
  clear hd hb HB15
  have z1 := HH.out
  have z0 : (s == s) = true := by simp
  obtain ⟨z2, z3⟩ := HT2.out
  go_wp2_with fail
  refine (coppicelaw8_num.calls rg rg w15 rfl).mono ?_
  rintro e w16 ⟨rfl, hd⟩
  have hb : Below w15.heap.size w15 w16 := Drawn0.below hd
  have HB17 := Aside0.mk (below_then HB16.out HB16.out.size hb)
  clear hd hb HB16
  have z4 : (t2 == t2) = true := by simp
  go_wp2
  go_ret
  exact ⟨rfl, HB17.out⟩
end Go.Proofs.YtppjphghlclklaaGreatDoor.P
end
