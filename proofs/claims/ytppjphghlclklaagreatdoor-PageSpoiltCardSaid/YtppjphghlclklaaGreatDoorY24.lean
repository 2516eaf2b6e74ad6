/- Parts of a proof, laid together by a program of this session (slim.py). -/
import Derived.Test.YtppjphghlclklaaGreatDoorY23
import Derived.Lib.SlBytesConst
set_option maxHeartbeats 8000000
set_option maxRecDepth 100000
section
namespace Go.Proofs.YtppjphghlclklaaGreatDoor.P
open Go.RowKit Go.Proofs.YtppjphghlclklaaGreatDoorW.PrintWords Go.Proofs.YtppjphghlclklaaGreatDoorW.PrintLast Go.Proofs.YtppjphghlclklaaGreatDoorW.PrintMore
attribute [local go_sem] max2_int min2_int max_two min_two max_three min_three max_four min_four
set_option linter.unusedVariables false
set_option linter.unusedSimpArgs false
theorem lit_item1 {W : World} {A0 A1 : Option Addr} {c0 c1 : Nat} {l0 l1 : List Int} (s t : Int) (e : Nat) (h0 : Kd.C (Kd.int .u8) W A0 l0.length l0) (hc0 : l0.length ≤ c0) (h1 : Kd.C (Kd.int .u8) W A1 l1.length l1) (hc1 : l1.length ≤ c1) :
 Kd.C k77 (W.alloc (.cells #[.slice A0 l0.length c0, .slice A1 l1.length c1, .int .i64 s, .int .i64 t] e)) (some ⟨W.heap.size, 0, none⟩) 1 [(⟨l0, l1, s, t⟩ : It)] := by
 have hb := below_alloc (Below.refl W.heap.size W) (.cells #[.slice A0 l0.length c0, .slice A1 l1.length c1, .int .i64 s, .int .i64 t] e)
 have hx := heap_alloc_new W (.cells #[.slice A0 l0.length c0, .slice A1 l1.length c1, .int .i64 s, .int .i64 t] e)
 have z0 := (blk_cell hx 0).trans rfl
 have z1 := (blk_cell hx 1).trans rfl
 have z2 := (blk_cell hx 2).trans rfl
 have z3 := (blk_cell hx 3).trans rfl
 refine ⟨rfl, by decide, fun _ => ⟨_, rfl, fun j x hj => ?_⟩⟩
 match j, hj with
 | 0, hj =>
  obtain rfl : (⟨l0, l1, s, t⟩ : It) = x := by simpa using hj
  refine ⟨[.slice A0 l0.length c0, .slice A1 l1.length c1, .int .i64 s, .int .i64 t], rfl, k77_mk _ (⟨l0, l1, s, t⟩ : It) hc0 (Kd.C_below h0 hb) hc1 (Kd.C_below h1 hb), fun i u hu => ?_⟩
  match i, hu with
  | 0, hu =>
   obtain rfl : Value.slice A0 l0.length c0 = u := by simpa using hu
   exact z0
  | 1, hu =>
   obtain rfl : Value.slice A1 l1.length c1 = u := by simpa using hu
   exact z1
  | 2, hu =>
   obtain rfl : Value.int .i64 s = u := by simpa using hu
   exact z2
  | 3, hu =>
   obtain rfl : Value.int .i64 t = u := by simpa using hu
   exact z3
theorem lit_bytes (W : World) (e : Nat) (xs : List Int) (cur : Array Value) (fr : Nat × Nat) (hl : xs.length ≤ 9223372036854775807) (h : cur.toList = xs.map (Value.int .u8)) : Kd.C (Kd.int .u8) (W.alloc (.cells cur e fr)) (some ⟨W.heap.size, 0, none⟩) xs.length xs :=
 bytes_C_any _ _ cur xs e fr hl (heap_alloc_new W _) h
def firstW (w : World) : World := ((((w.alloc (.cells #[.int .u8 107] 5 (1, 2))).alloc (.cells #[.int .u8 118, .int .u8 118] 5 (2, 3))).alloc (.cells #[.slice (some ⟨w.heap.size, 0, none⟩) 1 1, .slice (some ⟨w.heap.size + 1, 0, none⟩) 2 2, .int .i64 2, .int .i64 0] 77)).alloc (.cells #[.int .i64 1, .slice (some ⟨w.heap.size + 1 + 1, 0, none⟩) 1 1, .int .i64 0, .slice none 0 0, .slice none 0 0, .int .i64 0, .slice none 0 0, .slice none 0 0, .int .i64 0, .int .i64 0, .int .i64 0, .int .i64 0, .int .i64 0, .int .i64 0, .int .i64 0] 30))
theorem first_page (w : World) : ∃ wc : World, wc.heap.size = w.heap.size + 1 + 1 + 1 ∧ Kd.C k77 wc (some ⟨w.heap.size + 1 + 1, 0, none⟩) 1 [itE] ∧ Below wc.heap.size wc (firstW w) ∧ (firstW w).heap[w.heap.size + 1 + 1 + 1]? = some (.cells #[.int .i64 1, .slice (some ⟨w.heap.size + 1 + 1, 0, none⟩) 1 1, .int .i64 0, .slice none 0 0, .slice none 0 0, .int .i64 0, .slice none 0 0, .slice none 0 0, .int .i64 0, .int .i64 0, .int .i64 0, .int .i64 0, .int .i64 0, .int .i64 0, .int .i64 0] 30) ∧ Below w.heap.size w (firstW w) := by
 have a1 := lit_bytes w 5 [107] #[.int .u8 107] (1, 2) (by decide) rfl
 have s1 : (w.alloc (.cells #[.int .u8 107] 5 (1, 2))).heap.size = w.heap.size + 1 := Array.size_push _
 obtain ⟨wa, hwa⟩ : ∃ x, x = w.alloc (.cells #[.int .u8 107] 5 (1, 2)) := ⟨_, rfl⟩
 have ba : Below w.heap.size w wa := by rw [hwa]; exact below_alloc (Below.refl _ _) _
 unfold firstW
 rw [← hwa] at a1 s1 ⊢
 have a2 := lit_bytes wa 5 [118, 118] #[.int .u8 118, .int .u8 118] (2, 3) (by decide) rfl
 have s2 : (wa.alloc (.cells #[.int .u8 118, .int .u8 118] 5 (2, 3))).heap.size = wa.heap.size + 1 := Array.size_push _
 have bb := below_alloc (Below.refl wa.heap.size wa) (.cells #[.int .u8 118, .int .u8 118] 5 (2, 3))
 obtain ⟨wb, hwb⟩ : ∃ x, x = wa.alloc (.cells #[.int .u8 118, .int .u8 118] 5 (2, 3)) := ⟨_, rfl⟩
 rw [← hwb] at a2 s2 bb ⊢
 rw [s1] at a2 s2
 have a3 := lit_item1 (c0 := 1) (c1 := 2) 2 0 77 (Kd.C_below a1 bb) (by decide) a2 (by decide)
 have s3 : (wb.alloc (.cells #[.slice (some ⟨w.heap.size, 0, none⟩) 1 1, .slice (some ⟨w.heap.size + 1, 0, none⟩) 2 2, .int .i64 2, .int .i64 0] 77)).heap.size = wb.heap.size + 1 := Array.size_push _
 have a3' : Kd.C k77 (wb.alloc (.cells #[.slice (some ⟨w.heap.size, 0, none⟩) 1 1, .slice (some ⟨w.heap.size + 1, 0, none⟩) 2 2, .int .i64 2, .int .i64 0] 77)) (some ⟨wb.heap.size, 0, none⟩) 1 [itE] := a3
 have bc := below_alloc (Below.refl wb.heap.size wb) (.cells #[.slice (some ⟨w.heap.size, 0, none⟩) 1 1, .slice (some ⟨w.heap.size + 1, 0, none⟩) 2 2, .int .i64 2, .int .i64 0] 77)
 obtain ⟨wc, hwc⟩ : ∃ x, x = wb.alloc (.cells #[.slice (some ⟨w.heap.size, 0, none⟩) 1 1, .slice (some ⟨w.heap.size + 1, 0, none⟩) 2 2, .int .i64 2, .int .i64 0] 77) := ⟨_, rfl⟩
 rw [← hwc] at a3' s3 bc ⊢
 rw [s2] at a3' s3
 have hn := heap_alloc_new wc (.cells #[.int .i64 1, .slice (some ⟨w.heap.size + 1 + 1, 0, none⟩) 1 1, .int .i64 0, .slice none 0 0, .slice none 0 0, .int .i64 0, .slice none 0 0, .slice none 0 0, .int .i64 0, .int .i64 0, .int .i64 0, .int .i64 0, .int .i64 0, .int .i64 0, .int .i64 0] 30)
 rw [s3] at hn
 exact ⟨wc, s3, a3', below_alloc (Below.refl _ _) _, hn, below_alloc (below_then (below_step ba bb) (below_step ba bb).size bc) _⟩
theorem pgc_pE {W : World} {g : Nat} (h : Kd.C k77 W (some ⟨g, 0, none⟩) 1 [itE]) : PgC W pE (pgv 1 (.slice (some ⟨g, 0, none⟩) 1 1) 0 (.slice none 0 0) (.slice none 0 0) 0 (.slice none 0 0) (.slice none 0 0) hd0) ∧ PgC W pE7 (pgv 1 (.slice (some ⟨g, 0, none⟩) 1 1) 0 (.slice none 0 0) (.slice none 0 0) 7 (.slice none 0 0) (.slice none 0 0) hd0) :=
 ⟨⟨some ⟨g, 0, none⟩, 1, none, 0, none, 0, none, 0, none, 0, rfl, ⟨by decide, h⟩, ⟨by decide, Kd.C_nil _ _⟩, ⟨by decide, Kd.C_nil _ _⟩, ⟨by decide, Kd.C_nil _ _⟩, ⟨by decide, Kd.C_nil _ _⟩⟩,
  ⟨some ⟨g, 0, none⟩, 1, none, 0, none, 0, none, 0, none, 0, rfl, ⟨by decide, h⟩, ⟨by decide, Kd.C_nil _ _⟩, ⟨by decide, Kd.C_nil _ _⟩, ⟨by decide, Kd.C_nil _ _⟩, ⟨by decide, Kd.C_nil _ _⟩⟩⟩
theorem byteP_E : ByteP pE := ⟨fun x hx => by rw [List.mem_singleton.1 hx]; exact ⟨byteE.2.1, byteE.2.2⟩, fun x hx => by simp [pE] at hx, fun x hx => by simp [pE] at hx⟩
theorem coppicelaw8_first_any (w : World) (hL : CrcLaid w) (hM : MetaLaid w) : Calls Tryz.prog 9 #[] w (TruePost w) := by
 have HL := Aside0.mk hL
 have HM := Aside0.mk hM
 clear hL hM
 have kc := fun (w : World) (C : Array Value) (n c : Nat) => Lib.run_convert_bytes_const (P := Tryz.prog) w 25 5 C n c Tryz.underlying25 Tryz.underlying5
 go_enter Tryz.func9, Tryz.ntmps9
 have kc1 := kc w #[.int .u8 107] 1 1
 have kc2 := kc (w.alloc (.cells #[.int .u8 107] 5 (1, 2))) #[.int .u8 118, .int .u8 118] 2 2
 rw [show (w.alloc (.cells #[.int .u8 107] 5 (1, 2))).heap.size = w.heap.size + 1 from Array.size_push _] at kc2
 have kc1' : (convert 25 25 (.slice (some ⟨w.heap.size, 0, none⟩) 1 1)).run Tryz.prog (w.alloc (.cells #[.int .u8 107] 5)) = .ok (.slice (some ⟨w.heap.size, 0, none⟩) 1 1) (w.alloc (.cells #[.int .u8 107] 5 (1, 2))) := kc1
 have kc2' : (convert 25 25 (.slice (some ⟨w.heap.size + 1, 0, none⟩) 2 2)).run Tryz.prog ((w.alloc (.cells #[.int .u8 107] 5 (1, 2))).alloc (.cells #[.int .u8 118, .int .u8 118] 5)) = .ok (.slice (some ⟨w.heap.size + 1, 0, none⟩) 2 2) ((w.alloc (.cells #[.int .u8 107] 5 (1, 2))).alloc (.cells #[.int .u8 118, .int .u8 118] 5 (2, 3))) := kc2
 clear kc kc1 kc2
 go_upto_region 2 with (fail)
 clear kc1' kc2'
 obtain ⟨wC, f4, f5, f1, f2, f3⟩ := first_page w
 obtain ⟨w1, hw1⟩ : ∃ x, x = firstW w := ⟨_, rfl⟩
 rw [← hw1] at f1 f2 f3
 unfold firstW at hw1
 rw [← hw1]
 clear hw1
 obtain ⟨gi, hgi⟩ : ∃ x, x = w.heap.size + 1 + 1 := ⟨_, rfl⟩
 obtain ⟨gd, hgd⟩ : ∃ x, x = w.heap.size + 1 + 1 + 1 := ⟨_, rfl⟩
 rw [← hgd] at f2 f4 ⊢
 rw [← hgi] at f5 f2 ⊢
 have HWC := Aside0.mk (And.intro f4 f5)
 have HG : Aside0 (w.heap.size ≤ gd) := ⟨by omega⟩
 have HI1 := Aside0.mk f1
 have HP1 := Aside0.mk f2
 have HB1 := Aside0.mk f3
 obtain ⟨x0, x1, x2, x3, x4, x5, x6, x7, x8, x9, x10, x11, x12, x13, x14⟩ := cells15 f2
 clear f1 f2 f3 f4 f5 hgi hgd
 have HE := page_Encode.calls pE _ w1 (pgc_pE (Kd.C_below HWC.out.2 HI1.out)).1 smallE.1 (HL.out.below HB1.out) (HM.out.below HB1.out)
 rw [encE] at HE
 have HE := Aside0.mk HE
 go_wp2_with fail
 refine HE.out.mono ?_
 rintro e w2 ⟨v2, rfl, hR2, hB2⟩
 simp only at hR2 ⊢
 obtain ⟨A2, c2, hv2, hl2, hC2⟩ := Kd.R_reads hR2
 subst hv2
 obtain ⟨c, hc⟩ : ∃ c, cE = c := ⟨_, rfl⟩
 have hlen : c.length = 4096 := by rw [← hc]; exact backE.2
 have hdec : decPageR c = (pE, 0) := by rw [← hc]; exact backE.1
 have htk : c.take 11 = topE := by rw [← hc]; exact takeE
 have hdr : c.drop 4092 = [173, 110, 120, 245] := by rw [← hc]; exact dropE
 rw [hc] at hl2 hC2 ⊢
 rw [hlen] at hl2 hC2 ⊢
 have HI2 := Aside0.mk (below_then HI1.out HI1.out.size hB2)
 have HP2 := Aside0.mk ((hB2.block _ (blk_lt HP1.out)).trans HP1.out)
 have HB2 := Aside0.mk (below_step HB1.out hB2)
 have HC2 := Aside0.mk hC2
 have HLN := Aside0.mk (And.intro hlen (And.intro hdec (And.intro htk hdr)))
 clear x0 x1 x2 x3 x4 x5 x6 x7 x8 x9 x10 x11 x12 x13 x14 hR2 hB2 hC2 hc hlen hdec htk hdr HI1 HP1 HB1 HE
 go_wp2_with fail
 refine (coppicelaw8_num.calls 0 0 w2 rfl).mono ?_
 rintro e w3 ⟨rfl, hd⟩
 have hb : Below w2.heap.size w2 w3 := by obtain ⟨m, rfl⟩ := hd; exact pw_below_drewN (Below.refl _ _) m
 have HI3 := Aside0.mk (below_then HI2.out HI2.out.size hb)
 have HP3 := Aside0.mk ((hb.block _ (blk_lt HP2.out)).trans HP2.out)
 have HB3 := Aside0.mk (below_step HB2.out hb)
 have hC3 := Kd.C_below HC2.out hb
 have HC3 := Aside0.mk hC3
 obtain ⟨i0, hi0, _, hsz, _⟩ := info_parts info5
 have hcut1 := cut_to (P := Tryz.prog) 25 5 .i64 Tryz.underlying25 hi0 A2 4096 c2 11 (by omega) (by omega) hl2
 have hcut2 := cut_from (P := Tryz.prog) 25 5 .i64 Tryz.underlying25 hi0 1 hsz A2 4096 c2 4092 (by omega) (by omega)
 have ht11 : (11 : Int).toNat = 11 := rfl
 rw [show (11 : Int).toNat = 11 from rfl] at hcut1
 rw [show (4092 : Int).toNat = 4092 from rfl, show 4096 - 4092 = 4 from rfl] at hcut2
 obtain ⟨A4, hA4⟩ : ∃ A4, A4 = (if c2 = 4092 then A2 else A2.map (·.add (4092 * 1))) := ⟨_, rfl⟩
 rw [← hA4] at hcut2
 have hD4 : Kd.C (Kd.int .u8) w3 A4 (c.drop 4092).length (c.drop 4092) := by rw [hA4]; exact Kd.C_drop (m := 4092) (c := c2) (by rw [HLN.out.1]; exact hC3) (by rw [HLN.out.1]; decide) (by rw [HLN.out.1]; exact hl2)
 have hT4 : Kd.C (Kd.int .u8) w3 A2 (c.take 11).length (c.take 11) := Kd.C_take (m := 11) (by rw [HLN.out.1]; exact hC3) (by rw [HLN.out.1]; decide)
 rw [HLN.out.2.2.2] at hD4
 rw [HLN.out.2.2.1] at hT4
 have HD4 := Aside0.mk hD4
 have HT4 := Aside0.mk hT4
 have h1c : 11 ≤ c2 := by omega
 have h4c : 4 ≤ c2 - 4092 := by omega
 have HL2 := Aside0.mk hl2
 clear hC3 hA4 hD4 hT4 hd hb HI2 HP2 HB2 HC2 hi0 hsz
 go_wp2_with fail
 have H11 := Aside0.mk (coppiceref_SameBytes.calls A2 c2 topE (some ⟨w3.heap.size, 0, none⟩) 11 topE true _ (Kd.C_alloc HT4.out _) h1c (lit_bytes w3 5 topE #[.int .u8 1, .int .u8 1, .int .u8 0, .int .u8 1, .int .u8 107, .int .u8 7, .int .u8 0, .int .u8 0, .int .u8 4, .int .u8 118, .int .u8 118] (0, 0) (by decide) rfl) (by decide) (congrArg some (eqStr_self topE)))
 refine H11.out.mono ?_
 rintro e w4 ⟨rfl, hd⟩
 have hb : Below w3.heap.size w3 w4 := by obtain ⟨m, rfl⟩ := hd; exact pw_below_drewN (below_alloc (Below.refl _ _) _) m
 have HI4 := Aside0.mk (below_then HI3.out HI3.out.size hb)
 have HP4 := Aside0.mk ((hb.block _ (blk_lt HP3.out)).trans HP3.out)
 have HB4 := Aside0.mk (below_then HB3.out HB3.out.size hb)
 have HC4 := Aside0.mk (Kd.C_below HC3.out hb)
 have HD5 := Aside0.mk (Kd.C_below HD4.out hb)
 clear hd hb HI3 HP3 HB3 HC3 HD4 HT4 hcut1 H11
 go_wp2_with fail
 have H4 := Aside0.mk (coppiceref_SameBytes.calls A4 (c2 - 4092) [173, 110, 120, 245] (some ⟨w4.heap.size, 0, none⟩) 4 [173, 110, 120, 245] true _ (Kd.C_alloc HD5.out _) h4c (lit_bytes w4 5 [173, 110, 120, 245] #[.int .u8 173, .int .u8 110, .int .u8 120, .int .u8 245] (0, 0) (by decide) rfl) (by decide) (congrArg some (eqStr_self _)))
 refine H4.out.mono ?_
 rintro e w5 ⟨rfl, hd⟩
 have hb : Below w4.heap.size w4 w5 := by obtain ⟨m, rfl⟩ := hd; exact pw_below_drewN (below_alloc (Below.refl _ _) _) m
 have HI5 := Aside0.mk (below_then HI4.out HI4.out.size hb)
 have HP5 := Aside0.mk ((hb.block _ (blk_lt HP4.out)).trans HP4.out)
 have HB5 := Aside0.mk (below_then HB4.out HB4.out.size hb)
 have HC5 := Aside0.mk (Kd.C_below HC4.out hb)
 clear hd hb HI4 HP4 HB4 HC4 HD5 hcut2 H4
 have HDC := page_Decode.calls A2 c2 c w5 (by rw [HLN.out.1]; exact HC5.out) (by rw [HLN.out.1]; exact HL2.out) (HL.out.below HB5.out) (HM.out.below HB5.out)
 rw [HLN.out.1, HLN.out.2.1] at HDC
 have HDC := Aside0.mk HDC
 go_wp2_with fail
 refine HDC.out.mono ?_
 rintro e w6 ⟨v6, rfl, hR6, hB6⟩
 have hQ := PgR.C hR6
 obtain ⟨Q1, qc1, Q3, qc3, Q4, qc4, Q6, qc6, Q7, qc7, rfl, qr1, qr3, qr4, qr6, qr7⟩ := hQ
 have HQC := Aside0.mk (show PgC w6 pE _ from ⟨_, _, _, _, _, _, _, _, _, _, rfl, qr1, qr3, qr4, qr6, qr7⟩)
 have HI6 := Aside0.mk (below_then HI5.out HI5.out.size hB6)
 have HP6 := Aside0.mk ((hB6.block _ (blk_lt HP5.out)).trans HP5.out)
 have HB6 := Aside0.mk (below_step HB5.out hB6)
 clear hR6 hB6 qr1 qr3 qr4 qr6 qr7 HDC HI5 HP5 HB5 HC5
 go_upto_region 7 with (fail)
 obtain ⟨w7, hw7⟩ : ∃ x, x = w6.alloc (.cells #[.int .i64 pE.kind, .slice Q1 pE.items.length qc1, .int .i64 pE.level, .slice Q3 pE.seps.length qc3, .slice Q4 pE.kids.length qc4, .int .i64 pE.next, .slice Q6 pE.data.length qc6, .slice Q7 pE.list.length qc7, .int .i64 pE.head.v, .int .i64 pE.head.c, .int .i64 pE.head.r, .int .i64 pE.head.h, .int .i64 pE.head.k, .int .i64 pE.head.f, .int .i64 pE.head.n] 30) := ⟨_, rfl⟩
 obtain ⟨g7, hg7⟩ : ∃ x, x = w6.heap.size := ⟨_, rfl⟩
 rw [← hw7, ← hg7]
 have hb7 : Below w6.heap.size w6 w7 := by rw [hw7]; exact below_alloc (Below.refl _ _) _
 have hq7 : w7.heap[g7]? = some (.cells #[.int .i64 pE.kind, .slice Q1 pE.items.length qc1, .int .i64 pE.level, .slice Q3 pE.seps.length qc3, .slice Q4 pE.kids.length qc4, .int .i64 pE.next, .slice Q6 pE.data.length qc6, .slice Q7 pE.list.length qc7, .int .i64 pE.head.v, .int .i64 pE.head.c, .int .i64 pE.head.r, .int .i64 pE.head.h, .int .i64 pE.head.k, .int .i64 pE.head.f, .int .i64 pE.head.n] 30) := by rw [hw7, hg7]; exact heap_alloc_new _ _
 have hp7 := (hb7.block _ (blk_lt HP6.out)).trans HP6.out
 have HP7 := Aside0.mk hp7
 have HQC7 := Aside0.mk (HQC.out.below hb7)
 have HI7 := Aside0.mk (below_then HI6.out HI6.out.size hb7)
 have HB7 := Aside0.mk (below_then HB6.out HB6.out.size hb7)
 obtain ⟨x0, x1, x2, x3, x4, x5, x6, x7, x8, x9, x10, x11, x12, x13, x14⟩ := cells15 hp7
 obtain ⟨y0, y1, y2, y3, y4, y5, y6, y7, y8, y9, y10, y11, y12, y13, y14⟩ := cells15 hq7
 clear hw7 hg7 hb7 hq7 hp7 HP6 HI6 HB6 HQC
 go_wp2_with fail
 refine (coppiceref_SamePage_any pE pE _ _ w7 (pgc_pE (Kd.C_below HWC.out.2 HI7.out)).1 HQC7.out byteP_E byteP_E).mono ?_
 rintro e w8 ⟨b, rfl, hbb, hB8⟩
 obtain rfl : b = true := hbb.2 rfl
 have HI8 := Aside0.mk (below_then HI7.out HI7.out.size hB8)
 have HP8 := Aside0.mk ((hB8.block _ (blk_lt HP7.out)).trans HP7.out)
 have HB8 := Aside0.mk (below_step HB7.out hB8)
 clear hbb hB8 x0 x1 x2 x3 x4 x5 x6 x7 x8 x9 x10 x11 x12 x13 x14 y0 y1 y2 y3 y4 y5 y6 y7 y8 y9 y10 y11 y12 y13 y14 HP7 HI7 HB7 HQC7
 go_wp2_with (first | ((with_reducible refine gate_dst (N := 51) rfl ?_); refine make_full (w0 := w8) (base := w8.heap.size) rfl (N := 51) rfl 25 _ _ rfl 4096 4096 rfl rfl Tryz.underlying25 info5 (by decide) (by decide) (by decide) (Below.refl _ _) (Nat.le_refl _) ?_; intro w9 hF hb hg; rw [show (4096 : Int).toNat = 4096 from rfl] at hF; have HF9 := Aside0.mk hF; have HH9 := Aside0.mk hb; clear hF hb hg))
 have HI9 := Aside0.mk (below_then HI8.out HI8.out.size HH9.out)
 have HP9 := Aside0.mk ((HH9.out.block _ (blk_lt HP8.out)).trans HP8.out)
 have HB9 := Aside0.mk (below_step HB8.out HH9.out)
 have hz := HF9.out.C 4096 (by rw [zs_length]; exact Nat.le_refl _) (by rw [zs_length]; decide)
 rw [List.take_of_length_le (by rw [zs_length]; exact Nat.le_refl _)] at hz
 have HZ := page_Decode.calls (some ⟨w8.heap.size, 0, none⟩) 4096 (zs 4096) w9 (by rw [zs_length]; exact hz) (by rw [zs_length]; exact Nat.le_refl _) (HL.out.below HB9.out) (HM.out.below HB9.out)
 rw [zs_length, decZ] at HZ
 have HZ := Aside0.mk HZ
 clear hz HF9 HH9 HI8 HP8 HB8
 refine HZ.out.mono ?_
 rintro e w10 ⟨v10, rfl, hR10, hB10⟩
 have hQ := PgR.C hR10
 obtain ⟨Q1, qc1, Q3, qc3, Q4, qc4, Q6, qc6, Q7, qc7, rfl, qr1, qr3, qr4, qr6, qr7⟩ := hQ
 have HI10 := Aside0.mk (below_then HI9.out HI9.out.size hB10)
 have HP10 := Aside0.mk ((hB10.block _ (blk_lt HP9.out)).trans HP9.out)
 have HB10 := Aside0.mk (below_step HB9.out hB10)
 clear hR10 hB10 qr1 qr3 qr4 qr6 qr7 HZ HI9 HP9 HB9
 go_upto_region 9 with (fail)
 obtain ⟨w11, hw11⟩ : ∃ x, x = w10.alloc (.cells #[.int .i64 pg0.kind, .slice Q1 pg0.items.length qc1, .int .i64 pg0.level, .slice Q3 pg0.seps.length qc3, .slice Q4 pg0.kids.length qc4, .int .i64 pg0.next, .slice Q6 pg0.data.length qc6, .slice Q7 pg0.list.length qc7, .int .i64 pg0.head.v, .int .i64 pg0.head.c, .int .i64 pg0.head.r, .int .i64 pg0.head.h, .int .i64 pg0.head.k, .int .i64 pg0.head.f, .int .i64 pg0.head.n] 30) := ⟨_, rfl⟩
 rw [← hw11]
 have hb11 : Below w10.heap.size w10 w11 := by rw [hw11]; exact below_alloc (Below.refl _ _) _
 have HI11 := Aside0.mk (below_then HI10.out HI10.out.size hb11)
 have hp11 := (hb11.block _ (blk_lt HP10.out)).trans HP10.out
 have HP11 := Aside0.mk hp11
 have HB11 := Aside0.mk (below_then HB10.out HB10.out.size hb11)
 have x5 := (blk_cell hp11 5).trans rfl
 have f5 := blk_frozen hp11 5
 clear hw11 hb11 hp11 HI10 HP10 HB10
 go_upto_region 10 with (fail)
 obtain ⟨w12, hw12⟩ : ∃ x, x = w11.setCell ⟨gd, 5, none⟩ (.int .i64 7) := ⟨_, rfl⟩
 rw [← hw12]
 have hp12 : w12.heap[gd]? = some (.cells #[.int .i64 1, .slice (some ⟨gi, 0, none⟩) 1 1, .int .i64 0, .slice none 0 0, .slice none 0 0, .int .i64 7, .slice none 0 0, .slice none 0 0, .int .i64 0, .int .i64 0, .int .i64 0, .int .i64 0, .int .i64 0, .int .i64 0, .int .i64 0] 30) := by rw [hw12]; simpa using blk_set HP11.out 5 (.int .i64 7)
 have HI12 : Aside0 (Below wC.heap.size wC w12) := ⟨by rw [hw12]; exact HI11.out.setCell (Nat.le_of_eq HWC.out.1) _⟩
 have HB12 : Aside0 (Below w.heap.size w w12) := ⟨by rw [hw12]; exact HB11.out.setCell HG.out _⟩
 obtain ⟨x0, x1, x2, x3, x4, x5, x6, x7, x8, x9, x10, x11, x12, x13, x14⟩ := cells15 hp12
 have HE7 := page_Encode.calls pE7 _ w12 (pgc_pE (Kd.C_below HWC.out.2 HI12.out)).2 smallE.2 (HL.out.below HB12.out) (HM.out.below HB12.out)
 rw [encE7] at HE7
 have HE7 := Aside0.mk HE7
 clear hw12 hp12 f5 HP11 HI11 HB11
 go_wp2_with fail
 refine HE7.out.mono ?_
 rintro e w13 ⟨v13, rfl, _, hB13⟩
 have HB13 := Aside0.mk (below_step HB12.out hB13)
 clear hB13 HE7 x0 x1 x2 x3 x4 x5 x6 x7 x8 x9 x10 x11 x12 x13 x14 HI12 HB12
 go_wp2_with fail
 refine (coppicelaw8_num.calls 0 0 w13 rfl).mono ?_
 rintro e w14 ⟨rfl, hd⟩
 have HB14 := Aside0.mk (below_step HB13.out (show Below w13.heap.size w13 w14 by obtain ⟨m, rfl⟩ := hd; exact pw_below_drewN (Below.refl _ _) m))
 clear hd HB13
 go_wp2_with fail
 refine (coppicelaw8_num.calls 22 22 w14 rfl).mono ?_
 rintro e w15 ⟨rfl, hd⟩
 have HB15 := Aside0.mk (below_step HB14.out (show Below w14.heap.size w14 w15 by obtain ⟨m, rfl⟩ := hd; exact pw_below_drewN (Below.refl _ _) m))
 clear hd HB14
 go_wp2_with fail
 refine (coppicelaw8_num.calls 81 81 w15 rfl).mono ?_
 rintro e w16 ⟨rfl, hd⟩
 have HB16 := Aside0.mk (below_step HB15.out (show Below w15.heap.size w15 w16 by obtain ⟨m, rfl⟩ := hd; exact pw_below_drewN (Below.refl _ _) m))
 clear hd HB15
 go_wp2
 go_ret
 exact ⟨rfl, HB16.out⟩
end Go.Proofs.YtppjphghlclklaaGreatDoor.P
end
