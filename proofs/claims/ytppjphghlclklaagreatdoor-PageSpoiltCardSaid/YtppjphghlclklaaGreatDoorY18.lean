/- Parts of a proof, laid together by a program of this session (slim.py). -/
import Derived.Test.YtppjphghlclklaaGreatDoorY17
set_option maxHeartbeats 8000000
set_option maxRecDepth 100000
section
namespace Go.Proofs.YtppjphghlclklaaGreatDoor.P
open Go.RowKit Go.Proofs.YtppjphghlclklaaGreatDoorW.PrintWords Go.Proofs.YtppjphghlclklaaGreatDoorW.PrintLast Go.Proofs.YtppjphghlclklaaGreatDoorW.PrintMore
attribute [local go_sem] max2_int min2_min max_two min_two max_three min_three max_four min_four
set_option linter.unusedVariables false
set_option linter.unusedSimpArgs false
theorem equal_loop (a b : List Int) (hl : a.length = b.length) (hm : a.length ≤ 9223372036854775807) : ∀ (d i : Nat), i + d = a.length → slices_Equal_byte_byte.l0 (d + 1) a b (a.length : Int) i = some (decide (a.drop i = b.drop i))
 | 0, i, h => by
  unfold slices_Equal_byte_byte.l0
  rw [if_neg (by omega), List.drop_of_length_le (by omega), List.drop_of_length_le (by omega)]
  rfl
 | d + 1, i, h => by
  have ha : i < a.length := by omega
  have hb : i < b.length := by omega
  unfold slices_Equal_byte_byte.l0
  rw [if_pos (by omega), if_pos (by omega), if_pos (by omega), if_pos (by omega)]
  have e1 : rd a (i : Int) = a[i] := by simp [rd, ha]
  have e2 : rd b (i : Int) = b[i] := by simp [rd, hb]
  rw [e1, e2]
  by_cases c : a[i] = b[i]
  · rw [if_pos c, wrap_id _ (by omega) (by omega), show ((i : Int) + 1) = ((i + 1 : Nat) : Int) by omega, equal_loop a b hl hm d (i + 1) (by omega)]
    refine congrArg some (decide_eq_decide.2 ?_)
    rw [List.drop_eq_getElem_cons ha, List.drop_eq_getElem_cons hb]
    exact ⟨fun h => by rw [c, h], fun h => (List.cons.inj h).2⟩
  · rw [if_neg c]
    refine congrArg some (decide_eq_false ?_).symm
    rw [List.drop_eq_getElem_cons ha, List.drop_eq_getElem_cons hb]
    exact fun h => c (List.cons.inj h).1
theorem equal_f (a b : List Int) (hm : a.length ≤ 9223372036854775807) : slices_Equal_byte_byte.f (a.length + 1) a b = some (decide (a = b)) := by
 unfold slices_Equal_byte_byte.f
 by_cases c : a.length = b.length
 · rw [if_pos (by omega)]
   exact (equal_loop a b c hm a.length 0 (by omega)).trans (by simp)
 · rw [if_neg (by omega)]
   have : ¬ a = b := fun e => c (by rw [e])
   simp [this]
def rdItems (pre l : List Int) : Nat → Nat → Int → Option (List It)
 | 0, _, _ => some []
 | k + 1, p, e => if (itemR pre l p e).2.2 = 0 then (rdItems pre l k (itemR pre l p e).2.1 (itemR pre l p e).2.2).map ((itemR pre l p e).1 :: ·) else none
theorem itemR_key (pre l : List Int) (p : Nat) (e : Int) : (itemR pre l p e).1.f0.length ≤ pre.length + l.length := by
 have h := takeR_le' l (vR l p e).2.1 (vR l p e).2.2 (min (vR l p e).1 4092)
 simp only [itemR]
 split
 · simp only [List.length_append]; omega
 · split <;> simp only [List.length_append] <;> omega
theorem rdItems_small (pre l : List Int) : ∀ (k p : Nat) (e : Int) (xs : List It), rdItems pre l k p e = some xs → xs.length = k ∧ ∀ x ∈ xs, x.f0.length ≤ pre.length + l.length
 | 0, p, e, xs, h => by
  obtain rfl : [] = xs := by simpa [rdItems] using h
  exact ⟨rfl, by simp⟩
 | k + 1, p, e, xs, h => by
  unfold rdItems at h
  split at h
  · obtain ⟨ys, hy, rfl⟩ := Option.map_eq_some_iff.1 h
    obtain ⟨h1, h2⟩ := rdItems_small pre l k _ _ ys hy
    refine ⟨by simp [h1], fun x hx => ?_⟩
    rcases List.mem_cons.1 hx with rfl | hx
    · exact itemR_key pre l p e
    · exact h2 x hx
  · cases h
def leafHead (l : List Int) : Nat × List Int × Nat × Int :=
 let a := takeR l 0 0 1
 let n := getR 2 l a.2.1 a.2.2
 let m := vR l n.2.1 n.2.2
 let b := takeR l m.2.1 m.2.2 (min m.1 4092)
 let s := takeR l b.2.1 b.2.2 (2 * (n.1 % 65536))
 ((n.1 % 65536).toNat, b.1, s.2.1, s.2.2)
def decLeafR (l : List Int) : List It × Int :=
 if l.length = 4092 then
  match rdItems (leafHead l).2.1 l (leafHead l).1 (leafHead l).2.2.1 (leafHead l).2.2.2 with
  | none => ([], 40)
  | some xs => if (encLeafR xs).2 = 0 then (if (encLeafR xs).1 = l then (xs, 0) else ([], 40)) else ([], 40)
 else ([], 40)
def ItemsPost (w : World) (r : List It × Int) (e : Ending) (w' : World) : Prop := ∃ v, e = .returned (.tuple #[v, .int .i64 r.2]) ∧ Kd.R k77 77 w' w.heap.size (fun _ => True) v r.1 ∧ Below w.heap.size w w'
theorem leaf_Decode.calls (A0 : Option Addr) (c0 : Nat) (l0 : List Int) (w : World) (hr0 : Kd.C (Kd.int .u8) w A0 l0.length l0) (hc0 : l0.length ≤ c0) :
 Calls Tryz.prog 69 #[.slice A0 l0.length c0] w (ItemsPost w (decLeafR l0)) := by
 obtain ⟨R, hR⟩ : ∃ R, decLeafR l0 = R := ⟨_, rfl⟩
 rw [hR]
 unfold decLeafR at hR
 have HR := Aside0.mk hR
 clear hR
 by_cases c : l0.length = 4092
 · have d1 : ((l0.length : Int) == 4092) = true := beq_iff_eq.mpr (by omega)
   have d2 : ((l0.length : Int) != 4092) = false := bne_eq_false_iff_eq.mpr (by omega)
   have hR := HR.out
   rw [if_pos c] at hR
   unfold leafHead getR at hR
   obtain ⟨r1, h1⟩ : ∃ r, takeR l0 0 0 1 = r := ⟨_, rfl⟩
   obtain ⟨r2, h2⟩ : ∃ r, takeR l0 r1.2.1 r1.2.2 2 = r := ⟨_, rfl⟩
   obtain ⟨r3, h3⟩ : ∃ r, vR l0 r2.2.1 r2.2.2 = r := ⟨_, rfl⟩
   obtain ⟨m, hm⟩ : ∃ m, min r3.1 4092 = m := ⟨_, rfl⟩
   obtain ⟨r4, h4⟩ : ∃ r, takeR l0 r3.2.1 r3.2.2 m = r := ⟨_, rfl⟩
   obtain ⟨n, hn⟩ : ∃ n : Nat, ((leGo 0 0 r2.1) % 65536) = (n : Int) := ⟨((leGo 0 0 r2.1) % 65536).toNat, by omega⟩
   obtain ⟨r5, h5⟩ : ∃ r, takeR l0 r4.2.1 r4.2.2 (2 * (n : Int)) = r := ⟨_, rfl⟩
   simp only [h1, h2, h3, hm, h4, hn, h5, Int.toNat_natCast] at hR
   have hn16 : n < 65536 := by omega
   have hr3 := vR_range l0 r2.2.1 r2.2.2
   rw [h3] at hr3
   have hm0 : 0 ≤ m := by omega
   have hm1 : m ≤ 4092 := by omega
   have hmw : IntKind.i64.wrap m = m := by rw [IntKind.wrap_i64]; omega
   have H1 := Aside0.mk h1
   have H2 := Aside0.mk h2
   have H3 := Aside0.mk h3
   have H4 := Aside0.mk h4
   have H5 := Aside0.mk h5
   have HN := Aside0.mk hn
   have HX := Aside0.mk hR
   have HC0 := Aside0.mk hc0
   have HR0 := Aside0.mk hr0
   have HL := Aside0.mk c
   have HP4 : Aside0 (r4.1.length ≤ 4092) := ⟨by rw [← h4]; exact Nat.le_trans (takeR_le' _ _ _ _) (by omega)⟩
   have HNR := Aside0.mk (wire_NewReader.calls A0 c0 l0 w hr0 hc0 (by omega))
   clear h1 h2 h3 h4 h5 hR HR hn hr0 hc0 c
   go_enter Tryz.func69, Tryz.ntmps69
   go_wp2_with fail
   refine HNR.out.mono ?_
   rintro e w1 ⟨g, wA, rfl, hb1, hI, hb2⟩
   have HI1 := Aside0.mk hI
   have HBA := Aside0.mk hb2
   have HWA := Aside0.mk hb1
   clear hI hb1 hb2 HNR
   go_upto_region 4 with (fail)
   obtain ⟨gr, hgr⟩ : ∃ gr, gr = w1.heap.size := ⟨_, rfl⟩
   obtain ⟨wB, hwB⟩ : ∃ wB, wB = w1.alloc (Obj.cells #[Value.pointer (some ⟨g, 0, none⟩), Value.slice none 0 0] 167) := ⟨_, rfl⟩
   rw [← hwB, ← hgr]
   have HGR : Aside0 (g < gr) := ⟨by rw [hgr]; exact HI1.out.lt⟩
   have HIB : Aside0 (IsRd wA wB g l0 0 0) := ⟨by rw [hwB]; exact HI1.out.alloc _⟩
   have HBB : Aside0 (Below wA.heap.size wA wB) := ⟨by rw [hwB]; exact below_alloc HBA.out _⟩
   have HGB : Aside0 (wB.heap[gr]? = some (Obj.cells #[Value.pointer (some ⟨g, 0, none⟩), Value.slice none 0 0] 167 (0, 0))) := ⟨by rw [hwB, hgr]; exact heap_alloc_new w1 _⟩
   have q0 := (blk_cell HGB.out 0).trans rfl
   have HY := Aside0.mk (wire_Bytes.calls g l0 0 0 1 wA wB HIB.out HBB.out (by have := HL.out; omega))
   rw [H1.out] at HY
   clear hgr hwB HI1 HBA HIB HBB
   go_wp2_with fail
   refine HY.out.mono ?_
   rintro e w2 ⟨v2, rfl, _, hI2, hB2, hK2⟩
   have hg2 := hK2.blk HGB.out (by have := HGR.out; omega) (by simp)
   have HG2 := Aside0.mk hg2
   have q2 := (blk_cell hg2 0).trans rfl
   have HY2 := Aside0.mk (wire_Get_uint16.calls g l0 r1.2.1 r1.2.2 wA w2 hI2 hB2)
   rw [H2.out] at HY2
   clear hI2 hB2 hK2 hg2 HY q0 HGB
   go_wp2_with fail
   refine HY2.out.mono ?_
   rintro e w3 ⟨rfl, hI3, hB3, hK3⟩
   rw [IntKind.wrap_u16, HN.out]
   have hg3 := hK3.blk HG2.out (by have := HGR.out; omega) (by simp)
   have HG3 := Aside0.mk hg3
   have HI3 := Aside0.mk hI3
   have HB3 := Aside0.mk hB3
   have q3 := (blk_cell hg3 0).trans rfl
   have HV := Aside0.mk (wire_V.calls g l0 r2.2.1 r2.2.2 wA w3.drew hI3.drew (below_drew1 hB3))
   rw [H3.out] at HV
   clear hI3 hB3 hK3 hg3 HY2 q2 HG2
   go_upto_region 6 with (fail)
   go_cut [4] (fun v4 wc => ∃ A c, v4 = .pointer (some ⟨gr, 0, none⟩) ∧ Aside0 (Kd.R (Kd.int .u8) 5 wc w.heap.size (fun k => k ≠ g) (.slice A r4.1.length c) r4.1) ∧ Aside0 (wc.heap[gr]? = some (Obj.cells #[Value.pointer (some ⟨g, 0, none⟩), Value.slice A r4.1.length c] 167 (0, 0))) ∧ Aside0 (IsRd wA wc g l0 r4.2.1 r4.2.2) ∧ Aside0 (Below wA.heap.size wA wc))
   case first =>
    go_region_with (first
     | (go_at_call 165; (with_reducible refine HY.out.mono ?_); rintro e w5 ⟨v5, rfl, hR5, hI5, hB5, hK5⟩; obtain ⟨A5, c5, hv5, hl5, hC5⟩ := Kd.R_reads hR5; subst hv5; have HR5 := Aside0.mk hR5; have HI5 := Aside0.mk hI5; have HB5 := Aside0.mk hB5; have HG5 := Aside0.mk (hK5.blk HG4.out (by have := HGR.out; omega) (by simp)); have p0 := (blk_cell HG5.out 0).trans rfl; have p1 := (blk_cell HG5.out 1).trans rfl; have pf := blk_frozen HG5.out 1; clear hR5 hI5 hB5 hK5 hl5 hC5)
     | (go_at_call 167; (with_reducible refine HV.out.mono ?_); rintro e w4 ⟨rfl, hI4, hB4, hK4⟩; have HG4 := Aside0.mk (hK4.blk (w := w3.drew) HG3.out (by have := HGR.out; omega) (by simp)); have q4 := (blk_cell HG4.out 0).trans rfl; have HS4 := Aside0.mk hI4.lt; have HW4 := Aside0.mk (below_then HWA.out HWA.out.size hB4).size; have HY := Aside0.mk (wire_Bytes.calls g l0 r3.2.1 r3.2.2 m wA w4 hI4 hB4 (by have := HL.out; omega)); rw [H4.out] at HY; clear hI4 hB4 hK4))
    all_goals
     go_wp2
     go_meet
     case rel =>
      refine ⟨A5, c5, rfl, ⟨?_⟩, ⟨?_⟩, ⟨HI5.out.far (by have := HGR.out; simp; omega) _⟩, ⟨below_set HB5.out (by have := HGR.out; have := HI5.out.ge; omega)⟩⟩
      · exact Kd.R_set (Kd.R_lower (Kd.R_mono (Kd.R_bound HR5.out) (fun k hk => by have h1 := hk.2.1; have := HS4.out; omega)) HW4.out) HG5.out (by decide) 1 _
      · simpa using blk_set HG5.out 1 (.slice A5 r4.1.length c5)
   case rest =>
    clear HV q3 HI3 HB3 HG3
    obtain ⟨Ap, cp, rfl, HRP, HG4, HI4, HB4⟩ := hcut
    obtain ⟨w4, rfl⟩ : ∃ x : World, x = wc := ⟨_, rfl⟩
    have q0 := (blk_cell HG4.out 0).trans rfl
    have HY := Aside0.mk (wire_Bytes.calls g l0 r4.2.1 r4.2.2 (2 * (n : Int)) wA w4 HI4.out HB4.out (by have := HL.out; omega))
    rw [H5.out] at HY
    go_wp2_with fail
    refine HY.out.mono ?_
    rintro e w5 ⟨v5, rfl, _, hI5, hB5, hK5⟩
    have HG5 := Aside0.mk (hK5.blk HG4.out (by have := HGR.out; omega) (by simp))
    have HP5 := Aside0.mk (Kd.R_keep HRP.out hK5 (fun k h => h))
    have HI5 := Aside0.mk hI5
    have HB5 := Aside0.mk hB5
    have HWS := Aside0.mk HWA.out.size
    have HAS := Aside0.mk hB5.size
    clear hI5 hB5 hK5 HY q0 HRP HG4 HI4 HB4
    obtain ⟨LL, hLL⟩ : ∃ LL, rdItems r4.1 l0 n r5.2.1 r5.2.2 = LL := ⟨_, rfl⟩
    have hX := HX.out
    rw [hLL] at hX
    clear HX
    have HX := Aside0.mk hX
    have HLL := Aside0.mk hLL
    have HN16 := Aside0.mk hn16
    clear hX hLL
    go_wp2_with fail
    go_loopg [6, 52] n (fun kq v6 v52 w' => ∃ (i : Nat) (xs : List It) (p : Nat) (er : Int), v52 = .int .i64 i ∧ i + kq = n ∧ Aside0 ((rdItems r4.1 l0 kq p er).map (xs ++ ·) = LL ∧ xs.length = i) ∧ Aside0 (IsRd wA w' g l0 p er) ∧ Aside0 (Below wA.heap.size wA w') ∧ Aside0 (Kd.R k77 77 w' w5.heap.size (fun k => k ≠ g) v6 xs) ∧ Aside0 (KeepBut w5 w' g none))
    case atStart => exact ⟨0, [], r5.2.1, r5.2.2, rfl, by omega, ⟨by rw [HLL.out]; cases LL <;> rfl, rfl⟩, HI5, HB5, ⟨Kd.R_nil _ _ _ _ _⟩, ⟨KeepBut.refl _ _ _⟩⟩
    case round =>
     obtain ⟨i, xs, p, er, rfl, hk, HLX, HI, HBA, HV, HK⟩ := hrel
     cases gk with
     | zero =>
      obtain rfl : i = n := by omega
      have cd1 : decide ((i : Int) < (i : Int)) = false := decide_eq_false (by omega)
      have cd2 : decide (i < i) = false := decide_eq_false (by omega)
      have hL : LL = some xs := by rw [← HLX.out.1]; simp [rdItems]
      obtain ⟨hln, hks⟩ := rdItems_small r4.1 l0 i r5.2.1 r5.2.2 xs (HLL.out.trans hL)
      have hsm : Small xs := ⟨by omega, fun x hx => by have := hks x hx; have := HP4.out; have := HL.out; omega⟩
      have HBW := Aside0.mk (below_then HWA.out HWA.out.size HBA.out)
      have HRV := Aside0.mk (Kd.R_lower (base' := w.heap.size) (Kd.R_mono (ok' := fun _ => True) HV.out (fun _ _ => trivial)) (Nat.le_trans HWS.out HAS.out))
      obtain ⟨A6, c6, hv6, hl6, hC6⟩ := Kd.R_reads HRV.out
      subst hv6
      have HEN := Aside0.mk (leaf_Encode.calls A6 c6 xs wr hC6 hl6 hsm)
      have hX := HX.out
      rw [hL] at hX
      obtain ⟨E, hE⟩ : ∃ E, encLeafR xs = E := ⟨_, rfl⟩
      simp only [hE] at hX
      rw [hE] at HEN
      have HXX := Aside0.mk hX
      have HEQ := Aside0.mk (fun (A : Option Addr) (cA : Nat) (W : World) (h1 : Kd.C (Kd.int .u8) W A E.1.length E.1) (h2 : E.1.length ≤ cA) (h3 : Below w.heap.size w W) => slices_Equal_byte_byte.calls (E.1.length + 1) A cA E.1 A0 c0 l0 _ W h1 h2 (Kd.C_below HR0.out h3) HC0.out (equal_f E.1 l0 h1.2.1))
      obtain ⟨bq, hbq⟩ : ∃ bq, decide (E.1 = l0) = bq := ⟨_, rfl⟩
      rw [hbq] at HEQ
      have HBQ := Aside0.mk hbq
      clear hks hsm hl6 hC6 hX hE hL hk hln HX hbq
      go_wp2_with fail
      refine HEN.out.mono ?_
      rintro e w7 ⟨v7, rfl, hR7, hB7⟩
      have HRV7 := Aside0.mk (Kd.R_below HRV.out hB7)
      have HBW7 := Aside0.mk (below_then HBW.out HBW.out.size hB7)
      obtain ⟨E1, e7⟩ := E
      obtain ⟨A7, c7, hv7, hl7, hC7⟩ := Kd.R_reads hR7
      subst hv7
      have HCE := Aside0.mk (HEQ.out A7 c7 w7 hC7 hl7 HBW7.out)
      have hx := HXX.out
      simp only at hx
      clear hR7 hB7 hl7 hC7 HEN HEQ HRV HV HBW
      by_cases ce : e7 = 0
      · subst ce
        rw [if_pos rfl] at hx
        have HXZ := Aside0.mk hx
        clear hx
        go_wp2_with fail
        refine HCE.out.mono ?_
        rintro e w8 ⟨rfl, nd, rfl⟩
        cases bq with
        | true =>
         obtain rfl : (xs, (0 : Int)) = R := by rw [← HXZ.out, if_pos (of_decide_eq_true HBQ.out)]
         clear HCE
         go_wp2
         go_ret2
         exact ⟨_, rfl, Kd.R_drewN HRV7.out _, pw_below_drewN HBW7.out _⟩
        | false =>
         obtain rfl : (([] : List It), (40 : Int)) = R := by rw [← HXZ.out, if_neg (of_decide_eq_false HBQ.out)]
         clear HCE
         go_wp2
         go_ret2
         exact ⟨_, rfl, Kd.R_nil _ _ _ _ _, pw_below_drewN HBW7.out _⟩
      · rw [if_neg ce] at hx
        subst hx
        have d1 : (e7 == 0) = false := beq_eq_false_iff_ne.mpr ce
        have d2 : (e7 != 0) = true := bne_iff_ne.mpr ce
        clear ce HCE
        go_wp2
        go_ret2
        exact ⟨_, rfl, Kd.R_nil _ _ _ _ _, HBW7.out⟩
     | succ k =>
      have cd1 : decide ((i : Int) < (n : Int)) = true := decide_eq_true (by omega)
      have cd2 : decide (i < n) = true := decide_eq_true (by omega)
      have hin : i < n := by omega
      have HGG := Aside0.mk (HK.out.blk HG5.out (by have := HGR.out; omega) (by simp))
      obtain ⟨r6, h6⟩ : ∃ r, itemR r4.1 l0 p er = r := ⟨_, rfl⟩
      have HIT := Aside0.mk (leaf_item.calls g gr l0 p er Ap cp r4.1 w.heap.size wA wr HI.out HBA.out (by have := HL.out; omega) (Kd.R_keep HP5.out HK.out (fun k h => h)) HP4.out HGG.out (by have := HGR.out; omega))
      have hlx := HLX.out.1
      unfold rdItems at hlx
      rw [h6] at HIT hlx
      have HLY := Aside0.mk hlx
      have HKI := Aside0.mk (And.intro hk HLX.out.2)
      clear h6 hlx
      have hx16 : xs.length ≤ 65536 := by have := HKI.out.2; omega
      have HXL := Aside0.mk hx16
      clear hx16 hk
      go_wp2_with fail
      refine HIT.out.mono ?_
      rintro e w6 ⟨A6, c6, A7, c7, rfl, hRK, hRV, hI6, hB6, hK6⟩
      have HRK := Aside0.mk hRK
      have HRV := Aside0.mk hRV
      have HI6 := Aside0.mk hI6
      have HB6 := Aside0.mk hB6
      have HK6 := Aside0.mk (KeepBut.trans HK.out hK6 (.inl rfl))
      have HV6 := Aside0.mk (Kd.R_keep HV.out hK6 (fun k h => h))
      have HOB : Aside0 (∀ k, u6.ownBlock = some k → k ≠ g ∧ w5.heap.size ≤ k ∧ k < wr.heap.size) := ⟨fun k hk => by have h := (Kd.R_bound HV.out).1 k hk; exact ⟨h.1, h.2.1, h.2.2.1⟩⟩
      have HGT := Aside0.mk hI6.lt
      have HM0 := Aside0.mk (Kd.R_lower (base' := w5.heap.size) (Kd.R_mono (ok' := fun k => k ≠ g ∧ wr.heap.size ≤ k) (Kd.R_bound hRK) (fun k hk => ⟨hk.1, hk.2.1⟩)) HK.out.1)
      have HM1 := Aside0.mk (Kd.R_lower (base' := w5.heap.size) (Kd.R_mono (ok' := fun k => k ≠ g ∧ wr.heap.size ≤ k) (Kd.R_bound hRV) (fun k hk => ⟨hk.1, hk.2.1⟩)) HK.out.1)
      have HG6 := Aside0.mk (hK6.blk HGG.out (by have := HGR.out; omega) (by simp))
      clear hRK hRV hI6 hB6 hK6 HIT HI HBA HV HK HRK HRV
      go_upto_region 12 with (first
       | ((with_reducible refine gate_builtin (b := .append) (xs := #[.tmp 54, .tmp 57]) rfl ?_); at_builtin; refine Kd.R_append k77 (w0 := w6) w5.heap.size rfl (.tmp 54) (.tmp 57) 22 77 (.agg #[(.slice none 0 0), (.slice none 0 0), (.int .i64 0), (.int .i64 0)]) 64 rfl Tryz.underlying22 info77 rfl (by decide) (by omega) u6 xs r6.1 [.slice A6 r6.1.f0.length c6, .slice A7 r6.1.f1.length c7, .int .i64 r6.1.f2, .int .i64 r6.1.f3] (fun k => k ≠ g) (fun k => k ≠ g ∧ wr.heap.size ≤ k) rfl rfl (k77_mkM w6 w5.heap.size _ r6.1 (HM0.out) (HM1.out)) (fun k hk => ⟨hk.1, fun e => by have := HOB.out k e.symm; have := hk.2; omega⟩) (fun k hk => by have := HGT.out; omega) HV6.out (Below.refl _ _) HK6.out.1 (by have := HXL.out; omega) ?_; intro v7 w7 ho hb hg hat; have HV7 := Aside0.mk ho; have HG7 := Aside0.mk hg; clear ho hb hg hat))
      have HI7 := Aside0.mk (HI6.out.grown HG7.out (fun e => (HOB.out g e.symm).1 rfl))
      have HGA : Aside0 (wA.heap.size ≤ w5.heap.size) := HAS
      have HB7 := Aside0.mk (HB6.out.grown HG7.out HB6.out.size (fun k hk => by have h1 := (HOB.out k hk).2.1; have := HGA.out; omega))
      have HK7 : Aside0 (KeepBut w5 w7 g none) := ⟨by
       refine ⟨Nat.le_trans HK6.out.1 HG7.out.size, fun j hj hne hr => (HG7.out.block j (Nat.lt_of_lt_of_le hj HK6.out.1) (fun e => ?_)).trans (HK6.out.2 j hj hne hr)⟩
       have h1 := (HOB.out j e.symm).2.1
       omega⟩
      have HG7b := Aside0.mk (blk_grown HG6.out HG7.out (fun e => by have h1 := (HOB.out gr e.symm).2.1; have h2 := blk_lt HG5.out; omega))
      have q7 := (blk_cell HG7b.out 0).trans rfl
      have HER := Aside0.mk (wire_Err.calls g l0 r6.2.1 r6.2.2 wA w7 HI7.out)
      clear HG6 HG7 HM0 HM1 HK6 HB6 HI6 HV6
      go_wp2_with fail
      refine HER.out.mono ?_
      rintro e w8 ⟨rfl, nd, rfl⟩
      obtain ⟨e6, he6⟩ : ∃ e6, r6.2.2 = e6 := ⟨_, rfl⟩
      rw [he6]
      have hly := HLY.out
      rw [he6] at hly HI7
      clear HER he6
      by_cases ce : e6 = 0
      · subst ce
        rw [if_pos rfl] at hly
        have HLZ := Aside0.mk hly
        clear hly
        go_wp2
        go_roundg k
        case measure => omega
        case rel =>
         refine ⟨i + 1, xs ++ [r6.1], r6.2.1, 0, congrArg (Value.int .i64) (by omega), by have := HKI.out.1; omega, ⟨?_, by rw [List.length_append, HKI.out.2]; rfl⟩, ⟨HI7.out.drewN _⟩, ⟨pw_below_drewN HB7.out _⟩, ⟨Kd.R_drewN HV7.out _⟩, ⟨keep_drewN HK7.out _⟩⟩
         rw [← HLZ.out]
         cases rdItems r4.1 l0 k r6.2.1 0 with
         | none => rfl
         | some ys => simp
      · rw [if_neg ce] at hly
        have hx : (([] : List It), (40 : Int)) = R := by
         have h := HX.out
         rw [← hly] at h
         exact h
        subst hx
        have d1 : (e6 == 0) = false := beq_eq_false_iff_ne.mpr ce
        have d2 : (e6 != 0) = true := bne_iff_ne.mpr ce
        have HBW := Aside0.mk (below_then HWA.out HWA.out.size HB7.out)
        clear hly ce
        go_wp2
        go_ret2
        exact ⟨_, rfl, Kd.R_nil _ _ _ _ _, pw_below_drewN HBW.out _⟩
 · obtain rfl : (([] : List It), (40 : Int)) = R := by rw [← HR.out, if_neg c]
   have d1 : ((l0.length : Int) == 4092) = false := beq_eq_false_iff_ne.mpr (by omega)
   have d2 : ((l0.length : Int) != 4092) = true := bne_iff_ne.mpr (by omega)
   clear hr0 hc0 c HR
   go_enter Tryz.func69, Tryz.ntmps69
   go_wp2
   go_ret2
   exact ⟨_, rfl, Kd.R_nil _ _ _ _ _, Below.refl _ _⟩
end Go.Proofs.YtppjphghlclklaaGreatDoor.P
end
