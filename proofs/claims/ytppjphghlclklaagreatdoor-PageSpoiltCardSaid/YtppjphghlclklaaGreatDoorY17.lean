/- Parts of a proof, laid together by a program of this session (slim.py). -/
import Derived.Test.YtppjphghlclklaaGreatDoorY16
import Derived.Test.YtppjphghlclklaaGreatDoorY13
import Derived.Test.YtppjphghlclklaaGreatDoorY7
set_option maxHeartbeats 8000000
set_option maxRecDepth 100000
section
namespace Go.Proofs.YtppjphghlclklaaGreatDoor.P
open Go.RowKit Go.Proofs.YtppjphghlclklaaGreatDoorW.PrintWords Go.Proofs.YtppjphghlclklaaGreatDoorW.PrintLast Go.Proofs.YtppjphghlclklaaGreatDoorW.PrintMore
theorem min2_min (k k' : IntKind) (x y : Int) : Builtin.min2 (.int k x) (.int k' y) = pure (.int k (min x y)) := by
 rw [min2_int]
 congr 2
 split <;> omega
attribute [local go_sem] max2_int min2_min max_two min_two max_three min_three max_four min_four
set_option linter.unusedVariables false
set_option linter.unusedSimpArgs false
def itemR (pre : List Int) (l : List Int) (p : Nat) (e : Int) : It × Nat × Int :=
 let a := vR l p e
 let b := takeR l a.2.1 a.2.2 (min a.1 4092)
 let t := vR l b.2.1 b.2.2
 if t.1 > 524289 then (let d := takeR l t.2.1 t.2.2 (-1); (⟨pre ++ b.1, [], 0, 0⟩, d.2.1, d.2.2))
 else if t.1 % 2 = 1 then (let d := getR 4 l t.2.1 t.2.2; (⟨pre ++ b.1, [], t.1 / 2, d.1 % 4294967296⟩, d.2.1, d.2.2))
 else (let d := takeR l t.2.1 t.2.2 (t.1 / 2); (⟨pre ++ b.1, d.1, t.1 / 2, 0⟩, d.2.1, d.2.2))
def ItemPost (w0 w : World) (g : Nat) (l : List Int) (r : It × Nat × Int) (e : Ending) (w' : World) : Prop :=
 ∃ A0 c0 A1 c1, e = .returned (.agg #[.slice A0 r.1.f0.length c0, .slice A1 r.1.f1.length c1, .int .i64 r.1.f2, .int .i64 r.1.f3]) ∧ Kd.R (Kd.int .u8) 5 w' w.heap.size (fun k => k ≠ g) (.slice A0 r.1.f0.length c0) r.1.f0 ∧ Kd.R (Kd.int .u8) 5 w' w.heap.size (fun k => k ≠ g) (.slice A1 r.1.f1.length c1) r.1.f1 ∧ IsRd w0 w' g l r.2.1 r.2.2 ∧ Below w0.heap.size w0 w' ∧ KeepBut w w' g none
theorem takeR_le' (l : List Int) (p : Nat) (e n : Int) : (takeR l p e n).1.length ≤ l.length := by
 unfold takeR
 split
 · split
   · simp
   · simp only [List.length_drop, List.length_take]; omega
 · simp
theorem lit_CC {W : World} {A0 A1 : Option Addr} {c0 c1 : Nat} {l0 l1 : List Int} (e : Nat) (h0 : Kd.C (Kd.int .u8) W A0 l0.length l0) (hc0 : l0.length ≤ c0) (h1 : Kd.C (Kd.int .u8) W A1 l1.length l1) (hc1 : l1.length ≤ c1) :
 Kd.C (Kd.slice 5 (Kd.int .u8)) (W.alloc (.cells #[.slice A0 l0.length c0, .slice A1 l1.length c1] e)) (some ⟨W.heap.size, 0, none⟩) 2 [l0, l1] := by
 have hb := below_alloc (Below.refl W.heap.size W) (.cells #[.slice A0 l0.length c0, .slice A1 l1.length c1] e)
 have hx := heap_alloc_new W (.cells #[.slice A0 l0.length c0, .slice A1 l1.length c1] e)
 have z0 := (blk_cell hx 0).trans rfl
 have z1 := (blk_cell hx 1).trans rfl
 refine ⟨rfl, by decide, fun _ => ⟨_, rfl, fun j x hj => ?_⟩⟩
 match j, hj with
 | 0, hj =>
  obtain rfl : l0 = x := by simpa using hj
  refine ⟨[.slice A0 l0.length c0], rfl, ⟨A0, c0, rfl, hc0, Kd.C_below h0 hb⟩, fun i u hu => ?_⟩
  match i, hu with
  | 0, hu =>
   obtain rfl : Value.slice A0 l0.length c0 = u := by simpa using hu
   exact z0
 | 1, hj =>
  obtain rfl : l1 = x := by simpa using hj
  refine ⟨[.slice A1 l1.length c1], rfl, ⟨A1, c1, rfl, hc1, Kd.C_below h1 hb⟩, fun i u hu => ?_⟩
  match i, hu with
  | 0, hu =>
   obtain rfl : Value.slice A1 l1.length c1 = u := by simpa using hu
   exact z1
theorem item_store {W : World} {g t : Nat} {v0 v1 v2 v3 : Value} (h : W.heap[g]? = some (.cells #[v0, v1, v2, v3] t (0, 0))) (u0 u1 u2 u3 : Value) :
 ((((W.setCell ⟨g, 0, none⟩ u0).setCell ⟨g, 1, none⟩ u1).setCell ⟨g, 2, none⟩ u2).setCell ⟨g, 3, none⟩ u3).heap[g]? = some (.cells #[u0, u1, u2, u3] t (0, 0)) := by
 simpa using blk_set (blk_set (blk_set (blk_set h 0 u0) 1 u1) 2 u2) 3 u3
theorem set4_R {W : World} {gT base : Nat} {ok : Nat → Prop} {v : Value} {xs : List Int} {v0 v1 v2 v3 : Value} (hT : W.heap[gT]? = some (.cells #[v0, v1, v2, v3] 77 (0, 0))) (u0 u1 u2 u3 : Value) (h : Kd.R (Kd.int .u8) 5 W base ok v xs) :
 Kd.R (Kd.int .u8) 5 ((((W.setCell ⟨gT, 0, none⟩ u0).setCell ⟨gT, 1, none⟩ u1).setCell ⟨gT, 2, none⟩ u2).setCell ⟨gT, 3, none⟩ u3) base ok v xs := by
 have hq : ∀ q, q ∈ 5 :: (Kd.int IntKind.u8).E → q ≠ 77 := by
  intro q hq
  have : q = 5 := List.mem_singleton.1 (show q ∈ [5] from hq)
  rw [this]
  decide
 exact Kd.R_set (Kd.R_set (Kd.R_set (Kd.R_set h hT hq 0 u0) (blk_set hT 0 u0) hq 1 u1) (blk_set (blk_set hT 0 u0) 1 u1) hq 2 u2) (blk_set (blk_set (blk_set hT 0 u0) 1 u1) 2 u2) hq 3 u3
theorem item_done {w0 w W : World} {g gT : Nat} {l : List Int} {r : It × Nat × Int} {A0 A1 : Option Addr} {c0 c1 n0 n1 : Nat} {s c : Int} {v0 v1 v2 v3 : Value} (hgT : w.heap.size ≤ gT) (hge : w0.heap.size ≤ w.heap.size) (hg : g < w.heap.size) (hT : W.heap[gT]? = some (.cells #[v0, v1, v2, v3] 77 (0, 0)))
 (e0 : n0 = r.1.f0.length) (e1 : n1 = r.1.f1.length) (e2 : s = r.1.f2) (e3 : c = r.1.f3)
 (h0 : Kd.R (Kd.int .u8) 5 W w.heap.size (fun k => k ≠ g) (.slice A0 r.1.f0.length c0) r.1.f0) (h1 : Kd.R (Kd.int .u8) 5 W w.heap.size (fun k => k ≠ g) (.slice A1 r.1.f1.length c1) r.1.f1) (hI : IsRd w0 W g l r.2.1 r.2.2) (hB : Below w0.heap.size w0 W) (hK : KeepBut w W g none) :
 ItemPost w0 w g l r (.returned (.agg #[.slice A0 n0 c0, .slice A1 n1 c1, .int .i64 s, .int .i64 c])) ((((W.setCell ⟨gT, 0, none⟩ (.slice A0 n0 c0)).setCell ⟨gT, 1, none⟩ (.slice A1 n1 c1)).setCell ⟨gT, 2, none⟩ (.int .i64 s)).setCell ⟨gT, 3, none⟩ (.int .i64 c)) := by
 subst e0 e1 e2 e3
 have hne : g ≠ gT := by omega
 exact ⟨A0, c0, A1, c1, rfl, set4_R hT _ _ _ _ h0, set4_R hT _ _ _ _ h1, (((hI.far (q := ⟨gT, 0, none⟩) hne _).far (q := ⟨gT, 1, none⟩) hne _).far (q := ⟨gT, 2, none⟩) hne _).far (q := ⟨gT, 3, none⟩) hne _, below_set (below_set (below_set (below_set hB (by omega)) (by omega)) (by omega)) (by omega), keep_far (keep_far (keep_far (keep_far hK hgT _) hgT _) hgT _) hgT _⟩
theorem leaf_item.calls (g gr : Nat) (l : List Int) (p : Nat) (er : Int) (Ap : Option Addr) (cp : Nat) (pre0 : List Int) (base : Nat) (w0 w : World) (hI : IsRd w0 w g l p er) (hB : Below w0.heap.size w0 w) (hl : l.length ≤ 4092)
 (hP : Kd.R (Kd.int .u8) 5 w base (fun k => k ≠ g) (.slice Ap pre0.length cp) pre0) (hpl : pre0.length ≤ 4092) (hG : w.heap[gr]? = some (.cells #[.pointer (some ⟨g, 0, none⟩), .slice Ap pre0.length cp] 167 (0, 0))) (hgg : gr ≠ g) :
 Calls Tryz.prog 168 #[.pointer (some ⟨gr, 0, none⟩)] w (ItemPost w0 w g l (itemR pre0 l p er)) := by
 obtain ⟨R, hR⟩ : ∃ R, itemR pre0 l p er = R := ⟨_, rfl⟩
 rw [hR]
 unfold itemR at hR
 obtain ⟨r1, h1⟩ : ∃ r, vR l p er = r := ⟨_, rfl⟩
 have hr1 := vR_range l p er
 rw [h1] at hr1
 obtain ⟨m, hm⟩ : ∃ m, min r1.1 4092 = m := ⟨_, rfl⟩
 have hm0 : 0 ≤ m := by omega
 have hm1 : m ≤ 4092 := by omega
 have hmw : IntKind.i64.wrap m = m := by rw [IntKind.wrap_i64]; omega
 obtain ⟨r2, h2⟩ : ∃ r, takeR l r1.2.1 r1.2.2 m = r := ⟨_, rfl⟩
 obtain ⟨r3, h3⟩ : ∃ r, vR l r2.2.1 r2.2.2 = r := ⟨_, rfl⟩
 obtain ⟨key, hkey⟩ : ∃ key, pre0 ++ r2.1 = key := ⟨_, rfl⟩
 simp only [h1, hm, h2, h3, hkey] at hR
 have HKEY := Aside0.mk hkey
 clear hkey
 have hr3 := vR_range l r2.2.1 r2.2.2
 rw [h3] at hr3
 have hlt := hI.lt
 have hge := hI.ge
 have HX := Aside0.mk hR
 have HR2L : Aside0 (r2.1.length ≤ 4092) := ⟨by rw [← h2]; exact Nat.le_trans (takeR_le' l r1.2.1 r1.2.2 m) hl⟩
 have H1 := Aside0.mk h1
 have H2 := Aside0.mk h2
 have H3 := Aside0.mk h3
 have HR3 := Aside0.mk hr3
 have HI := Aside0.mk hI
 have HB := Aside0.mk hB
 have HL := Aside0.mk hl
 have HP := Aside0.mk hP
 have HPL := Aside0.mk hpl
 have HG := Aside0.mk hG
 have HGG := Aside0.mk hgg
 have HLT := Aside0.mk hlt
 have HGE := Aside0.mk hge
 clear hR h1 h2 h3 hr3 hI hB hl hP hpl hgg hlt hge hG
 go_enter Tryz.func168, Tryz.ntmps168
 go_upto_region 1 with (fail)
 obtain ⟨wA, hwA⟩ : ∃ wA, wA = w.alloc (Obj.cells #[Value.slice none 0 0, Value.slice none 0 0, Value.int IntKind.i64 0, Value.int IntKind.i64 0] 77) := ⟨_, rfl⟩
 rw [← hwA]
 have HIA : Aside0 (IsRd w0 wA g l p er) := ⟨by rw [hwA]; exact HI.out.alloc _⟩
 have HBA : Aside0 (Below w0.heap.size w0 wA) := ⟨by rw [hwA]; exact below_alloc HB.out _⟩
 have HKA : Aside0 (KeepBut w wA g none) := ⟨by rw [hwA]; exact keep_alloc (KeepBut.refl w g none) _⟩
 have HT2 : Aside0 (wA.heap[w.heap.size]? = some (Obj.cells #[Value.slice none 0 0, Value.slice none 0 0, Value.int IntKind.i64 0, Value.int IntKind.i64 0] 77 (0, 0))) := ⟨by rw [hwA]; exact heap_alloc_new w _⟩
 obtain ⟨gT, hgT⟩ : ∃ gT, gT = w.heap.size := ⟨_, rfl⟩
 rw [← hgT] at HT2 ⊢
 have HGT := Aside0.mk hgT
 have hga := HKA.out.blk HG.out HGG.out (by simp)
 have HGA := Aside0.mk hga
 have q0 := (blk_cell hga 0).trans rfl
 have q1 := (blk_cell hga 1).trans rfl
 have HV := Aside0.mk (wire_V.calls g l p er w0 wA.drew HIA.out.drew (below_drew1 HBA.out))
 rw [H1.out] at HV
 clear hwA hga hgT
 go_cut [3] (fun v3 wc => ∃ A c, v3 = .slice A r2.1.length c ∧ Aside0 (Kd.R (Kd.int .u8) 5 wc wA.heap.size (fun k => k ≠ g) (.slice A r2.1.length c) r2.1) ∧ Aside0 (IsRd w0 wc g l r2.2.1 r2.2.2) ∧ Aside0 (Below w0.heap.size w0 wc) ∧ Aside0 (KeepBut wA wc g none))
 case first =>
  go_region_with (first
   | (go_at_call 165; (with_reducible refine HY.out.mono ?_); rintro e w5 ⟨v5, rfl, hR5, hI5, hB5, hK5⟩; obtain ⟨A5, c5, hv5, hl5, hC5⟩ := Kd.R_reads hR5; subst hv5; have HR5 := Aside0.mk hR5; have HI5 := Aside0.mk hI5; have HB5 := Aside0.mk hB5; have HK5 := Aside0.mk (KeepBut.trans HK4.out hK5 (.inl rfl)); clear hR5 hI5 hB5 hK5 hl5 hC5 HK4)
   | (go_at_call 167; (with_reducible refine HV.out.mono ?_); rintro e w4 ⟨rfl, hI4, hB4, hK4⟩; have HK4 := Aside0.mk hK4; have HS4 := Aside0.mk (And.intro hI4.lt hK4.1); have q2 := (blk_cell (hK4.blk HGA.out HGG.out (by simp)) 0).trans rfl; have HY := Aside0.mk (wire_Bytes.calls g l r1.2.1 r1.2.2 m w0 w4 hI4 hB4 (by have := HL.out; omega)); rw [H2.out] at HY; clear hI4 hB4 hK4))
  all_goals
   go_wp2
   go_meet
   case rel => exact ⟨A5, c5, rfl, ⟨Kd.R_lower (Kd.R_mono (Kd.R_bound HR5.out) (fun k hk => by have := hk.2.1; have := HS4.out.1; omega)) HS4.out.2⟩, HI5, HB5, HK5⟩
 case rest =>
  clear HV q0 q1 HIA HBA
  obtain ⟨A3, c3, rfl, HR3v, HI3, HB3, HK3⟩ := hcut
  obtain ⟨w3, rfl⟩ : ∃ x : World, x = wc := ⟨_, rfl⟩
  have hga := HK3.out.blk HGA.out HGG.out (by simp)
  have q1 := (blk_cell hga 1).trans rfl
  have HG3 := Aside0.mk hga
  obtain ⟨_, _, hv3, hl3, hC3⟩ := Kd.R_reads HR3v.out
  injection hv3 with hv3a hv3b hv3c
  subst hv3a hv3c
  obtain ⟨_, _, hvP, hlP, hCP⟩ := Kd.R_reads (Kd.R_keep HP.out (KeepBut.trans HKA.out HK3.out (.inl rfl)) (fun k h => h))
  injection hvP with hva hvb hvc
  subst hva hvc
  have HCC := Aside0.mk (slices_Concat.calls (some ⟨w3.heap.size, 0, none⟩) 2 [pre0, r2.1] (w3.alloc (.cells #[.slice Ap pre0.length cp, .slice A3 r2.1.length c3] 25)) (lit_CC 25 hCP hlP hC3 hl3) (Nat.le_refl _) (by simp only [List.flatten_cons, List.flatten_nil, List.length_append, List.length_nil]; have := HPL.out; have := HR2L.out; omega))
  rw [show ([pre0, r2.1] : List (List Int)).flatten = key by rw [← HKEY.out]; simp] at HCC
  clear hga hv3b hl3 hC3 hvb hlP hCP
  go_wp2_with fail
  refine HCC.out.mono ?_
  rintro e w4 ⟨v4, rfl, hR4, hB4⟩
  obtain ⟨A4, c4, hv4, hl4, hC4⟩ := Kd.R_reads hR4
  subst hv4
  have HZ3 := Aside0.mk (below_alloc (Below.refl w3.heap.size w3) (.cells #[.slice Ap pre0.length cp, .slice A3 r2.1.length c3] 25)).size
  have hB4 := below_step (below_alloc (Below.refl w3.heap.size w3) _) hB4
  have HZ4 := Aside0.mk hB4.size
  have HI4 := Aside0.mk (HI3.out.below hB4)
  have HB4 := Aside0.mk (below_then HB3.out (by have := HI3.out.ge; have := HI3.out.lt; omega) hB4)
  have HK4 := Aside0.mk (keep_below HK3.out hB4)
  have HG4 := Aside0.mk (blk_below HG3.out hB4)
  have HR4 := Aside0.mk hR4
  clear hR4 hB4 hl4 hC4 HCC HR3v HI3 HB3 q1
  go_upto_region 3 with (fail)
  obtain ⟨ob, hob⟩ : ∃ ob, ob = Obj.cells #[Value.slice A4 key.length c4, Value.slice none 0 0, Value.int IntKind.i64 0, Value.int IntKind.i64 0] 77 := ⟨_, rfl⟩
  rw [← hob]
  obtain ⟨wB, hwB⟩ : ∃ wB, wB = w4.alloc ob := ⟨_, rfl⟩
  rw [← hwB]
  have hb4 : Below w4.heap.size w4 wB := by rw [hwB]; exact below_alloc (Below.refl _ _) ob
  have HIB := Aside0.mk (HI4.out.below hb4)
  have HBB := Aside0.mk (below_then HB4.out (by have := HI4.out.ge; have := HI4.out.lt; omega) hb4)
  have HKB := Aside0.mk (keep_below HK4.out hb4)
  have HSZ : Aside0 (gT < w3.heap.size ∧ w3.heap.size ≤ w4.heap.size ∧ w0.heap.size ≤ w.heap.size) := ⟨Nat.lt_of_lt_of_le (blk_lt HT2.out) HK3.out.1, HZ4.out, HB.out.size⟩
  have HRK : Aside0 (Kd.R (Kd.int .u8) 5 wB w.heap.size (fun k => k ≠ g) (.slice A4 key.length c4) key) := ⟨Kd.R_lower (Kd.R_mono (Kd.R_bound (Kd.R_below HR4.out hb4)) (fun k hk => by have h1 := hk.2.1; have h2 := HZ3.out; have := HSZ.out; have := HGT.out; have := HLT.out; omega)) (by have h2 := HZ3.out; have := HSZ.out; have := HGT.out; omega)⟩
  have HT4 : Aside0 (wB.heap[w4.heap.size]? = some (Obj.cells #[Value.slice A4 key.length c4, Value.slice none 0 0, Value.int IntKind.i64 0, Value.int IntKind.i64 0] 77 (0, 0))) := ⟨by rw [hwB, hob]; exact heap_alloc_new w4 _⟩
  have hgb := blk_below HG4.out hb4
  have HGB := Aside0.mk hgb
  have q0 := (blk_cell hgb 0).trans rfl
  obtain ⟨g4, hg4⟩ : ∃ g4, g4 = w4.heap.size := ⟨_, rfl⟩
  rw [← hg4] at HT4 HSZ ⊢
  have HV3 := Aside0.mk (wire_V.calls g l r2.2.1 r2.2.2 w0 wB HIB.out HBB.out)
  rw [H3.out] at HV3
  clear hob hwB hb4 hgb hg4 HI4 HB4 HK4 HG4 HR4
  go_wp2_with fail
  refine HV3.out.mono ?_
  rintro e w5 ⟨rfl, hI5, hB5, hK5⟩
  have HI5 := Aside0.mk hI5
  have HB5 := Aside0.mk hB5
  have HK5 := Aside0.mk hK5
  have hg5 := hK5.blk HGB.out HGG.out (by simp)
  have HG5 := Aside0.mk hg5
  have q5 := (blk_cell hg5 0).trans rfl
  have HR5 := Aside0.mk (Kd.R_keep HRK.out hK5 (fun k h => h))
  have hgT : gT ≠ g ∧ g4 ≠ g := by have := HGT.out; have := HLT.out; have := HSZ.out; omega
  have HT5 := Aside0.mk (hK5.blk HT4.out hgT.2 (by simp))
  have HTT := Aside0.mk (hK5.blk (HKB.out.blk HT2.out hgT.1 (by simp)) hgT.1 (by simp))
  have HKW := Aside0.mk (KeepBut.trans (KeepBut.trans HKA.out HKB.out (.inl rfl)) hK5 (.inl rfl))
  have HNE := Aside0.mk hgT
  obtain ⟨x3, q3, e3⟩ := r3
  have hr30 := HR3.out.1
  have hr31 := HR3.out.2
  simp only at hr30 hr31
  clear hI5 hB5 hK5 hg5 hgT q0 HV3 HIB HBB HKB HGB HRK HT4
  by_cases c1 : x3 > 524289
  · have cd := decide_eq_true c1
    have HX' : (⟨key, [], 0, 0⟩, (takeR l q3 e3 (-1)).2.1, (takeR l q3 e3 (-1)).2.2) = R := by have h := HX.out; simp only [if_pos c1] at h; exact h
    obtain ⟨r6, h6⟩ : ∃ r, takeR l q3 e3 (-1) = r := ⟨_, rfl⟩
    have HY := Aside0.mk (wire_Bytes.calls g l q3 e3 (-1) w0 w5 HI5.out HB5.out (by have := HL.out; omega))
    rw [h6] at HX' HY
    subst HX'
    clear h6 HX c1
    go_wp2_with fail
    refine HY.out.mono ?_
    rintro e w6 ⟨v6, rfl, hR6, hI6, hB6, hK6⟩
    have HR6 := Aside0.mk (Kd.R_keep HR5.out hK6 (fun k h => h))
    have HI6 := Aside0.mk hI6
    have HB6 := Aside0.mk hB6
    have HK6 := Aside0.mk (KeepBut.trans HKW.out hK6 (.inl rfl))
    have h4 := hK6.blk HT5.out HNE.out.2 (by simp)
    have hT := hK6.blk HTT.out HNE.out.1 (by simp)
    have HTF := Aside0.mk hT
    have z0 := (blk_cell h4 0).trans rfl
    have z1 := (blk_cell h4 1).trans rfl
    have z2 := (blk_cell h4 2).trans rfl
    have z3 := (blk_cell h4 3).trans rfl
    have y0 := blk_frozen hT 0
    have y1 := blk_frozen hT 1
    have y2 := blk_frozen hT 2
    have y3 := blk_frozen hT 3
    have t0 := (blk_cell hT 0).trans rfl
    have t1 := (blk_cell hT 1).trans rfl
    have t2 := (blk_cell hT 2).trans rfl
    have t3 := (blk_cell hT 3).trans rfl
    clear h4 hT hR6 hI6 hB6 hK6 HY q5 HR5 HT5 HTT HI5 HB5 HK5
    go_wp2
    refine bodyPost_ret (results_cell_row rfl _ _ gT 77 #[.slice A4 key.length c4, .slice none 0 0, .int .i64 0, .int .i64 0] (0, 0) _ rfl (item_store HTF.out _ _ _ _) Tryz.underlying77 rfl (by kernel_rfl)) rfl ?_
    exact item_done (Nat.le_of_eq HGT.out.symm) HSZ.out.2.2 HLT.out HTF.out rfl rfl rfl rfl HR6.out (Kd.R_nil _ _ _ _ _) HI6.out HB6.out HK6.out
  · have cd : decide (524289 < x3) = false := decide_eq_false c1
    have c1' : x3 ≤ 524289 := by omega
    have hX := HX.out
    simp only [if_neg c1] at hX
    have HX := Aside0.mk hX
    clear hX c1
    have f2 := blk_frozen HT5.out 2
    have z2 := (blk_cell HT5.out 2).trans rfl
    obtain ⟨y, hy⟩ : ∃ y, y = x3 / 2 := ⟨_, rfl⟩
    have hy0 : 0 ≤ y := by omega
    have hy1 : y ≤ 262144 := by omega
    have HYY := Aside0.mk hy
    go_upto_region 8 with (fail)
    rw [← HYY.out]
    rw [← HYY.out] at HX
    have hq : ∀ q, q ∈ 5 :: (Kd.int IntKind.u8).E → q ≠ 77 := by
     intro q hq
     have : q = 5 := List.mem_singleton.1 (show q ∈ [5] from hq)
     rw [this]
     decide
    have HSN : Aside0 (g ≠ g4 ∧ gT ≠ g4 ∧ gr ≠ g4 ∧ w.heap.size ≤ g4 ∧ w0.heap.size ≤ g4) := ⟨by have := HSZ.out; have := HGT.out; have := HLT.out; have := blk_lt HG.out; omega⟩
    have HRF := Aside0.mk (Kd.R_set HR5.out HT5.out hq 2 (.int .i64 y))
    have HTF4 := blk_set HT5.out 2 (.int .i64 y)
    simp only [List.setIfInBounds_toArray, List.set_cons_succ, List.set_cons_zero] at HTF4
    have HTF4 := Aside0.mk HTF4
    have HTTF := Aside0.mk (blk_far HTT.out (p := ⟨g4, 2, none⟩) HSN.out.2.1 (.int .i64 y))
    have HGF := Aside0.mk (blk_far HG5.out (p := ⟨g4, 2, none⟩) HSN.out.2.2.1 (.int .i64 y))
    have HIF := Aside0.mk (HI5.out.far (q := ⟨g4, 2, none⟩) HSN.out.1 (.int .i64 y))
    have HBF := Aside0.mk (below_set (j := 2) (v := .int .i64 y) HB5.out HSN.out.2.2.2.2)
    have HKF := Aside0.mk (keep_far (p := ⟨g4, 2, none⟩) HKW.out HSN.out.2.2.2.1 (.int .i64 y))
    obtain ⟨wF, hwF⟩ : ∃ wF, wF = w5.setCell ⟨g4, 2, none⟩ (.int .i64 y) := ⟨_, rfl⟩
    rw [← hwF] at HRF HTF4 HTTF HGF HIF HBF HKF ⊢
    have q6 := (blk_cell HGF.out 0).trans rfl
    have x2 := (blk_cell HTF4.out 2).trans rfl
    clear f2 z2 q5 hwF HR5 HT5 HTT HG5 HI5 HB5 HK5 HKW hy
    by_cases c2 : x3 % 2 = 1
    · have cd2 : (x3 % 2 == 1) = true := beq_iff_eq.mpr c2
      have hX := HX.out
      rw [if_pos c2] at hX
      unfold getR at hX
      obtain ⟨r6, h6⟩ : ∃ r, takeR l q3 e3 4 = r := ⟨_, rfl⟩
      have HY := Aside0.mk (wire_Get_uint32.calls g l q3 e3 w0 wF HIF.out HBF.out)
      rw [h6] at hX HY
      subst hX
      clear h6 HX
      go_wp2_with fail
      refine HY.out.mono ?_
      rintro e w6 ⟨rfl, hI6, hB6, hK6⟩
      have HR6 := Aside0.mk (Kd.R_keep HRF.out hK6 (fun k h => h))
      have HI6 := Aside0.mk hI6
      have HB6 := Aside0.mk hB6
      have HK6 := Aside0.mk (KeepBut.trans HKF.out hK6 (.inl rfl))
      have HT6 := Aside0.mk (hK6.blk HTF4.out HNE.out.2 (by simp))
      have HTF := Aside0.mk (hK6.blk HTTF.out HNE.out.1 (by simp))
      have f3 := blk_frozen HT6.out 3
      have z3 := (blk_cell HT6.out 3).trans rfl
      obtain ⟨v, hv⟩ : ∃ v, v = leGo 0 0 r6.1 % 4294967296 := ⟨_, rfl⟩
      have hv0 : 0 ≤ v := by omega
      have hv1 : v < 4294967296 := by omega
      rw [← hv]
      have HV := Aside0.mk hv
      clear hI6 hB6 hK6 HY q6 HRF HTF4 HTTF HGF HIF HBF HKF hv x2
      go_upto_region 11 with (fail)
      have HR7 := Aside0.mk (Kd.R_set HR6.out HT6.out hq 3 (.int .i64 v))
      have HT7 := blk_set HT6.out 3 (.int .i64 v)
      simp only [List.setIfInBounds_toArray, List.set_cons_succ, List.set_cons_zero] at HT7
      have HTF7 := Aside0.mk (blk_far HTF.out (p := ⟨g4, 3, none⟩) HSN.out.2.1 (.int .i64 v))
      have HI7 := Aside0.mk (HI6.out.far (q := ⟨g4, 3, none⟩) HSN.out.1 (.int .i64 v))
      have HB7 := Aside0.mk (below_set (j := 3) (v := .int .i64 v) HB6.out HSN.out.2.2.2.2)
      have HK7 := Aside0.mk (keep_far (p := ⟨g4, 3, none⟩) HK6.out HSN.out.2.2.2.1 (.int .i64 v))
      obtain ⟨wG, hwG⟩ : ∃ wG, wG = w6.setCell ⟨g4, 3, none⟩ (.int .i64 v) := ⟨_, rfl⟩
      rw [← hwG] at HR7 HT7 HTF7 HI7 HB7 HK7 ⊢
      have x0 := (blk_cell HT7 0).trans rfl
      have x1 := (blk_cell HT7 1).trans rfl
      have x2 := (blk_cell HT7 2).trans rfl
      have x3 := (blk_cell HT7 3).trans rfl
      have y0 := blk_frozen HTF7.out 0
      have y1 := blk_frozen HTF7.out 1
      have y2 := blk_frozen HTF7.out 2
      have y3 := blk_frozen HTF7.out 3
      have t0 := (blk_cell HTF7.out 0).trans rfl
      have t1 := (blk_cell HTF7.out 1).trans rfl
      have t2 := (blk_cell HTF7.out 2).trans rfl
      have t3 := (blk_cell HTF7.out 3).trans rfl
      clear f3 z3 HT7 hwG
      go_wp2
      refine bodyPost_ret (results_cell_row rfl _ _ gT 77 #[.slice A4 key.length c4, .slice none 0 0, .int .i64 y, .int .i64 v] (0, 0) _ rfl (item_store HTF7.out _ _ _ _) Tryz.underlying77 rfl (by kernel_rfl)) rfl ?_
      exact item_done (Nat.le_of_eq HGT.out.symm) HSZ.out.2.2 HLT.out HTF7.out rfl rfl rfl HV.out HR7.out (Kd.R_nil _ _ _ _ _) HI7.out HB7.out HK7.out
    · have cd2 : (x3 % 2 == 1) = false := beq_eq_false_iff_ne.mpr c2
      have hX := HX.out
      rw [if_neg c2] at hX
      obtain ⟨r6, h6⟩ : ∃ r, takeR l q3 e3 y = r := ⟨_, rfl⟩
      have HY := Aside0.mk (wire_Bytes.calls g l q3 e3 y w0 wF.drew HIF.out.drew (below_drew1 HBF.out) (by have := HL.out; omega))
      rw [h6] at hX HY
      subst hX
      clear h6 HX
      go_upto_region 10 with (fail)
      go_region_with (go_at_call 165; (with_reducible refine HY.out.mono ?_); rintro e w6 ⟨v6, rfl, hR6, hI6, hB6, hK6⟩; obtain ⟨A6, c6, hv6, hl6, hC6⟩ := Kd.R_reads hR6; subst hv6; have HK0 := Aside0.mk hK6; have HR6 := Aside0.mk hR6; have HI6 := Aside0.mk hI6; have HB6 := Aside0.mk hB6; have HT6 := Aside0.mk (hK6.blk (w := wF.drew) HTF4.out HNE.out.2 (by simp)); have f1 := blk_frozen HT6.out 1; have z1 := (blk_cell HT6.out 1).trans rfl; have x2' := (blk_cell HT6.out 2).trans rfl; clear hR6 hI6 hB6 hK6 hl6 hC6)
      all_goals
       have HRK6 := Kd.R_keep (w := wF.drew) HRF.out HK0.out (fun k h => h)
       have HRV6 := Kd.R_lower (base' := w.heap.size) (Kd.R_mono (ok' := fun k => k ≠ g) (Kd.R_bound HR6.out) (fun k hk => by have h1 := hk.2.1; have h2 : g < wF.drew.heap.size := HIF.out.lt; omega)) HKF.out.1
       have HK6 : KeepBut w w6 g none := KeepBut.trans (w1 := wF.drew) HKF.out HK0.out (.inl rfl)
       have HTF := HK0.out.blk (w := wF.drew) HTTF.out HNE.out.1 (by simp)
       have HR7 := Aside0.mk (Kd.R_set HRK6 HT6.out hq 1 (.slice A6 r6.1.length c6))
       have HV7 := Aside0.mk (Kd.R_set HRV6 HT6.out hq 1 (.slice A6 r6.1.length c6))
       have HT7 := blk_set HT6.out 1 (.slice A6 r6.1.length c6)
       simp only [List.setIfInBounds_toArray, List.set_cons_succ, List.set_cons_zero] at HT7
       have HTF7 := Aside0.mk (blk_far HTF (p := ⟨g4, 1, none⟩) HSN.out.2.1 (.slice A6 r6.1.length c6))
       have HI7 := Aside0.mk (HI6.out.far (q := ⟨g4, 1, none⟩) HSN.out.1 (.slice A6 r6.1.length c6))
       have HB7 := Aside0.mk (below_set (j := 1) (v := .slice A6 r6.1.length c6) HB6.out HSN.out.2.2.2.2)
       have HK7 := Aside0.mk (keep_far (p := ⟨g4, 1, none⟩) HK6 HSN.out.2.2.2.1 (.slice A6 r6.1.length c6))
       obtain ⟨wG, hwG⟩ : ∃ wG, wG = w6.setCell ⟨g4, 1, none⟩ (.slice A6 r6.1.length c6) := ⟨_, rfl⟩
       rw [← hwG] at HR7 HV7 HT7 HTF7 HI7 HB7 HK7 ⊢
       have x0 := (blk_cell HT7 0).trans rfl
       have x1 := (blk_cell HT7 1).trans rfl
       have x2 := (blk_cell HT7 2).trans rfl
       have x3 := (blk_cell HT7 3).trans rfl
       have y0 := blk_frozen HTF7.out 0
       have y1 := blk_frozen HTF7.out 1
       have y2 := blk_frozen HTF7.out 2
       have y3 := blk_frozen HTF7.out 3
       have t0 := (blk_cell HTF7.out 0).trans rfl
       have t1 := (blk_cell HTF7.out 1).trans rfl
       have t2 := (blk_cell HTF7.out 2).trans rfl
       have t3 := (blk_cell HTF7.out 3).trans rfl
       clear f1 z1 x2' HT7 hwG HRK6 HRV6 HK6 HTF HRF HTF4 HTTF HGF HIF HBF HKF q6 HR6
       go_wp2
       refine bodyPost_ret (results_cell_row rfl _ _ gT 77 #[.slice A4 key.length c4, .slice A6 r6.1.length c6, .int .i64 y, .int .i64 0] (0, 0) _ rfl (item_store HTF7.out _ _ _ _) Tryz.underlying77 rfl (by kernel_rfl)) rfl ?_
       exact item_done (Nat.le_of_eq HGT.out.symm) HSZ.out.2.2 HLT.out HTF7.out rfl rfl rfl rfl HR7.out HV7.out HI7.out HB7.out HK7.out
end Go.Proofs.YtppjphghlclklaaGreatDoor.P
end
