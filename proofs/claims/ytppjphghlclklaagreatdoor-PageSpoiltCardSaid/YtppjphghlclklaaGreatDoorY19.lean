/- Parts of a proof, laid together by a program of this session (slim.py). -/
import Derived.Test.YtppjphghlclklaaGreatDoorY16
import Derived.Test.YtppjphghlclklaaGreatDoorY18
import Derived.Test.YtppjphghlclklaaGreatDoorY0
import Derived.Test.YtppjphghlclklaaGreatDoorY1
import Derived.Test.YtppjphghlclklaaGreatDoorY3
import Derived.Test.YtppjphghlclklaaGreatDoorY11
import Derived.Laws.EntriesVeiled
set_option maxHeartbeats 8000000
set_option maxRecDepth 100000
section
namespace Go.Proofs.YtppjphghlclklaaGreatDoor.P
open Go.RowKit Go.Proofs.YtppjphghlclklaaGreatDoorW.PrintWords Go.Proofs.YtppjphghlclklaaGreatDoorW.PrintLast Go.Proofs.YtppjphghlclklaaGreatDoorW.PrintMore
theorem max2_max (k k' : IntKind) (x y : Int) : Builtin.max2 (.int k x) (.int k' y) = pure (.int k (max x y)) := by
 rw [max2_int]
 congr 2
 split <;> omega
attribute [local go_sem] max2_max min2_min max_two min_two max_three min_three max_four min_four
set_option linter.unusedVariables false
set_option linter.unusedSimpArgs false
def rdCells (pre l : List Int) : Nat → Nat → Int → List (List Int) × List Kid
 | 0, _, _ => ([], [])
 | k + 1, p, e =>
  if leftR l p e = 0 then ([], []) else
   ((pre ++ (takeR l (vR l p e).2.1 (vR l p e).2.2 (min (vR l p e).1 4092)).1) :: (rdCells pre l k (kidR l (takeR l (vR l p e).2.1 (vR l p e).2.2 (min (vR l p e).1 4092)).2.1 (takeR l (vR l p e).2.1 (vR l p e).2.2 (min (vR l p e).1 4092)).2.2).2.1 (kidR l (takeR l (vR l p e).2.1 (vR l p e).2.2 (min (vR l p e).1 4092)).2.1 (takeR l (vR l p e).2.1 (vR l p e).2.2 (min (vR l p e).1 4092)).2.2).2.2).1,
    (kidR l (takeR l (vR l p e).2.1 (vR l p e).2.2 (min (vR l p e).1 4092)).2.1 (takeR l (vR l p e).2.1 (vR l p e).2.2 (min (vR l p e).1 4092)).2.2).1 :: (rdCells pre l k (kidR l (takeR l (vR l p e).2.1 (vR l p e).2.2 (min (vR l p e).1 4092)).2.1 (takeR l (vR l p e).2.1 (vR l p e).2.2 (min (vR l p e).1 4092)).2.2).2.1 (kidR l (takeR l (vR l p e).2.1 (vR l p e).2.2 (min (vR l p e).1 4092)).2.1 (takeR l (vR l p e).2.1 (vR l p e).2.2 (min (vR l p e).1 4092)).2.2).2.2).2)
theorem rdCells_small (pre l : List Int) : ∀ (k p : Nat) (e : Int), (rdCells pre l k p e).1.length ≤ k ∧ (rdCells pre l k p e).2.length = (rdCells pre l k p e).1.length ∧ ∀ x ∈ (rdCells pre l k p e).1, x.length ≤ pre.length + l.length
 | 0, p, e => ⟨Nat.le_refl _, rfl, by simp [rdCells]⟩
 | k + 1, p, e => by
  unfold rdCells
  split
  · exact ⟨Nat.zero_le _, rfl, by simp⟩
  · obtain ⟨h1, h2, h3⟩ := rdCells_small pre l k (kidR l (takeR l (vR l p e).2.1 (vR l p e).2.2 (min (vR l p e).1 4092)).2.1 (takeR l (vR l p e).2.1 (vR l p e).2.2 (min (vR l p e).1 4092)).2.2).2.1 (kidR l (takeR l (vR l p e).2.1 (vR l p e).2.2 (min (vR l p e).1 4092)).2.1 (takeR l (vR l p e).2.1 (vR l p e).2.2 (min (vR l p e).1 4092)).2.2).2.2
    refine ⟨Nat.succ_le_succ h1, congrArg (· + 1) h2, fun x hx => ?_⟩
    rcases List.mem_cons.1 hx with rfl | hx
    · have := takeR_le' l (vR l p e).2.1 (vR l p e).2.2 (min (vR l p e).1 4092)
      rw [List.length_append]
      omega
    · exact h3 x hx
def branchHead (l : List Int) : Int × Nat × List Int × Kid × Nat × Int :=
 let a := getR 1 l 0 0
 let v := getR 1 l a.2.1 a.2.2
 let n := getR 2 l v.2.1 v.2.2
 let m := vR l n.2.1 n.2.2
 let b := takeR l m.2.1 m.2.2 (min m.1 4092)
 let s := takeR l b.2.1 b.2.2 (2 * max 0 (n.1 % 65536 - 1))
 let k := kidR l s.2.1 s.2.2
 (v.1 % 256, (max 0 (n.1 % 65536 - 1)).toNat, b.1, k.1, k.2.1, k.2.2)
def readBranchR (l : List Int) : Int × List (List Int) × List Kid :=
 ((branchHead l).1, (rdCells (branchHead l).2.2.1 l (branchHead l).2.1 (branchHead l).2.2.2.2.1 (branchHead l).2.2.2.2.2).1, (branchHead l).2.2.2.1 :: (rdCells (branchHead l).2.2.1 l (branchHead l).2.1 (branchHead l).2.2.2.2.1 (branchHead l).2.2.2.2.2).2)
def ReadPost (w : World) (r : Int × List (List Int) × List Kid) (e : Ending) (w' : World) : Prop := ∃ v1 v2, e = .returned (.tuple #[.int .i64 r.1, v1, v2]) ∧ Kd.R (Kd.slice 5 (Kd.int .u8)) 25 w' w.heap.size (fun _ => True) v1 r.2.1 ∧ Kd.R k82 82 w' w.heap.size (fun _ => True) v2 r.2.2 ∧ Below w.heap.size w w'
theorem lit_kid (W : World) (k : Kid) (ok : Nat → Prop) (hok : ok W.heap.size) : Kd.R k82 82 (W.alloc (.cells #[.int .i64 k.f0, .int .i64 k.f1] 82)) W.heap.size ok (.slice (some ⟨W.heap.size, 0, none⟩) 1 1) [k] := by
 refine ⟨fun j hj => ?_, [.int .i64 k.f0, .int .i64 k.f1], ?_, ?_⟩
 · have : W.heap.size = j := by simpa [Value.ownBlock] using hj
   exact this ▸ hok
 · have h2 := World.ownsRow_lit (base := W.heap.size) (e := 82) (size := 2) W #[.int .i64 k.f0, .int .i64 k.f1] 1 (Nat.le_refl _) (by decide) (by simp)
   exact h2
 · have h3 := Reps.snoc (p := k) (c := [.int .i64 k.f0, .int .i64 k.f1]) (Reps.none (k82.M (W.alloc (.cells #[.int .i64 k.f0, .int .i64 k.f1] 82)) W.heap.size (fun j => ok j ∧ some j ≠ (Value.slice (some ⟨W.heap.size, 0, none⟩) 1 1).ownBlock)) k82.sz) (k82_mkM _ _ _ k) rfl
   exact h3
theorem get8R (g : Nat) (l : List Int) (p : Nat) (er : Int) (w0 w : World) (hI : IsRd w0 w g l p er) (hB : Below w0.heap.size w0 w) :
 Calls Tryz.prog 188 #[.pointer (some ⟨g, 0, none⟩)] w (NumPost w0 w g l (.int .u8 ((getR 1 l p er).1 % 256)) (getR 1 l p er).2.1 (getR 1 l p er).2.2) := wire_Get_uint8.calls g l p er w0 w hI hB
theorem get16R (g : Nat) (l : List Int) (p : Nat) (er : Int) (w0 w : World) (hI : IsRd w0 w g l p er) (hB : Below w0.heap.size w0 w) :
 Calls Tryz.prog 166 #[.pointer (some ⟨g, 0, none⟩)] w (NumPost w0 w g l (.int .u16 ((getR 2 l p er).1 % 65536)) (getR 2 l p er).2.1 (getR 2 l p er).2.2) := by
 have h := wire_Get_uint16.calls g l p er w0 w hI hB
 rw [IntKind.wrap_u16] at h
 exact h
theorem branch_read.calls (A0 : Option Addr) (c0 : Nat) (l0 : List Int) (w : World) (hr0 : Kd.C (Kd.int .u8) w A0 l0.length l0) (hc0 : l0.length ≤ c0) (hl0 : l0.length = 4092) :
 Calls Tryz.prog 174 #[.slice A0 l0.length c0] w (ReadPost w (readBranchR l0)) := by
 obtain ⟨R, hR⟩ : ∃ R, readBranchR l0 = R := ⟨_, rfl⟩
 rw [hR]
 unfold readBranchR branchHead at hR
 obtain ⟨r1, h1⟩ : ∃ r, getR 1 l0 0 0 = r := ⟨_, rfl⟩
 obtain ⟨r2, h2⟩ : ∃ r, getR 1 l0 r1.2.1 r1.2.2 = r := ⟨_, rfl⟩
 obtain ⟨r3, h3⟩ : ∃ r, getR 2 l0 r2.2.1 r2.2.2 = r := ⟨_, rfl⟩
 obtain ⟨r4, h4⟩ : ∃ r, vR l0 r3.2.1 r3.2.2 = r := ⟨_, rfl⟩
 obtain ⟨m, hm⟩ : ∃ m, min r4.1 4092 = m := ⟨_, rfl⟩
 obtain ⟨r5, h5⟩ : ∃ r, takeR l0 r4.2.1 r4.2.2 m = r := ⟨_, rfl⟩
 obtain ⟨n, hn⟩ : ∃ n : Nat, max 0 (r3.1 % 65536 - 1) = (n : Int) := ⟨(max 0 (r3.1 % 65536 - 1)).toNat, by omega⟩
 obtain ⟨r6, h6⟩ : ∃ r, takeR l0 r5.2.1 r5.2.2 (2 * (n : Int)) = r := ⟨_, rfl⟩
 obtain ⟨r7, h7⟩ : ∃ r, kidR l0 r6.2.1 r6.2.2 = r := ⟨_, rfl⟩
 simp only [h1, h2, h3, h4, hm, h5, hn, h6, h7, Int.toNat_natCast] at hR
 have hr4 := vR_range l0 r3.2.1 r3.2.2
 rw [h4] at hr4
 have hm0 : 0 ≤ m := by omega
 have hm1 : m ≤ 4092 := by omega
 have hmw : IntKind.i64.wrap m = m := by rw [IntKind.wrap_i64]; omega
 have hn16 : n < 65536 := by omega
 have HX := Aside0.mk hR
 have H1 := Aside0.mk h1
 have H2 := Aside0.mk h2
 have H3 := Aside0.mk h3
 have H4 := Aside0.mk h4
 have H5 := Aside0.mk h5
 have H6 := Aside0.mk h6
 have H7 := Aside0.mk h7
 have HL := Aside0.mk hl0
 have HNN := Aside0.mk hn
 have HP5 : Aside0 (r5.1.length ≤ 4092) := ⟨by rw [← h5]; exact Nat.le_trans (takeR_le' _ _ _ _) (by omega)⟩
 have HNR := Aside0.mk (wire_NewReader.calls A0 c0 l0 w hr0 hc0 (by omega))
 clear hR h1 h2 h3 h4 h5 h6 h7 hr0 hc0 hl0 hr4 hn
 go_enter Tryz.func174, Tryz.ntmps174
 go_wp2_with fail
 refine HNR.out.mono ?_
 rintro e w1 ⟨g, wA, rfl, hb1, hI, hb2⟩
 have HWA := Aside0.mk hb1
 have HC := get8R g l0 0 0 wA w1 hI hb2
 rw [H1.out] at HC
 have HC := Aside0.mk HC
 clear hI hb1 hb2 HNR
 go_wp2_with fail
 refine HC.out.mono ?_
 rintro e w2 ⟨rfl, hI, hB, _⟩
 have HC2 := get8R g l0 r1.2.1 r1.2.2 wA w2 hI hB
 rw [H2.out] at HC2
 have HC2 := Aside0.mk HC2
 clear hI hB HC
 go_wp2_with fail
 refine HC2.out.mono ?_
 rintro e w3 ⟨rfl, hI, hB, _⟩
 have HC3 := get16R g l0 r2.2.1 r2.2.2 wA w3 hI hB
 rw [H3.out] at HC3
 have HC3 := Aside0.mk HC3
 have hlv0 : 0 ≤ r2.1 % 256 := by omega
 have hlv1 : r2.1 % 256 < 256 := by omega
 obtain ⟨lv, hlv⟩ : ∃ lv, r2.1 % 256 = lv := ⟨_, rfl⟩
 rw [hlv] at hlv0 hlv1 ⊢
 have HLV := Aside0.mk hlv
 clear hI hB HC2 hlv
 go_wp2_with fail
 refine HC3.out.mono ?_
 rintro e w4 ⟨rfl, hI, hB, _⟩
 obtain ⟨nn, hnn⟩ : ∃ nn, r3.1 % 65536 = nn := ⟨_, rfl⟩
 rw [hnn]
 have hNN := HNN.out
 rw [hnn] at hNN
 have hnn0 : 0 ≤ nn := by omega
 have hnn1 : nn < 65536 := by omega
 have HC4 := wire_V.calls g l0 r3.2.1 r3.2.2 wA w4 hI hB
 rw [H4.out] at HC4
 have HC4 := Aside0.mk HC4
 clear hI hB HC3 hnn
 go_wp2_with fail
 refine HC4.out.mono ?_
 rintro e w5 ⟨rfl, hI, hB, _⟩
 have HG5 := Aside0.mk hI.lt
 have HC5 := wire_Bytes.calls g l0 r4.2.1 r4.2.2 m wA w5 hI hB (by have := HL.out; omega)
 rw [H5.out] at HC5
 have HC5 := Aside0.mk HC5
 clear hI hB HC4
 go_wp2_with fail
 refine HC5.out.mono ?_
 rintro e w6 ⟨v6, rfl, hR6, hI, hB, hK⟩
 obtain ⟨Ap, cp, hvp, hlp, hCp⟩ := Kd.R_reads hR6
 subst hvp
 have HC6 := wire_Bytes.calls g l0 r5.2.1 r5.2.2 (2 * (n : Int)) wA w6 hI hB (by have := HL.out; omega)
 rw [H6.out] at HC6
 have HC6 := Aside0.mk HC6
 have HGL : Aside0 (g < w5.heap.size) := ⟨HG5.out⟩
 have HRP := Aside0.mk hR6
 clear hI hB HC5 hK hlp hCp hR6
 go_wp2_with fail
 refine HC6.out.mono ?_
 rintro e w7 ⟨v7, rfl, _, hI, hB, hK⟩
 have HRP7 := Aside0.mk (Kd.R_keep (Kd.R_mono (ok' := fun k => k ≠ g) (Kd.R_bound HRP.out) (fun k hk => by have := hk.2.1; have := HGL.out; omega)) hK (fun k h => h))
 have HC7 := branch_getKid.calls g l0 r6.2.1 r6.2.2 wA w7 hI hB
 rw [H7.out] at HC7
 have HC7 := Aside0.mk HC7
 clear hI hB hK HC6
 go_wp2_with fail
 refine HC7.out.mono ?_
 rintro e w8 ⟨rfl, hI, hB, hK⟩
 have HI8 := Aside0.mk hI
 have HB8 := Aside0.mk hB
 have HRP8 := Aside0.mk (Kd.R_keep HRP7.out hK (fun k h => h))
 clear hI hB hK HC7 HRP7
 go_upto_region 8 with (fail)
 have HK9 := Aside0.mk (lit_kid w8 r7.1 (fun k => k ≠ g) (by have := HI8.out.lt; omega))
 obtain ⟨w9, hw9⟩ : ∃ w9, w9 = w8.alloc (Obj.cells #[Value.int IntKind.i64 r7.1.f0, Value.int IntKind.i64 r7.1.f1] 82) := ⟨_, rfl⟩
 rw [← hw9] at HK9 ⊢
 have HI9 : Aside0 (IsRd wA w9 g l0 r7.2.1 r7.2.2) := ⟨by rw [hw9]; exact HI8.out.alloc _⟩
 have HB9 : Aside0 (Below wA.heap.size wA w9) := ⟨by rw [hw9]; exact below_alloc HB8.out _⟩
 have HKB : Aside0 (KeepBut w8 w9 g none) := ⟨by rw [hw9]; exact keep_alloc (KeepBut.refl w8 g none) _⟩
 obtain ⟨v9, hv9⟩ : ∃ v9, v9 = Value.slice (some ⟨w8.heap.size, 0, none⟩) 1 1 := ⟨_, rfl⟩
 rw [← hv9] at HK9 ⊢
 obtain ⟨LL, hLL⟩ : ∃ LL, rdCells r5.1 l0 n r7.2.1 r7.2.2 = LL := ⟨_, rfl⟩
 have hX := HX.out
 rw [hLL] at hX
 clear HX
 have HX := Aside0.mk hX
 have HLL := Aside0.mk hLL
 have HAS := Aside0.mk HB8.out.size
 clear hX hLL hw9 hv9 HB8
 go_wp2_with fail
 go_loopg [9, 10, 40] n (fun kq v9 v10 v40 w' => ∃ (i : Nat) (xs : List (List Int)) (ks : List Kid) (p : Nat) (er : Int), v40 = .int .i64 i ∧ i + kq = n ∧ Aside0 (xs ++ (rdCells r5.1 l0 kq p er).1 = LL.1 ∧ ks ++ (rdCells r5.1 l0 kq p er).2 = r7.1 :: LL.2 ∧ xs.length = i ∧ ks.length = i + 1) ∧ Aside0 (IsRd wA w' g l0 p er) ∧ Aside0 (Below wA.heap.size wA w') ∧ Aside0 (Kd.R k82 82 w' w8.heap.size (fun k => k ≠ g) v9 ks) ∧ Aside0 (Kd.R (Kd.slice 5 (Kd.int .u8)) 25 w' w8.heap.size (fun k => k ≠ g) v10 xs) ∧ Aside0 (KeepBut w8 w' g none))
 case atStart => exact ⟨0, [], [r7.1], r7.2.1, r7.2.2, rfl, by omega, ⟨by rw [HLL.out]; rfl, by rw [HLL.out]; rfl, rfl, rfl⟩, HI9, HB9, HK9, ⟨Kd.R_nil _ _ _ _ _⟩, HKB⟩
 case round =>
  clear HI9 HB9 HK9 HKB
  obtain ⟨i, xs, ks, p, er, rfl, hk, HLX, HI, HBA, HV9, HV10, HK⟩ := hrel
  cases gk with
  | zero =>
   obtain rfl : i = n := by omega
   have cd1 : decide ((i : Int) < (i : Int)) = false := decide_eq_false (by omega)
   have cd2 : decide (i < i) = false := decide_eq_false (by omega)
   have hx1 : xs = LL.1 := by rw [← HLX.out.1]; simp [rdCells]
   have hx2 : ks = r7.1 :: LL.2 := by rw [← HLX.out.2.1]; simp [rdCells]
   have hR := HX.out
   rw [← hx1, ← hx2, HLV.out] at hR
   subst hR
   have HBW := Aside0.mk (below_then HWA.out HWA.out.size HBA.out)
   have HS8 := Aside0.mk (Nat.le_trans HWA.out.size HAS.out)
   clear hk hx1 hx2
   go_wp2
   go_ret3
   exact ⟨_, _, rfl, Kd.R_lower (Kd.R_mono HV10.out (fun _ _ => trivial)) HS8.out, Kd.R_lower (Kd.R_mono HV9.out (fun _ _ => trivial)) HS8.out, HBW.out⟩
  | succ d =>
   have cd1 : decide ((i : Int) < (n : Int)) = true := decide_eq_true (by omega)
   have cd2 : decide (i < n) = true := decide_eq_true (by omega)
   have hin : i < n := by omega
   have HLF := Aside0.mk (wire_Left.calls g l0 p er wA wr HI.out)
   obtain ⟨lf, hlf⟩ : ∃ lf, leftR l0 p er = lf := ⟨_, rfl⟩
   rw [hlf] at HLF
   have hlx := HLX.out
   unfold rdCells at hlx
   rw [hlf] at hlx
   have HKI := Aside0.mk hk
   by_cases cl : lf = 0
   · subst cl
     rw [if_pos rfl] at hlx
     have hx1 : xs = LL.1 := by rw [← hlx.1]; simp
     have hx2 : ks = r7.1 :: LL.2 := by rw [← hlx.2.1]; simp
     have hR := HX.out
     rw [← hx1, ← hx2, HLV.out] at hR
     subst hR
     have HBW := Aside0.mk (below_then HWA.out HWA.out.size HBA.out)
     have HS8 := Aside0.mk (Nat.le_trans HWA.out.size HAS.out)
     clear hk hx1 hx2 hlx hlf
     go_wp2_with fail
     refine HLF.out.mono ?_
     rintro e w10 ⟨rfl, nd, rfl⟩
     clear HLF
     go_wp2
     go_ret3
     exact ⟨_, _, rfl, Kd.R_drewN (Kd.R_lower (Kd.R_mono HV10.out (fun _ _ => trivial)) HS8.out) _, Kd.R_drewN (Kd.R_lower (Kd.R_mono HV9.out (fun _ _ => trivial)) HS8.out) _, pw_below_drewN HBW.out _⟩
   · rw [if_neg cl] at hlx
     have HLY := Aside0.mk hlx
     have dl : (lf == 0) = false := beq_eq_false_iff_ne.mpr cl
     clear hk hlx hlf cl
     go_wp2_with fail
     refine HLF.out.mono ?_
     rintro e w10 ⟨rfl, nd, rfl⟩
     clear HLF
     obtain ⟨wR, hwR⟩ : ∃ wR, wR = wr.drewN nd := ⟨_, rfl⟩
     rw [← hwR]
     have HIR : Aside0 (IsRd wA wR g l0 p er) := ⟨by rw [hwR]; exact HI.out.drewN nd⟩
     have HBR : Aside0 (Below wA.heap.size wA wR) := ⟨by rw [hwR]; exact pw_below_drewN HBA.out nd⟩
     have HV9R : Aside0 (Kd.R k82 82 wR w8.heap.size (fun k => k ≠ g) u9 ks) := ⟨by rw [hwR]; exact Kd.R_drewN HV9.out nd⟩
     have HV10R : Aside0 (Kd.R (Kd.slice 5 (Kd.int .u8)) 25 wR w8.heap.size (fun k => k ≠ g) u10 xs) := ⟨by rw [hwR]; exact Kd.R_drewN HV10.out nd⟩
     have HKR : Aside0 (KeepBut w8 wR g none) := ⟨by rw [hwR]; exact keep_drewN HK.out nd⟩
     obtain ⟨_, _, hvP, hlP, hCP⟩ := Kd.R_reads (Kd.R_keep HRP8.out HKR.out (fun k h => h))
     injection hvP with hva hvb hvc
     subst hva hvc
     have HCP := Aside0.mk hCP
     have HGR := Aside0.mk HIR.out.lt
     clear hwR HI HBA HV9 HV10 HK hvb hlP hCP
     go_upto_region 13 with (first
      | ((with_reducible refine gate_dst (N := 47) rfl ?_); refine Kd.R_make0 (Kd.int .u8) (w0 := wR) wR.heap.size 5 rfl (N := 47) rfl 25 _ _ rfl (r5.1.length : Int) rfl rfl Tryz.underlying25 (.int .u8 0) 1 info5 rfl (by decide) (by decide) 0 (ok := fun k => k ≠ g) (okp := fun _ => False) trivial (fun _ h => h.elim) (by have := HGR.out; omega) (by omega) (by have := HP5.out; omega) (Below.refl _ _) (Nat.le_refl _) ?_; intro v11 w11 ho hb hg _; have HR11 := Aside0.mk ho; have HB11 := Aside0.mk hb; have HC11 := Aside0.mk (Kd.C_below HCP.out hb); clear ho hb hg)
      | ((with_reducible refine gate_builtin (b := .append) (xs := #[.tmp 47, .tmp 48]) rfl ?_); at_builtin; refine Kd.R_append_rows (Kd.int .u8) (w0 := wR) wR.heap.size rfl (.tmp 47) (.tmp 48) 25 5 (.int .u8 0) 1 rfl Tryz.underlying25 info5 rfl (by decide) (by omega) v11 [] r5.1 Ap r5.1.length cp (fun k => k ≠ g) (fun _ => False) rfl rfl HR11.out HC11.out (fun _ _ h => h) (fun _ h => h.elim) (fun k hk => by have := HGR.out; have := HB11.out.size; omega) HB11.out HB11.out.size (by have := HP5.out; simp; omega) ?_; intro v12 w12 ho hb hg hat; rw [List.nil_append] at ho; have HR12 := Aside0.mk ho; have HB12 := Aside0.mk hb; clear ho hb hg hat HR11 HB11 HC11))
     obtain ⟨a1, ha1⟩ : ∃ a1, vR l0 p er = a1 := ⟨_, rfl⟩
     obtain ⟨mm, hmm⟩ : ∃ mm, min a1.1 4092 = mm := ⟨_, rfl⟩
     obtain ⟨a2, ha2⟩ : ∃ a2, takeR l0 a1.2.1 a1.2.2 mm = a2 := ⟨_, rfl⟩
     obtain ⟨a3, ha3⟩ : ∃ a3, kidR l0 a2.2.1 a2.2.2 = a3 := ⟨_, rfl⟩
     have hly := HLY.out
     simp only [ha1, hmm, ha2, ha3] at hly
     clear HLY
     have HLY := Aside0.mk hly
     have hra := vR_range l0 p er
     rw [ha1] at hra
     have hmm0 : 0 ≤ mm := by omega
     have hmm1 : mm ≤ 4092 := by omega
     have hmmw : IntKind.i64.wrap mm = mm := by rw [IntKind.wrap_i64]; omega
     have HV := wire_V.calls g l0 p er wA w12 (HIR.out.below HB12.out) (below_then HBR.out HBR.out.size HB12.out)
     rw [ha1] at HV
     have HV := Aside0.mk HV
     have HA2 := Aside0.mk ha2
     have HA3 := Aside0.mk ha3
     have HBL : Aside0 (a2.1.length ≤ 4092) := ⟨by rw [← ha2]; exact Nat.le_trans (takeR_le' _ _ _ _) (by have := HL.out; omega)⟩
     clear hly hra ha1 ha2 ha3
     refine HV.out.mono ?_
     rintro e w13 ⟨rfl, hI, hB, hK⟩
     have HR13 := Aside0.mk (Kd.R_keep HR12.out hK (fun k h => h))
     have HY := wire_Bytes.calls g l0 a1.2.1 a1.2.2 mm wA w13 hI hB (by have := HL.out; omega)
     rw [HA2.out] at HY
     have HY := Aside0.mk HY
     have HK13 := Aside0.mk (KeepBut.trans (KeepBut.of_below HB12.out g none) hK (.inl rfl))
     clear hI hB hK HV
     go_wp2_with fail
     refine HY.out.mono ?_
     rintro e w14 ⟨v14, rfl, hR14, hI, hB, hK⟩
     obtain ⟨A14, c14, hv14, hl14, hC14⟩ := Kd.R_reads hR14
     subst hv14
     have HC14 := Aside0.mk hC14
     have HR14 := Aside0.mk (Kd.R_keep HR13.out hK (fun k h => h))
     have HI14 := Aside0.mk hI
     have HB14 := Aside0.mk hB
     have HK14 := Aside0.mk (KeepBut.trans HK13.out hK (.inl rfl))
     clear hR14 hI hB hK HY hl14 hC14 HK13 HR13
     have HO10 : Aside0 (∀ k, u10.ownBlock = some k → k ≠ g ∧ w8.heap.size ≤ k ∧ k < wR.heap.size) := ⟨fun k hk => by have h := (Kd.R_bound HV10R.out).1 k hk; exact ⟨h.1, h.2.1, h.2.2.1⟩⟩
     have HO9 : Aside0 (∀ k, u9.ownBlock = some k → k ≠ g ∧ w8.heap.size ≤ k) := ⟨fun k hk => by have h := (Kd.R_bound HV9R.out).1 k hk; exact ⟨h.1, h.2.1⟩⟩
     have HOB : Aside0 (∀ k, v12.ownBlock = some k → k ≠ g ∧ wR.heap.size ≤ k) := ⟨fun k hk => by have h := (Kd.R_bound HR14.out).1 k hk; exact ⟨h.1, h.2.1⟩⟩
     obtain ⟨sep, hsep⟩ : ∃ sep, r5.1 ++ a2.1 = sep := ⟨_, rfl⟩
     have HSEP := Aside0.mk hsep
     clear hsep
     have HXL : Aside0 (xs.length < n) := ⟨by have h1 := HLX.out.2.2.1; have h2 := HKI.out; omega⟩
     go_upto_region 13 with (first
      | ((with_reducible refine gate_builtin (b := .append) (xs := #[.tmp 49, .tmp 55]) rfl ?_); at_builtin; refine Kd.R_append_rows (Kd.int .u8) (w0 := w14) wR.heap.size rfl (.tmp 49) (.tmp 55) 25 5 (.int .u8 0) 1 rfl Tryz.underlying25 info5 rfl (by decide) (by omega) v12 r5.1 a2.1 A14 a2.1.length c14 (fun k => k ≠ g) (fun _ => False) rfl rfl HR14.out HC14.out (fun _ _ h => h) (fun _ h => h.elim) (fun k hk => by have := HI14.out.lt; omega) (Below.refl _ _) HK14.out.1 (by have := HP5.out; have := HBL.out; omega) ?_; intro v15 w15 ho hb hg hat; rw [HSEP.out] at ho; obtain ⟨A15, c15, hv15, _, _⟩ := Kd.R_reads ho; subst hv15; have HR15 := Aside0.mk ho; have HG15 := Aside0.mk hg; clear ho hb hg hat))
     have HI15 := Aside0.mk (HI14.out.grown HG15.out (fun e => (HOB.out g e.symm).1 rfl))
     have HB15 := Aside0.mk (HB14.out.grown HG15.out HB14.out.size (fun k hk => by have h1 := (HOB.out k hk).2; have := HBR.out.size; omega))
     have HK15 : Aside0 (KeepBut wR w15 g none) := ⟨by
      refine ⟨Nat.le_trans HK14.out.1 HG15.out.size, fun j hj hne hr => (HG15.out.block j (Nat.lt_of_lt_of_le hj HK14.out.1) (fun e => ?_)).trans (HK14.out.2 j hj hne hr)⟩
      have h1 := (HOB.out j e.symm).2
      omega⟩
     have HV9N := Aside0.mk (Kd.R_keep HV9R.out HK15.out (fun k h => h))
     have HV10N := Aside0.mk (Kd.R_keep HV10R.out HK15.out (fun k h => h))
     clear HR14 HC14 HB14 HI14 HK14 HG15 HV9R HV10R HR12 HB12
     have HM := Aside0.mk (show (Kd.slice 5 (Kd.int .u8)).M w15 w8.heap.size (fun k => k ≠ g ∧ wR.heap.size ≤ k) sep [.slice A15 sep.length c15] from ⟨_, rfl, Kd.R_lower (Kd.R_mono (ok' := fun k => k ≠ g ∧ wR.heap.size ≤ k) (Kd.R_bound HR15.out) (fun k hk => ⟨hk.1, hk.2.1⟩)) HKR.out.1⟩)
     have HGT := Aside0.mk HI15.out.lt
     go_upto_region 14 with (first
      | ((with_reducible refine gate_builtin (b := .append) (xs := #[.tmp 57, .tmp 59]) rfl ?_); at_builtin; refine Kd.R_append (Kd.slice 5 (Kd.int .u8)) (w0 := w15) w8.heap.size rfl (.tmp 57) (.tmp 59) 23 25 (.slice none 0 0) 24 rfl Tryz.underlying23 info25 rfl (by decide) (by omega) u10 xs sep [.slice A15 sep.length c15] (fun k => k ≠ g) (fun k => k ≠ g ∧ wR.heap.size ≤ k) rfl rfl HM.out (fun k hk => ⟨hk.1, fun e => by have := HO10.out k e.symm; have := hk.2; omega⟩) (fun k hk => by have := HGT.out; omega) HV10N.out (Below.refl _ _) (Nat.le_trans HKR.out.1 HK15.out.1) (by have := HXL.out; omega) ?_; intro v16 w16 ho hb hg hat; have HV16 := Aside0.mk ho; have HG16 := Aside0.mk hg; clear ho hb hg hat))
     have HI16 := HI15.out.grown HG16.out (fun e => (HO10.out g e.symm).1 rfl)
     have HB16 := HB15.out.grown HG16.out HB15.out.size (fun k hk => by have h1 := (HO10.out k hk).2.1; have := HAS.out; omega)
     have HV9M := Kd.R_over' HV9N.out (Kd.R_typed HV10N.out) (by decide) HG16.out
     have hK8 : KeepBut w8 w15 g none := KeepBut.trans HKR.out HK15.out (.inl rfl)
     have HK16 : KeepBut w8 w16 g none := by
      refine ⟨Nat.le_trans hK8.1 HG16.out.size, fun j hj hne hr => (HG16.out.block j (Nat.lt_of_lt_of_le hj hK8.1) (fun e => ?_)).trans (hK8.2 j hj hne hr)⟩
      have h1 := (HO10.out j e.symm).2.1
      omega
     have HY := branch_getKid.calls g l0 a2.2.1 a2.2.2 wA w16 HI16 HB16
     rw [HA3.out] at HY
     have HY := Aside0.mk HY
     have HV9M := Aside0.mk HV9M
     have HK16 := Aside0.mk HK16
     clear HI16 HB16 hK8 HI15 HB15 HV9N HV10N HK15 HG16 HM HR15 HGT
     go_wp2_with fail
     refine HY.out.mono ?_
     rintro e w17 ⟨rfl, hI, hB, hK⟩
     have HV9K := Aside0.mk (Kd.R_keep HV9M.out hK (fun k h => h))
     have HV16K := Aside0.mk (Kd.R_keep HV16.out hK (fun k h => h))
     have HI17 := Aside0.mk hI
     have HB17 := Aside0.mk hB
     have HK17 := Aside0.mk (KeepBut.trans HK16.out hK (.inl rfl))
     have hkl : ks.length = i + 1 := HLX.out.2.2.2
     have HKL := Aside0.mk hkl
     clear hI hB hK HY HV9M HV16 HK16 hkl
     go_upto_region 15 with (first
      | ((with_reducible refine gate_builtin (b := .append) (xs := #[.tmp 61, .tmp 64]) rfl ?_); at_builtin; refine Kd.R_append k82 (w0 := w17) w8.heap.size rfl (.tmp 61) (.tmp 64) 24 82 (.agg #[(.int .i64 0), (.int .i64 0)]) 16 rfl Tryz.underlying24 info82 rfl (by decide) (by omega) u9 ks a3.1 [.int .i64 a3.1.f0, .int .i64 a3.1.f1] (fun k => k ≠ g) (fun _ => False) rfl rfl (k82_mkM _ _ _ a3.1) (fun _ h => h.elim) (fun k hk => by have := HI17.out.lt; omega) HV9K.out (Below.refl _ _) HK17.out.1 (by have := HKL.out; have := HXL.out; have := HLX.out.2.2.1; omega) ?_; intro v18 w18 ho hb hg hat; have HV18 := Aside0.mk ho; have HG18 := Aside0.mk hg; clear ho hb hg hat))
     have HV16F := Kd.R_over' HV16K.out (Kd.R_typed HV9K.out) (by decide) HG18.out
     have HI18 := HI17.out.grown HG18.out (fun e => (HO9.out g e.symm).1 rfl)
     have HB18 := HB17.out.grown HG18.out HB17.out.size (fun k hk => by have h1 := (HO9.out k hk).2; have := HAS.out; omega)
     have HK18 : KeepBut w8 w18 g none := by
      refine ⟨Nat.le_trans HK17.out.1 HG18.out.size, fun j hj hne hr => (HG18.out.block j (Nat.lt_of_lt_of_le hj HK17.out.1) (fun e => ?_)).trans (HK17.out.2 j hj hne hr)⟩
      have h1 := (HO9.out j e.symm).2
      omega
     have HF := Aside0.mk (And.intro HV16F (And.intro HI18 (And.intro HB18 HK18)))
     clear HV16F HI18 HB18 HK18 HG18
     go_wp2
     go_roundg d
     case measure => omega
     case rel =>
      have hly := HLY.out
      rw [HSEP.out] at hly
      exact ⟨i + 1, xs ++ [sep], ks ++ [a3.1], a3.2.1, a3.2.2, congrArg (Value.int .i64) (by omega), by have := HKI.out; omega, ⟨by rw [← hly.1]; simp, by rw [← hly.2.1]; simp, by rw [List.length_append, hly.2.2.1]; rfl, by rw [List.length_append, hly.2.2.2]; rfl⟩, ⟨HF.out.2.1⟩, ⟨HF.out.2.2.1⟩, HV18, ⟨HF.out.1⟩, ⟨HF.out.2.2.2⟩⟩
end Go.Proofs.YtppjphghlclklaaGreatDoor.P
end
section
namespace Go.Proofs.YtppjphghlclklaaGreatDoor.P
open Go.RowKit Go.Proofs.YtppjphghlclklaaGreatDoorW.PrintWords Go.Proofs.YtppjphghlclklaaGreatDoorW.PrintLast Go.Proofs.YtppjphghlclklaaGreatDoorW.PrintMore
attribute [local go_sem] max2_max min2_min max_two min_two max_three min_three max_four min_four
set_option linter.unusedVariables false
set_option linter.unusedSimpArgs false
structure BrD where
 lv : Int
 seps : List (List Int)
 kids : List Kid
 err : Int
def decBranchR (l : List Int) : BrD :=
 if l.length = 4092 then
  (if (encBranchR (readBranchR l).1 (readBranchR l).2.1 (readBranchR l).2.2).2 = 0 then (if eqStr (encBranchR (readBranchR l).1 (readBranchR l).2.1 (readBranchR l).2.2).1 l = true then ⟨(readBranchR l).1, (readBranchR l).2.1, (readBranchR l).2.2, 0⟩ else ⟨0, [], [], 50⟩) else ⟨0, [], [], 50⟩)
 else ⟨0, [], [], 50⟩
def BrPost (w : World) (r : BrD) (e : Ending) (w' : World) : Prop := ∃ v1 v2, e = .returned (.tuple #[.int .i64 r.lv, v1, v2, .int .i64 r.err]) ∧ Kd.R (Kd.slice 5 (Kd.int .u8)) 25 w' w.heap.size (fun _ => True) v1 r.seps ∧ Kd.R k82 82 w' w.heap.size (fun _ => True) v2 r.kids ∧ Below w.heap.size w w'
theorem results_tmp4' {fn : Func} {t u v x : Tmp} (h : fn.results = #[.tmp t, .tmp u, .tmp v, .tmp x]) (tmps : Array Value) (P : Program) (w : World) :
 (results fn tmps).run P w = .ok (.tuple #[tmps.getD t undef, tmps.getD u undef, tmps.getD v undef, tmps.getD x undef]) w := by
 simp [results, h]
theorem R_at {α : Type} {d : Kd α} {e base : Nat} {ok : Nat → Prop} {W : World} {v : Value} {xs : List α} (h : d.R e W base ok v xs) (hl : 0 < xs.length) : ∃ g cap, v = .slice (some ⟨g, 0, none⟩) xs.length cap ∧ g < W.heap.size ∧ base ≤ g := by
 obtain ⟨_, inner, hown, hr⟩ := h
 rcases hown.2 with ⟨_, hn⟩ | ⟨g, cap, cur, hv, hb, hh, _⟩
 · omega
 · refine ⟨g, cap, hv, ?_, hb⟩
   rcases Nat.lt_or_ge g W.heap.size with h1 | h1
   · exact h1
   · rw [Array.getElem?_eq_none h1] at hh; cases hh
theorem branch_Decode.calls (A0 : Option Addr) (c0 : Nat) (l0 : List Int) (w : World) (hr0 : Kd.C (Kd.int .u8) w A0 l0.length l0) (hc0 : l0.length ≤ c0) :
 Calls Tryz.prog 74 #[.slice A0 l0.length c0] w (BrPost w (decBranchR l0)) := by
 obtain ⟨R, hR⟩ : ∃ R, decBranchR l0 = R := ⟨_, rfl⟩
 rw [hR]
 unfold decBranchR at hR
 have HR := Aside0.mk hR
 clear hR
 by_cases c : l0.length = 4092
 · have d1 : ((l0.length : Int) == 4092) = true := beq_iff_eq.mpr (by omega)
   have d2 : ((l0.length : Int) != 4092) = false := bne_eq_false_iff_eq.mpr (by omega)
   have hX := HR.out
   rw [if_pos c] at hX
   have HRD := Aside0.mk (branch_read.calls A0 c0 l0 w hr0 hc0 c)
   obtain ⟨r, hr⟩ : ∃ r, readBranchR l0 = r := ⟨_, rfl⟩
   have hsm : SmallB r.2.1 ∧ r.2.2.length ≤ 70001 := by
    rw [← hr]
    obtain ⟨h1, h2, h3⟩ := rdCells_small (branchHead l0).2.2.1 l0 (branchHead l0).2.1 (branchHead l0).2.2.2.2.1 (branchHead l0).2.2.2.2.2
    have hn : (branchHead l0).2.1 ≤ 65535 := by simp only [branchHead]; omega
    have hp : (branchHead l0).2.2.1.length ≤ l0.length := takeR_le' _ _ _ _
    refine ⟨⟨Nat.le_trans h1 (by omega), fun x hx => Nat.le_trans (h3 x hx) (by omega)⟩, ?_⟩
    show (_ :: (rdCells _ _ _ _ _).2).length ≤ 70001
    rw [List.length_cons, h2]
    omega
   rw [hr] at hX HRD
   have HX := Aside0.mk hX
   have HL := Aside0.mk c
   have HR0 := Aside0.mk (And.intro hc0 hr0)
   have HSM := Aside0.mk hsm
   clear hX HR hr0 hc0 c hr hsm
   go_enter Tryz.func74, Tryz.ntmps74
   go_wp2_with fail
   refine HRD.out.mono ?_
   rintro e w1 ⟨v1, v2, rfl, hR1, hR2, hB⟩
   obtain ⟨A1, c1, hv1, hl1, hC1⟩ := Kd.R_reads hR1
   subst hv1
   obtain ⟨A2, c2, hv2, hl2, hC2⟩ := Kd.R_reads hR2
   subst hv2
   have HEN := Aside0.mk (branch_Encode.calls r.1 A1 c1 r.2.1 A2 c2 r.2.2 w1 hC1 hl1 hC2 hl2 HSM.out.1 HSM.out.2)
   have HR1 := Aside0.mk hR1
   have HR2 := Aside0.mk hR2
   have HB1 := Aside0.mk hB
   obtain ⟨E, hE⟩ : ∃ E, encBranchR r.1 r.2.1 r.2.2 = E := ⟨_, rfl⟩
   rw [hE] at HEN
   have hX := HX.out
   simp only [hE] at hX
   clear HX
   have HX := Aside0.mk hX
   clear hR1 hR2 hB hl1 hC1 hl2 hC2 HRD hE hX
   go_wp2_with fail
   refine HEN.out.mono ?_
   rintro e w2 ⟨v3, rfl, hR3, hB2⟩
   obtain ⟨E1, e7⟩ := E
   have hX := HX.out
   simp only at hX hR3 ⊢
   obtain ⟨A3, c3, hv3, hl3, hC3⟩ := Kd.R_reads hR3
   subst hv3
   have HBW := Aside0.mk (below_step HB1.out hB2)
   have HS1 := Aside0.mk (Kd.R_below HR1.out hB2)
   have HS2 := Aside0.mk (Kd.R_below HR2.out hB2)
   obtain ⟨bq, hbq⟩ : ∃ bq, eqStr E1 l0 = bq := ⟨_, rfl⟩
   have HEQ := bytes_Equal.calls A3 c3 E1 A0 c0 l0 (eqStr E1 l0) w2 hC3 hl3 (Kd.C_below HR0.out.2 HBW.out) HR0.out.1 rfl
   rw [hbq] at HEQ
   have HEQ := Aside0.mk HEQ
   rw [hbq] at hX
   clear hR3 hB2 hl3 hC3 HR1 HR2 HB1 HEN hbq HX
   by_cases ce : e7 = 0
   · subst ce
     rw [if_pos rfl] at hX
     have HX := Aside0.mk hX
     clear hX
     go_wp2_with fail
     refine HEQ.out.mono ?_
     rintro e w3 ⟨rfl, nd, rfl⟩
     clear HEQ
     cases bq with
     | false =>
      obtain rfl : (⟨0, [], [], 50⟩ : BrD) = R := by rw [← HX.out]; rfl
      go_wp2
      (try simp only [Exit.inBlock, Exit.then])
      refine bodyPost_ret (results_tmp4' rfl _ _ _) rfl ?_
      exact ⟨_, _, rfl, Kd.R_nil _ _ _ _ _, Kd.R_nil _ _ _ _ _, pw_below_drewN HBW.out _⟩
     | true =>
      obtain rfl : (⟨r.1, r.2.1, r.2.2, 0⟩ : BrD) = R := by rw [← HX.out]; rfl
      go_upto_region 7 with (fail)
      have HS3 := Aside0.mk (Kd.R_drewN HS1.out nd)
      have HK3 := Aside0.mk (Kd.R_drewN HS2.out nd)
      have HB3 := Aside0.mk (pw_below_drewN HBW.out nd)
      obtain ⟨wb, hwb⟩ : ∃ wb, w2.drewN nd = wb := ⟨_, rfl⟩
      rw [hwb] at HS3 HK3 HB3 ⊢
      clear hwb HS1 HS2 HBW HX HL HR0
      obtain ⟨n, hn⟩ : ∃ n, r.2.1.length = n := ⟨_, rfl⟩
      have hn7 : n ≤ 70000 := by have := HSM.out.1.1; omega
      rw [hn] at HS3 ⊢
      have HNX := Aside0.mk hn
      clear hn
      go_wp2_with fail
      go_loopg [39] n (fun kq v39 w' => ∃ (i : Nat), v39 = .int .i64 i ∧ i + kq = n ∧ Aside0 (Kd.R (Kd.slice 5 (Kd.int .u8)) 25 w' w.heap.size (fun _ => True) (.slice A1 n c1) r.2.1) ∧ Aside0 (Kd.R k82 82 w' w.heap.size (fun _ => True) (.slice A2 r.2.2.length c2) r.2.2) ∧ Aside0 (Below w.heap.size w w'))
      case atStart => exact ⟨0, rfl, by omega, HS3, HK3, HB3⟩
      case round =>
       clear HS3 HK3 HB3
       obtain ⟨i, rfl, hk, HS, HK, HB⟩ := hrel
       cases gk with
       | zero =>
        obtain rfl : i = n := by omega
        have cd1 : decide ((i : Int) < (i : Int)) = false := decide_eq_false (by omega)
        have cd2 : decide (i < i) = false := decide_eq_false (by omega)
        go_wp2
        (try simp only [Exit.inBlock, Exit.then])
        refine bodyPost_ret (results_tmp4' rfl _ _ _) rfl ?_
        exact ⟨_, _, rfl, HS.out, HK.out, HB.out⟩
       | succ d =>
        have hin : i < n := by omega
        have cd1 : decide ((i : Int) < (n : Int)) = true := decide_eq_true (by omega)
        have cd2 : decide (i < n) = true := decide_eq_true hin
        obtain ⟨g, cap, hv, hgl, hgb⟩ := R_at HS.out (by rw [HNX.out]; omega)
        obtain ⟨_, _, hve, _, hCS⟩ := Kd.R_reads HS.out
        injection hv with hva hvb hvc
        injection hve with hea heb hec
        subst hva hvc
        rw [← hea] at hCS
        obtain ⟨ad, As, cs, had, y0, hls, hCs⟩ := at_L1 hCS (i : Int) (by omega) (by rw [HNX.out]; omega)
        injection had with had
        subst had
        rw [Int.toNat_natCast, add_at, Nat.zero_add] at y0
        obtain ⟨row, hrow⟩ : ∃ row, row = rd_L1 r.2.1 (i : Int) := ⟨_, rfl⟩
        rw [← hrow] at y0 hls hCs
        have hrx : row = r.2.1[i]'(by rw [HNX.out]; exact hin) := hrow.trans (rd_list _ _ _)
        have hrl : row.length ≤ 1000000 := by rw [hrx]; exact HSM.out.1.2 _ (List.getElem_mem _)
        have HRX := Aside0.mk (show r.2.1.set i row = r.2.1 by rw [hrx]; exact List.set_getElem_self _)
        have HC := Aside0.mk hCs
        have HGL := Aside0.mk hgl
        have HGB := Aside0.mk hgb
        have HI := Aside0.mk hin
        have HSZ : Aside0 ((Tryz.prog.info? 25).map (·.size) = some 1) := ⟨by obtain ⟨i0, hi0, _, hsz, _⟩ := info_parts info25; rw [hi0]; exact congrArg some hsz⟩
        clear hCS hCs hgl hgb hvb hea heb hec hrow hrx
        go_upto_region 11 with (first
         | ((with_reducible refine gate_dst (N := 48) rfl ?_); refine Kd.R_make0 (Kd.int .u8) (w0 := wr) wr.heap.size 5 rfl (N := 48) rfl 25 _ _ rfl (row.length : Int) rfl rfl Tryz.underlying25 (.int .u8 0) 1 info5 rfl (by decide) (by decide) 0 (ok := fun _ => True) (okp := fun _ => False) trivial (fun _ h => h.elim) trivial (by omega) (by omega) (Below.refl _ _) (Nat.le_refl _) ?_; intro v11 w11 ho hb hg _; have HR11 := Aside0.mk ho; have HB11 := Aside0.mk hb; have HC11 := Aside0.mk (Kd.C_below HC.out hb); clear ho hb hg)
         | ((with_reducible refine gate_builtin (b := .append) (xs := #[.tmp 48, .tmp 49]) rfl ?_); at_builtin; refine Kd.R_append_rows (Kd.int .u8) (w0 := wr) wr.heap.size rfl (.tmp 48) (.tmp 49) 25 5 (.int .u8 0) 1 rfl Tryz.underlying25 info5 rfl (by decide) (by omega) v11 [] row As row.length cs (fun _ => True) (fun _ => False) rfl rfl HR11.out HC11.out (fun _ _ h => h) (fun _ h => h.elim) (fun k hk => trivial) HB11.out HB11.out.size (by simp; omega) ?_; intro v12 w12 ho hb hg hat; rw [List.nil_append] at ho; obtain ⟨A12, c12, hv12, _, _⟩ := Kd.R_reads ho; subst hv12; have HR12 := Aside0.mk ho; have HB12 := Aside0.mk hb; have HS12 := Aside0.mk (Kd.R_below HS.out hb); have HK12 := Aside0.mk (Kd.R_below HK.out hb); have HW12 := Aside0.mk (below_then HB.out HB.out.size hb); obtain ⟨c, hcl, _, hcc, hfr⟩ := Kd.R_elem HS12.out [] (i : Int) (by omega) (by have := HI.out; omega); have HCL := Aside0.mk hcl; have HCC := Aside0.mk hcc; have HM := Aside0.mk (show (Kd.slice 5 (Kd.int .u8)).M w12 w.heap.size (fun k => wr.heap.size ≤ k) row (c.take 0 ++ [.slice A12 row.length c12] ++ c.drop (0 + 1)) from by rw [List.drop_of_length_le (by rw [HCL.out]; exact Nat.le_refl 1)]; exact ⟨_, rfl, Kd.R_lower (Kd.R_mono (Kd.R_bound HR12.out) (fun k hk => hk.2.1)) HB.out.size⟩); clear hcl hcc hfr ho hb hg hat HR11 HB11 HC11)
         | ((with_reducible refine gate_store (t := 25) (p := 51) rfl ?_); refine Kd.R_store (Kd.slice 5 (Kd.int .u8)) (w0 := w) w.heap.size rfl rfl 25 (.tmp 51) (.tmp 50) rfl 25 (g := g) (n := n) (cap := c1) (o' := i) (i : Int) 0 r.2.1 row (.slice A12 row.length c12) [.slice A12 row.length c12] c (fun _ => True) (fun k => wr.heap.size ≤ k) rfl (by rw [Int.toNat_natCast, show (Kd.slice 5 (Kd.int .u8)).sz = 1 from rfl]; omega) rfl rfl HSZ.out (fun q hq => by rw [List.mem_singleton.1 hq]; rfl) HS12.out (by omega) (by have := HI.out; omega) HCL.out HCC.out (Nat.le_refl 1) HM.out (fun k hk => ⟨trivial, by have := HGL.out; omega⟩) HW12.out ?_; intro w13 ho hb hg; rw [Int.toNat_natCast, HRX.out] at ho; have HS13 := Aside0.mk ho; have HB13 := Aside0.mk hb; have HK13 := Aside0.mk (Kd.R_over' HK12.out (Kd.R_typed HS12.out) (by decide) hg); clear ho hb hg HR12 HB12 HS12 HK12 HW12 HCL HCC HM HC))
        go_wp2
        go_roundg d
        case measure => omega
        case rel =>
         exact ⟨i + 1, congrArg (Value.int .i64) (by omega), by omega, HS13, HK13, HB13⟩
   · rw [if_neg ce] at hX
     subst hX
     have d1 : (e7 == 0) = false := beq_eq_false_iff_ne.mpr ce
     have d2 : (e7 != 0) = true := bne_iff_ne.mpr ce
     clear ce HEQ
     go_wp2
     (try simp only [Exit.inBlock, Exit.then])
     refine bodyPost_ret (results_tmp4' rfl _ _ _) rfl ?_
     exact ⟨_, _, rfl, Kd.R_nil _ _ _ _ _, Kd.R_nil _ _ _ _ _, HBW.out⟩
 · obtain rfl : (⟨0, [], [], 50⟩ : BrD) = R := by rw [← HR.out, if_neg c]
   have d1 : ((l0.length : Int) == 4092) = false := beq_eq_false_iff_ne.mpr (by omega)
   have d2 : ((l0.length : Int) != 4092) = true := bne_iff_ne.mpr (by omega)
   clear hr0 hc0 c HR
   go_enter Tryz.func74, Tryz.ntmps74
   go_wp2
   (try simp only [Exit.inBlock, Exit.then])
   refine bodyPost_ret (results_tmp4' rfl _ _ _) rfl ?_
   exact ⟨_, _, rfl, Kd.R_nil _ _ _ _ _, Kd.R_nil _ _ _ _ _, Below.refl _ _⟩
end Go.Proofs.YtppjphghlclklaaGreatDoor.P
end
section
namespace Go.Proofs.YtppjphghlclklaaGreatDoor.P
open Go.RowKit Go.Proofs.YtppjphghlclklaaGreatDoorW.PrintWords Go.Proofs.YtppjphghlclklaaGreatDoorW.PrintLast Go.Proofs.YtppjphghlclklaaGreatDoorW.PrintMore
attribute [local go_sem] max2_int min2_int max_two min_two max_three min_three max_four min_four
set_option linter.unusedVariables false
set_option linter.unusedSimpArgs false
def kindCells : Array Value := #[.func (.func 65) #[] #[], .func (.func 66) #[] #[], .func (.func 68) #[] #[], .func (.func 70) #[] #[], .func (.func 71) #[] #[], .func (.func 73) #[] #[], .func (.func 75) #[] #[], .func (.func 76) #[] #[], .func (.func 78) #[] #[], .func (.func 80) #[] #[], .func (.func 81) #[] #[], .func (.func 83) #[] #[], .func (.func 85) #[] #[], .func (.func 86) #[] #[], .func (.func 88) #[] #[]]
def KindsPost (w : World) (e : Ending) (w' : World) : Prop := ∃ g, e = .returned (.slice (some ⟨g, 0, none⟩) 5 5) ∧ w.heap.size ≤ g ∧ w'.heap[g]? = some (.cells kindCells 87 (0, 0)) ∧ Below w.heap.size w w'
theorem page_kinds.calls (w : World) : Calls Tryz.prog 36 #[] w (KindsPost w) := by
 go_enter Tryz.func36, Tryz.ntmps36
 go_wp2
 go_ret
 exact ⟨_, rfl, Nat.le_refl _, heap_alloc_new w _, below_alloc (Below.refl _ _) _⟩
theorem page_store {W : World} {g t : Nat} {v0 v1 v2 v3 v4 v5 v6 v7 v8 v9 v10 v11 v12 v13 v14 : Value} (h : W.heap[g]? = some (.cells #[v0, v1, v2, v3, v4, v5, v6, v7, v8, v9, v10, v11, v12, v13, v14] t (0, 0))) (u0 u1 u2 u3 u4 u5 u6 u7 u8 u9 u10 u11 u12 u13 u14 : Value) :
 (((((((((((((((W.setCell ⟨g, 0, none⟩ u0).setCell ⟨g, 1, none⟩ u1).setCell ⟨g, 2, none⟩ u2).setCell ⟨g, 3, none⟩ u3).setCell ⟨g, 4, none⟩ u4).setCell ⟨g, 5, none⟩ u5).setCell ⟨g, 6, none⟩ u6).setCell ⟨g, 7, none⟩ u7).setCell ⟨g, 8, none⟩ u8).setCell ⟨g, 9, none⟩ u9).setCell ⟨g, 10, none⟩ u10).setCell ⟨g, 11, none⟩ u11).setCell ⟨g, 12, none⟩ u12).setCell ⟨g, 13, none⟩ u13).setCell ⟨g, 14, none⟩ u14).heap[g]? = some (.cells #[u0, u1, u2, u3, u4, u5, u6, u7, u8, u9, u10, u11, u12, u13, u14] t (0, 0)) := by
 simpa using blk_set (blk_set (blk_set (blk_set (blk_set (blk_set (blk_set (blk_set (blk_set (blk_set (blk_set (blk_set (blk_set (blk_set (blk_set h 0 u0) 1 u1) 2 u2) 3 u3) 4 u4) 5 u5) 6 u6) 7 u7) 8 u8) 9 u9) 10 u10) 11 u11) 12 u12) 13 u13) 14 u14
theorem page_below {w W : World} {b g : Nat} (hb : Below b w W) (hg : b ≤ g) (u0 u1 u2 u3 u4 u5 u6 u7 u8 u9 u10 u11 u12 u13 u14 : Value) : Below b w (((((((((((((((W.setCell ⟨g, 0, none⟩ u0).setCell ⟨g, 1, none⟩ u1).setCell ⟨g, 2, none⟩ u2).setCell ⟨g, 3, none⟩ u3).setCell ⟨g, 4, none⟩ u4).setCell ⟨g, 5, none⟩ u5).setCell ⟨g, 6, none⟩ u6).setCell ⟨g, 7, none⟩ u7).setCell ⟨g, 8, none⟩ u8).setCell ⟨g, 9, none⟩ u9).setCell ⟨g, 10, none⟩ u10).setCell ⟨g, 11, none⟩ u11).setCell ⟨g, 12, none⟩ u12).setCell ⟨g, 13, none⟩ u13).setCell ⟨g, 14, none⟩ u14) := Below.setCell (p := ⟨g, 14, none⟩) (Below.setCell (p := ⟨g, 13, none⟩) (Below.setCell (p := ⟨g, 12, none⟩) (Below.setCell (p := ⟨g, 11, none⟩) (Below.setCell (p := ⟨g, 10, none⟩) (Below.setCell (p := ⟨g, 9, none⟩) (Below.setCell (p := ⟨g, 8, none⟩) (Below.setCell (p := ⟨g, 7, none⟩) (Below.setCell (p := ⟨g, 6, none⟩) (Below.setCell (p := ⟨g, 5, none⟩) (Below.setCell (p := ⟨g, 4, none⟩) (Below.setCell (p := ⟨g, 3, none⟩) (Below.setCell (p := ⟨g, 2, none⟩) (Below.setCell (p := ⟨g, 1, none⟩) (Below.setCell (p := ⟨g, 0, none⟩) hb hg u0) hg u1) hg u2) hg u3) hg u4) hg u5) hg u6) hg u7) hg u8) hg u9) hg u10) hg u11) hg u12) hg u13) hg u14
abbrev pgv (p0 : Int) (v1 : Value) (p2 : Int) (v3 v4 : Value) (p5 : Int) (v6 v7 : Value) (h : Hd7) : Value := .agg #[.int .i64 p0, v1, .int .i64 p2, v3, v4, .int .i64 p5, v6, v7, .int .i64 h.v, .int .i64 h.c, .int .i64 h.r, .int .i64 h.h, .int .i64 h.k, .int .i64 h.f, .int .i64 h.n]
abbrev plv (n1 : Nat) (p2 : Int) (n3 n4 : Nat) (p5 : Int) (n6 n7 : Nat) (h : Hd7) : Value := .agg #[.int .i64 n1, .int .i64 p2, .int .i64 n3, .int .i64 n4, .int .i64 p5, .int .i64 n6, .int .i64 n7, .int .i64 h.v, .int .i64 h.c, .int .i64 h.r, .int .i64 h.h, .int .i64 h.k, .int .i64 h.f, .int .i64 h.n]
theorem alloc_two (w : World) (a b : Obj) : ((w.alloc a).alloc b).heap[w.heap.size + 1]? = some b := by
 have h := heap_alloc_new (w.alloc a) b
 rwa [show (w.alloc a).heap.size = w.heap.size + 1 from Array.size_push _] at h
theorem cells15 {W : World} {g t : Nat} {v0 v1 v2 v3 v4 v5 v6 v7 v8 v9 v10 v11 v12 v13 v14 : Value} (h : W.heap[g]? = some (.cells #[v0, v1, v2, v3, v4, v5, v6, v7, v8, v9, v10, v11, v12, v13, v14] t (0, 0))) : W.cell? ⟨g, 0, none⟩ = some v0 ∧ W.cell? ⟨g, 1, none⟩ = some v1 ∧ W.cell? ⟨g, 2, none⟩ = some v2 ∧ W.cell? ⟨g, 3, none⟩ = some v3 ∧ W.cell? ⟨g, 4, none⟩ = some v4 ∧ W.cell? ⟨g, 5, none⟩ = some v5 ∧ W.cell? ⟨g, 6, none⟩ = some v6 ∧ W.cell? ⟨g, 7, none⟩ = some v7 ∧ W.cell? ⟨g, 8, none⟩ = some v8 ∧ W.cell? ⟨g, 9, none⟩ = some v9 ∧ W.cell? ⟨g, 10, none⟩ = some v10 ∧ W.cell? ⟨g, 11, none⟩ = some v11 ∧ W.cell? ⟨g, 12, none⟩ = some v12 ∧ W.cell? ⟨g, 13, none⟩ = some v13 ∧ W.cell? ⟨g, 14, none⟩ = some v14 := ⟨(blk_cell h 0).trans rfl, (blk_cell h 1).trans rfl, (blk_cell h 2).trans rfl, (blk_cell h 3).trans rfl, (blk_cell h 4).trans rfl, (blk_cell h 5).trans rfl, (blk_cell h 6).trans rfl, (blk_cell h 7).trans rfl, (blk_cell h 8).trans rfl, (blk_cell h 9).trans rfl, (blk_cell h 10).trans rfl, (blk_cell h 11).trans rfl, (blk_cell h 12).trans rfl, (blk_cell h 13).trans rfl, (blk_cell h 14).trans rfl⟩
theorem frozen15 {W : World} {g t : Nat} {cs : Array Value} (h : W.heap[g]? = some (.cells cs t (0, 0))) : W.frozen? ⟨g, 0, none⟩ = false ∧ W.frozen? ⟨g, 1, none⟩ = false ∧ W.frozen? ⟨g, 2, none⟩ = false ∧ W.frozen? ⟨g, 3, none⟩ = false ∧ W.frozen? ⟨g, 4, none⟩ = false ∧ W.frozen? ⟨g, 5, none⟩ = false ∧ W.frozen? ⟨g, 6, none⟩ = false ∧ W.frozen? ⟨g, 7, none⟩ = false ∧ W.frozen? ⟨g, 8, none⟩ = false ∧ W.frozen? ⟨g, 9, none⟩ = false ∧ W.frozen? ⟨g, 10, none⟩ = false ∧ W.frozen? ⟨g, 11, none⟩ = false ∧ W.frozen? ⟨g, 12, none⟩ = false ∧ W.frozen? ⟨g, 13, none⟩ = false ∧ W.frozen? ⟨g, 14, none⟩ = false := ⟨blk_frozen h 0, blk_frozen h 1, blk_frozen h 2, blk_frozen h 3, blk_frozen h 4, blk_frozen h 5, blk_frozen h 6, blk_frozen h 7, blk_frozen h 8, blk_frozen h 9, blk_frozen h 10, blk_frozen h 11, blk_frozen h 12, blk_frozen h 13, blk_frozen h 14⟩
theorem page_plain_any (p0 : Int) (A1 : Option Addr) (n1 c1 : Nat) (p2 : Int) (A3 : Option Addr) (n3 c3 : Nat) (A4 : Option Addr) (n4 c4 : Nat) (p5 : Int) (A6 : Option Addr) (n6 c6 : Nat) (A7 : Option Addr) (n7 c7 : Nat) (h : Hd7) (w : World) :
 Calls Tryz.prog 37 #[pgv p0 (.slice A1 n1 c1) p2 (.slice A3 n3 c3) (.slice A4 n4 c4) p5 (.slice A6 n6 c6) (.slice A7 n7 c7) h] w (fun e w' => e = .returned (plv n1 p2 n3 n4 p5 n6 n7 h) ∧ Below w.heap.size w w') := by
 obtain ⟨h0, h1, h2, h3, h4, h5, h6⟩ := h
 go_enter Tryz.func37, Tryz.ntmps37
 go_wp2
 refine bodyPost_ret (results_cell_row rfl _ _ (w.heap.size + 1) 89 _ (0, 0) _ rfl (alloc_two w _ _) Tryz.underlying89 rfl (by kernel_rfl)) rfl ?_
 exact ⟨rfl, below_alloc (below_alloc (Below.refl _ _) _) _⟩
theorem page_has1 (p0 : Int) (A1 : Option Addr) (n1 c1 : Nat) (p2 : Int) (A3 : Option Addr) (n3 c3 : Nat) (A4 : Option Addr) (n4 c4 : Nat) (p5 : Int) (A6 : Option Addr) (n6 c6 : Nat) (A7 : Option Addr) (n7 c7 : Nat) (h : Hd7) (w : World) :
 Calls Tryz.prog 65 #[pgv p0 (.slice A1 n1 c1) p2 (.slice A3 n3 c3) (.slice A4 n4 c4) p5 (.slice A6 n6 c6) (.slice A7 n7 c7) h] w (fun e w' => e = .returned (pgv 0 (.slice A1 n1 c1) 0 (.slice none 0 0) (.slice none 0 0) 0 (.slice none 0 0) (.slice none 0 0) hd0) ∧ Below w.heap.size w w') := by
 obtain ⟨h0, h1, h2, h3, h4, h5, h6⟩ := h
 go_enter Tryz.func65, Tryz.ntmps65
 go_wp2
 refine bodyPost_ret (results_cell_row rfl _ _ (w.heap.size + 1) 30 _ (0, 0) _ rfl (alloc_two w _ _) Tryz.underlying30 rfl (by kernel_rfl)) rfl ?_
 exact ⟨rfl, below_alloc (below_alloc (Below.refl _ _) _) _⟩
theorem page_has2 (p0 : Int) (A1 : Option Addr) (n1 c1 : Nat) (p2 : Int) (A3 : Option Addr) (n3 c3 : Nat) (A4 : Option Addr) (n4 c4 : Nat) (p5 : Int) (A6 : Option Addr) (n6 c6 : Nat) (A7 : Option Addr) (n7 c7 : Nat) (h : Hd7) (w : World) :
 Calls Tryz.prog 70 #[pgv p0 (.slice A1 n1 c1) p2 (.slice A3 n3 c3) (.slice A4 n4 c4) p5 (.slice A6 n6 c6) (.slice A7 n7 c7) h] w (fun e w' => e = .returned (pgv 0 (.slice none 0 0) p2 (.slice A3 n3 c3) (.slice A4 n4 c4) 0 (.slice none 0 0) (.slice none 0 0) hd0) ∧ Below w.heap.size w w') := by
 obtain ⟨h0, h1, h2, h3, h4, h5, h6⟩ := h
 go_enter Tryz.func70, Tryz.ntmps70
 go_wp2
 refine bodyPost_ret (results_cell_row rfl _ _ (w.heap.size + 1) 30 _ (0, 0) _ rfl (alloc_two w _ _) Tryz.underlying30 rfl (by kernel_rfl)) rfl ?_
 exact ⟨rfl, below_alloc (below_alloc (Below.refl _ _) _) _⟩
theorem page_has3 (p0 : Int) (A1 : Option Addr) (n1 c1 : Nat) (p2 : Int) (A3 : Option Addr) (n3 c3 : Nat) (A4 : Option Addr) (n4 c4 : Nat) (p5 : Int) (A6 : Option Addr) (n6 c6 : Nat) (A7 : Option Addr) (n7 c7 : Nat) (h : Hd7) (w : World) :
 Calls Tryz.prog 75 #[pgv p0 (.slice A1 n1 c1) p2 (.slice A3 n3 c3) (.slice A4 n4 c4) p5 (.slice A6 n6 c6) (.slice A7 n7 c7) h] w (fun e w' => e = .returned (pgv 0 (.slice none 0 0) 0 (.slice none 0 0) (.slice none 0 0) p5 (.slice A6 n6 c6) (.slice none 0 0) hd0) ∧ Below w.heap.size w w') := by
 obtain ⟨h0, h1, h2, h3, h4, h5, h6⟩ := h
 go_enter Tryz.func75, Tryz.ntmps75
 go_wp2
 refine bodyPost_ret (results_cell_row rfl _ _ (w.heap.size + 1) 30 _ (0, 0) _ rfl (alloc_two w _ _) Tryz.underlying30 rfl (by kernel_rfl)) rfl ?_
 exact ⟨rfl, below_alloc (below_alloc (Below.refl _ _) _) _⟩
theorem page_has4 (p0 : Int) (A1 : Option Addr) (n1 c1 : Nat) (p2 : Int) (A3 : Option Addr) (n3 c3 : Nat) (A4 : Option Addr) (n4 c4 : Nat) (p5 : Int) (A6 : Option Addr) (n6 c6 : Nat) (A7 : Option Addr) (n7 c7 : Nat) (h : Hd7) (w : World) :
 Calls Tryz.prog 80 #[pgv p0 (.slice A1 n1 c1) p2 (.slice A3 n3 c3) (.slice A4 n4 c4) p5 (.slice A6 n6 c6) (.slice A7 n7 c7) h] w (fun e w' => e = .returned (pgv 0 (.slice none 0 0) 0 (.slice none 0 0) (.slice none 0 0) p5 (.slice none 0 0) (.slice A7 n7 c7) hd0) ∧ Below w.heap.size w w') := by
 obtain ⟨h0, h1, h2, h3, h4, h5, h6⟩ := h
 go_enter Tryz.func80, Tryz.ntmps80
 go_wp2
 refine bodyPost_ret (results_cell_row rfl _ _ (w.heap.size + 1) 30 _ (0, 0) _ rfl (alloc_two w _ _) Tryz.underlying30 rfl (by kernel_rfl)) rfl ?_
 exact ⟨rfl, below_alloc (below_alloc (Below.refl _ _) _) _⟩
theorem page_has5 (p0 : Int) (A1 : Option Addr) (n1 c1 : Nat) (p2 : Int) (A3 : Option Addr) (n3 c3 : Nat) (A4 : Option Addr) (n4 c4 : Nat) (p5 : Int) (A6 : Option Addr) (n6 c6 : Nat) (A7 : Option Addr) (n7 c7 : Nat) (h : Hd7) (w : World) :
 Calls Tryz.prog 85 #[pgv p0 (.slice A1 n1 c1) p2 (.slice A3 n3 c3) (.slice A4 n4 c4) p5 (.slice A6 n6 c6) (.slice A7 n7 c7) h] w (fun e w' => e = .returned (pgv 0 (.slice none 0 0) 0 (.slice none 0 0) (.slice none 0 0) 0 (.slice none 0 0) (.slice none 0 0) h) ∧ Below w.heap.size w w') := by
 obtain ⟨h0, h1, h2, h3, h4, h5, h6⟩ := h
 go_enter Tryz.func85, Tryz.ntmps85
 go_wp2
 refine bodyPost_ret (results_cell_row rfl _ _ (w.heap.size + 1) 30 _ (0, 0) _ rfl (alloc_two w _ _) Tryz.underlying30 rfl (by kernel_rfl)) rfl ?_
 exact ⟨rfl, below_alloc (below_alloc (Below.refl _ _) _) _⟩
theorem page_enc1 (p0 p2 p5 : Int) (h : Hd7) (A1 : Option Addr) (c1 : Nat) (l1 : List (It)) (A3 : Option Addr) (n3 c3 : Nat) (A4 : Option Addr) (n4 c4 : Nat) (A6 : Option Addr) (n6 c6 : Nat) (A7 : Option Addr) (n7 c7 : Nat) (w : World) (hr1 : Kd.C k77 w A1 l1.length l1) (hc1 : l1.length ≤ c1) (hs : Small l1) :
 Calls Tryz.prog 66 #[pgv p0 (.slice A1 l1.length c1) p2 (.slice A3 n3 c3) (.slice A4 n4 c4) p5 (.slice A6 n6 c6) (.slice A7 n7 c7) h] w (EncPost w (encLeafR l1)) := by
 have HX := Aside0.mk (fun (W : World) (hb : Below w.heap.size w W) => leaf_Encode.calls A1 c1 l1 W (Kd.C_below hr1 hb) hc1 hs)
 obtain ⟨h0, h1, h2, h3, h4, h5, h6⟩ := h
 obtain ⟨E, hE⟩ : ∃ E, encLeafR l1 = E := ⟨_, rfl⟩
 simp only [hE] at HX ⊢
 clear hE hr1 hc1 hs
 go_enter Tryz.func66, Tryz.ntmps66
 go_wp2_with fail
 refine (HX.out _ (below_alloc (Below.refl _ _) _)).mono ?_
 rintro e w2 ⟨v, rfl, hR, hB⟩
 have HR := Aside0.mk (Kd.R_lower hR (below_alloc (Below.refl _ _) _).size)
 have HB := Aside0.mk (below_step (below_alloc (Below.refl _ _) _) hB)
 clear hR hB HX
 go_wp2
 go_ret2
 exact ⟨v, rfl, HR.out, HB.out⟩
theorem page_enc2 (p0 p2 p5 : Int) (h : Hd7) (A1 : Option Addr) (n1 c1 : Nat) (A3 : Option Addr) (c3 : Nat) (l3 : List (List Int)) (A4 : Option Addr) (c4 : Nat) (l4 : List (Kid)) (A6 : Option Addr) (n6 c6 : Nat) (A7 : Option Addr) (n7 c7 : Nat) (w : World) (hr3 : Kd.C (Kd.slice 5 (Kd.int .u8)) w A3 l3.length l3) (hc3 : l3.length ≤ c3) (hr4 : Kd.C k82 w A4 l4.length l4) (hc4 : l4.length ≤ c4) (hs : SmallB l3) (hk : l4.length ≤ 70001) :
 Calls Tryz.prog 71 #[pgv p0 (.slice A1 n1 c1) p2 (.slice A3 l3.length c3) (.slice A4 l4.length c4) p5 (.slice A6 n6 c6) (.slice A7 n7 c7) h] w (EncPost w (encBranchR p2 l3 l4)) := by
 have HX := Aside0.mk (fun (W : World) (hb : Below w.heap.size w W) => branch_Encode.calls p2 A3 c3 l3 A4 c4 l4 W (Kd.C_below hr3 hb) hc3 (Kd.C_below hr4 hb) hc4 hs hk)
 obtain ⟨h0, h1, h2, h3, h4, h5, h6⟩ := h
 obtain ⟨E, hE⟩ : ∃ E, encBranchR p2 l3 l4 = E := ⟨_, rfl⟩
 simp only [hE] at HX ⊢
 clear hE hr3 hc3 hr4 hc4 hs hk
 go_enter Tryz.func71, Tryz.ntmps71
 go_wp2_with fail
 refine (HX.out _ (below_alloc (Below.refl _ _) _)).mono ?_
 rintro e w2 ⟨v, rfl, hR, hB⟩
 have HR := Aside0.mk (Kd.R_lower hR (below_alloc (Below.refl _ _) _).size)
 have HB := Aside0.mk (below_step (below_alloc (Below.refl _ _) _) hB)
 clear hR hB HX
 go_wp2
 go_ret2
 exact ⟨v, rfl, HR.out, HB.out⟩
theorem page_enc3 (p0 p2 p5 : Int) (h : Hd7) (A1 : Option Addr) (n1 c1 : Nat) (A3 : Option Addr) (n3 c3 : Nat) (A4 : Option Addr) (n4 c4 : Nat) (A6 : Option Addr) (c6 : Nat) (l6 : List (Int)) (A7 : Option Addr) (n7 c7 : Nat) (w : World) (hr6 : Kd.C (Kd.int .u8) w A6 l6.length l6) (hc6 : l6.length ≤ c6) :
 Calls Tryz.prog 76 #[pgv p0 (.slice A1 n1 c1) p2 (.slice A3 n3 c3) (.slice A4 n4 c4) p5 (.slice A6 l6.length c6) (.slice A7 n7 c7) h] w (EncPost w (encDataR p5 l6)) := by
 have HX := Aside0.mk (fun (W : World) (hb : Below w.heap.size w W) => chain_EncodeData.calls p5 A6 c6 l6 W (Kd.C_below hr6 hb) hc6)
 obtain ⟨h0, h1, h2, h3, h4, h5, h6⟩ := h
 obtain ⟨E, hE⟩ : ∃ E, encDataR p5 l6 = E := ⟨_, rfl⟩
 simp only [hE] at HX ⊢
 clear hE hr6 hc6
 go_enter Tryz.func76, Tryz.ntmps76
 go_wp2_with fail
 refine (HX.out _ (below_alloc (Below.refl _ _) _)).mono ?_
 rintro e w2 ⟨v, rfl, hR, hB⟩
 have HR := Aside0.mk (Kd.R_lower hR (below_alloc (Below.refl _ _) _).size)
 have HB := Aside0.mk (below_step (below_alloc (Below.refl _ _) _) hB)
 clear hR hB HX
 go_wp2
 go_ret2
 exact ⟨v, rfl, HR.out, HB.out⟩
theorem page_enc4 (p0 p2 p5 : Int) (h : Hd7) (A1 : Option Addr) (n1 c1 : Nat) (A3 : Option Addr) (n3 c3 : Nat) (A4 : Option Addr) (n4 c4 : Nat) (A6 : Option Addr) (n6 c6 : Nat) (A7 : Option Addr) (c7 : Nat) (l7 : List (Int)) (w : World) (hr7 : Kd.C (Kd.int .i64) w A7 l7.length l7) (hc7 : l7.length ≤ c7) (hs : l7.length ≤ 9223372036854775806) :
 Calls Tryz.prog 81 #[pgv p0 (.slice A1 n1 c1) p2 (.slice A3 n3 c3) (.slice A4 n4 c4) p5 (.slice A6 n6 c6) (.slice A7 l7.length c7) h] w (EncPost w (encListR p5 l7)) := by
 have HX := Aside0.mk (fun (W : World) (hb : Below w.heap.size w W) => chain_EncodeList_.calls p5 A7 c7 l7 W (Kd.C_below hr7 hb) hc7 hs)
 obtain ⟨h0, h1, h2, h3, h4, h5, h6⟩ := h
 obtain ⟨E, hE⟩ : ∃ E, encListR p5 l7 = E := ⟨_, rfl⟩
 simp only [hE] at HX ⊢
 clear hE hr7 hc7 hs
 go_enter Tryz.func81, Tryz.ntmps81
 go_wp2_with fail
 refine (HX.out _ (below_alloc (Below.refl _ _) _)).mono ?_
 rintro e w2 ⟨v, rfl, hR, hB⟩
 have HR := Aside0.mk (Kd.R_lower hR (below_alloc (Below.refl _ _) _).size)
 have HB := Aside0.mk (below_step (below_alloc (Below.refl _ _) _) hB)
 clear hR hB HX
 go_wp2
 go_ret2
 exact ⟨v, rfl, HR.out, HB.out⟩
theorem page_enc5 (p0 p2 p5 : Int) (h : Hd7) (A1 : Option Addr) (n1 c1 : Nat) (A3 : Option Addr) (n3 c3 : Nat) (A4 : Option Addr) (n4 c4 : Nat) (A6 : Option Addr) (n6 c6 : Nat) (A7 : Option Addr) (n7 c7 : Nat) (w : World) (hL : MetaLaid w) :
 Calls Tryz.prog 86 #[pgv p0 (.slice A1 n1 c1) p2 (.slice A3 n3 c3) (.slice A4 n4 c4) p5 (.slice A6 n6 c6) (.slice A7 n7 c7) h] w (EncPost w (encMetaR h.v h.c h.r h.h h.k h.f h.n)) := by
 have HX := Aside0.mk (fun (W : World) (hb : Below w.heap.size w W) => meta_Encode.calls h.v h.c h.r h.h h.k h.f h.n W (hL.below hb))
 obtain ⟨h0, h1, h2, h3, h4, h5, h6⟩ := h
 obtain ⟨E, hE⟩ : ∃ E, encMetaR h0 h1 h2 h3 h4 h5 h6 = E := ⟨_, rfl⟩
 simp only [hE] at HX ⊢
 clear hE  hL
 go_enter Tryz.func86, Tryz.ntmps86
 go_wp2_with fail
 refine (HX.out _ (below_alloc (Below.refl _ _) _)).mono ?_
 rintro e w2 ⟨v, rfl, hR, hB⟩
 have HR := Aside0.mk (Kd.R_lower hR (below_alloc (Below.refl _ _) _).size)
 have HB := Aside0.mk (below_step (below_alloc (Below.refl _ _) _) hB)
 clear hR hB HX
 go_wp2
 go_ret2
 exact ⟨v, rfl, HR.out, HB.out⟩
structure Pg where
 kind : Int
 items : List It
 level : Int
 seps : List (List Int)
 kids : List Kid
 next : Int
 data : List Int
 list : List Int
 head : Hd7
def pg0 : Pg := ⟨0, [], 0, [], [], 0, [], [], hd0⟩
abbrev KSeps : Kd (List Int) := Kd.slice 5 (Kd.int .u8)
def PgR (W : World) (base : Nat) (ok : Nat → Prop) (p : Pg) (v : Value) : Prop := ∃ v1 v3 v4 v6 v7, v = pgv p.kind v1 p.level v3 v4 p.next v6 v7 p.head ∧ Kd.R k77 77 W base ok v1 p.items ∧ Kd.R KSeps 25 W base ok v3 p.seps ∧ Kd.R k82 82 W base ok v4 p.kids ∧ Kd.R (Kd.int .u8) 5 W base ok v6 p.data ∧ Kd.R (Kd.int .i64) 3 W base ok v7 p.list
def PgPost (w : World) (r : Pg × Int) (e : Ending) (w' : World) : Prop := ∃ v, e = .returned (.tuple #[v, .int .i64 r.2]) ∧ PgR w' w.heap.size (fun _ => True) r.1 v ∧ Below w.heap.size w w'
section
variable {α : Type} {d : Kd α} {e base : Nat} {ok : Nat → Prop} {v : Value} {xs : List α}
theorem page_far {W : World} {g : Nat} (h : d.R e W base ok v xs) (hg : ∀ k, ok k → k ≠ g) (u0 u1 u2 u3 u4 u5 u6 u7 u8 u9 u10 u11 u12 u13 u14 : Value) : d.R e (((((((((((((((W.setCell ⟨g, 0, none⟩ u0).setCell ⟨g, 1, none⟩ u1).setCell ⟨g, 2, none⟩ u2).setCell ⟨g, 3, none⟩ u3).setCell ⟨g, 4, none⟩ u4).setCell ⟨g, 5, none⟩ u5).setCell ⟨g, 6, none⟩ u6).setCell ⟨g, 7, none⟩ u7).setCell ⟨g, 8, none⟩ u8).setCell ⟨g, 9, none⟩ u9).setCell ⟨g, 10, none⟩ u10).setCell ⟨g, 11, none⟩ u11).setCell ⟨g, 12, none⟩ u12).setCell ⟨g, 13, none⟩ u13).setCell ⟨g, 14, none⟩ u14) base ok v xs := Kd.R_far (p := ⟨g, 14, none⟩) (Kd.R_far (p := ⟨g, 13, none⟩) (Kd.R_far (p := ⟨g, 12, none⟩) (Kd.R_far (p := ⟨g, 11, none⟩) (Kd.R_far (p := ⟨g, 10, none⟩) (Kd.R_far (p := ⟨g, 9, none⟩) (Kd.R_far (p := ⟨g, 8, none⟩) (Kd.R_far (p := ⟨g, 7, none⟩) (Kd.R_far (p := ⟨g, 6, none⟩) (Kd.R_far (p := ⟨g, 5, none⟩) (Kd.R_far (p := ⟨g, 4, none⟩) (Kd.R_far (p := ⟨g, 3, none⟩) (Kd.R_far (p := ⟨g, 2, none⟩) (Kd.R_far (p := ⟨g, 1, none⟩) (Kd.R_far (p := ⟨g, 0, none⟩) h hg u0) hg u1) hg u2) hg u3) hg u4) hg u5) hg u6) hg u7) hg u8) hg u9) hg u10) hg u11) hg u12) hg u13) hg u14
end
def zeroPage : Array Value := #[.int .i64 0, .slice none 0 0, .int .i64 0, .slice none 0 0, .slice none 0 0, .int .i64 0, .slice none 0 0, .slice none 0 0, .int .i64 0, .int .i64 0, .int .i64 0, .int .i64 0, .int .i64 0, .int .i64 0, .int .i64 0]
theorem page_dec1 (A0 : Option Addr) (c0 : Nat) (l0 : List Int) (w : World) (hr0 : Kd.C (Kd.int .u8) w A0 l0.length l0) (hc0 : l0.length ≤ c0) :
 Calls Tryz.prog 68 #[.slice A0 l0.length c0] w (PgPost w ({pg0 with items := (decLeafR l0).1}, (decLeafR l0).2)) := by
 have HX := Aside0.mk (fun (W : World) (hb : Below w.heap.size w W) => leaf_Decode.calls A0 c0 l0 W (Kd.C_below hr0 hb) hc0)
 obtain ⟨E, hE⟩ : ∃ E, decLeafR l0 = E := ⟨_, rfl⟩
 obtain ⟨x, e⟩ := E
 simp only [hE] at HX ⊢
 clear hE hr0 hc0
 go_enter Tryz.func68, Tryz.ntmps68
 go_wp2_with fail
 have HSZ : Aside0 (w.heap.size < (w.alloc (.cells zeroPage 30)).heap.size) := ⟨by show _ < (Array.push _ _).size; rw [Array.size_push]; omega⟩
 have HG0 := Aside0.mk (heap_alloc_new w (.cells zeroPage 30))
 have HB0 := Aside0.mk (below_alloc (Below.refl w.heap.size w) (.cells zeroPage 30))
 refine (HX.out (w.alloc (.cells zeroPage 30)) HB0.out).mono ?_
 rintro e w2 ⟨v1, rfl, hR1, hB⟩
 have HG := Aside0.mk ((hB.block _ HSZ.out).trans HG0.out)
 have HB := Aside0.mk (below_step HB0.out hB)
 obtain ⟨A1, C1, hv1, hl1, hC1⟩ := Kd.R_reads hR1
 subst hv1
 have HR1 := Aside0.mk (Kd.R_lower (Kd.R_mono (ok' := fun k => k ≠ w.heap.size) (Kd.R_bound hR1) (fun k hk => by have := hk.2.1; have := HSZ.out; omega)) (Nat.le_trans (Nat.le_of_lt HSZ.out) (Nat.le_refl _)))
 clear hB HX hR1 hl1 hC1
 have hg := HG.out
 unfold zeroPage at hg
 obtain ⟨q0, q1, q2, q3, q4, q5, q6, q7, q8, q9, q10, q11, q12, q13, q14⟩ := cells15 hg
 obtain ⟨f0, f1, f2, f3, f4, f5, f6, f7, f8, f9, f10, f11, f12, f13, f14⟩ := frozen15 hg
 clear hg
 go_wp2
 refine bodyPost_ret (results_cell_tmp_row rfl _ _ w.heap.size 30 _ (0, 0) _ _ rfl rfl (page_store HG.out _ _ _ _ _ _ _ _ _ _ _ _ _ _ _) Tryz.underlying30 rfl (by kernel_rfl)) rfl ?_
 exact ⟨_, rfl, ⟨.slice A1 x.length C1, .slice none 0 0, .slice none 0 0, .slice none 0 0, .slice none 0 0, rfl, Kd.R_mono (page_far HR1.out (fun k hk => hk) _ _ _ _ _ _ _ _ _ _ _ _ _ _ _) (fun _ _ => trivial), Kd.R_nil _ _ _ _ _, Kd.R_nil _ _ _ _ _, Kd.R_nil _ _ _ _ _, Kd.R_nil _ _ _ _ _⟩, page_below HB.out (Nat.le_refl _) _ _ _ _ _ _ _ _ _ _ _ _ _ _ _⟩
theorem page_dec2 (A0 : Option Addr) (c0 : Nat) (l0 : List Int) (w : World) (hr0 : Kd.C (Kd.int .u8) w A0 l0.length l0) (hc0 : l0.length ≤ c0) :
 Calls Tryz.prog 73 #[.slice A0 l0.length c0] w (PgPost w ({pg0 with level := (decBranchR l0).lv, seps := (decBranchR l0).seps, kids := (decBranchR l0).kids}, (decBranchR l0).err)) := by
 have HX := Aside0.mk (fun (W : World) (hb : Below w.heap.size w W) => branch_Decode.calls A0 c0 l0 W (Kd.C_below hr0 hb) hc0)
 obtain ⟨E, hE⟩ : ∃ E, decBranchR l0 = E := ⟨_, rfl⟩
 obtain ⟨lv, xs, ks, e⟩ := E
 simp only [hE] at HX ⊢
 clear hE hr0 hc0
 go_enter Tryz.func73, Tryz.ntmps73
 go_wp2_with fail
 have HSZ : Aside0 (w.heap.size < (w.alloc (.cells zeroPage 30)).heap.size) := ⟨by show _ < (Array.push _ _).size; rw [Array.size_push]; omega⟩
 have HG0 := Aside0.mk (heap_alloc_new w (.cells zeroPage 30))
 have HB0 := Aside0.mk (below_alloc (Below.refl w.heap.size w) (.cells zeroPage 30))
 refine (HX.out (w.alloc (.cells zeroPage 30)) HB0.out).mono ?_
 rintro e w2 ⟨v3, v4, rfl, hR3, hR4, hB⟩
 have HG := Aside0.mk ((hB.block _ HSZ.out).trans HG0.out)
 have HB := Aside0.mk (below_step HB0.out hB)
 obtain ⟨A3, C3, hv3, hl3, hC3⟩ := Kd.R_reads hR3
 subst hv3
 have HR3 := Aside0.mk (Kd.R_lower (Kd.R_mono (ok' := fun k => k ≠ w.heap.size) (Kd.R_bound hR3) (fun k hk => by have := hk.2.1; have := HSZ.out; omega)) (Nat.le_trans (Nat.le_of_lt HSZ.out) (Nat.le_refl _)))
 obtain ⟨A4, C4, hv4, hl4, hC4⟩ := Kd.R_reads hR4
 subst hv4
 have HR4 := Aside0.mk (Kd.R_lower (Kd.R_mono (ok' := fun k => k ≠ w.heap.size) (Kd.R_bound hR4) (fun k hk => by have := hk.2.1; have := HSZ.out; omega)) (Nat.le_trans (Nat.le_of_lt HSZ.out) (Nat.le_refl _)))
 clear hB HX hR3 hl3 hC3 hR4 hl4 hC4
 have hg := HG.out
 unfold zeroPage at hg
 obtain ⟨q0, q1, q2, q3, q4, q5, q6, q7, q8, q9, q10, q11, q12, q13, q14⟩ := cells15 hg
 obtain ⟨f0, f1, f2, f3, f4, f5, f6, f7, f8, f9, f10, f11, f12, f13, f14⟩ := frozen15 hg
 clear hg
 go_wp2
 refine bodyPost_ret (results_cell_tmp_row rfl _ _ w.heap.size 30 _ (0, 0) _ _ rfl rfl (page_store HG.out _ _ _ _ _ _ _ _ _ _ _ _ _ _ _) Tryz.underlying30 rfl (by kernel_rfl)) rfl ?_
 exact ⟨_, rfl, ⟨.slice none 0 0, .slice A3 xs.length C3, .slice A4 ks.length C4, .slice none 0 0, .slice none 0 0, rfl, Kd.R_nil _ _ _ _ _, Kd.R_mono (page_far HR3.out (fun k hk => hk) _ _ _ _ _ _ _ _ _ _ _ _ _ _ _) (fun _ _ => trivial), Kd.R_mono (page_far HR4.out (fun k hk => hk) _ _ _ _ _ _ _ _ _ _ _ _ _ _ _) (fun _ _ => trivial), Kd.R_nil _ _ _ _ _, Kd.R_nil _ _ _ _ _⟩, page_below HB.out (Nat.le_refl _) _ _ _ _ _ _ _ _ _ _ _ _ _ _ _⟩
theorem page_dec3 (A0 : Option Addr) (c0 : Nat) (l0 : List Int) (w : World) (hr0 : Kd.C (Kd.int .u8) w A0 l0.length l0) (hc0 : l0.length ≤ c0) :
 Calls Tryz.prog 78 #[.slice A0 l0.length c0] w (PgPost w ({pg0 with next := (decDataR l0).1, data := (decDataR l0).2.1}, (decDataR l0).2.2)) := by
 have HX := Aside0.mk (fun (W : World) (hb : Below w.heap.size w W) => chain_DecodeData.calls A0 c0 l0 W (Kd.C_below hr0 hb) hc0)
 obtain ⟨E, hE⟩ : ∃ E, decDataR l0 = E := ⟨_, rfl⟩
 obtain ⟨n, x, e⟩ := E
 simp only [hE] at HX ⊢
 clear hE hr0 hc0
 go_enter Tryz.func78, Tryz.ntmps78
 go_wp2_with fail
 have HSZ : Aside0 (w.heap.size < (w.alloc (.cells zeroPage 30)).heap.size) := ⟨by show _ < (Array.push _ _).size; rw [Array.size_push]; omega⟩
 have HG0 := Aside0.mk (heap_alloc_new w (.cells zeroPage 30))
 have HB0 := Aside0.mk (below_alloc (Below.refl w.heap.size w) (.cells zeroPage 30))
 refine (HX.out (w.alloc (.cells zeroPage 30)) HB0.out).mono ?_
 rintro e w2 ⟨v6, rfl, hR6, hB⟩
 have HG := Aside0.mk ((hB.block _ HSZ.out).trans HG0.out)
 have HB := Aside0.mk (below_step HB0.out hB)
 obtain ⟨A6, C6, hv6, hl6, hC6⟩ := Kd.R_reads hR6
 subst hv6
 have HR6 := Aside0.mk (Kd.R_lower (Kd.R_mono (ok' := fun k => k ≠ w.heap.size) (Kd.R_bound hR6) (fun k hk => by have := hk.2.1; have := HSZ.out; omega)) (Nat.le_trans (Nat.le_of_lt HSZ.out) (Nat.le_refl _)))
 clear hB HX hR6 hl6 hC6
 have hg := HG.out
 unfold zeroPage at hg
 obtain ⟨q0, q1, q2, q3, q4, q5, q6, q7, q8, q9, q10, q11, q12, q13, q14⟩ := cells15 hg
 obtain ⟨f0, f1, f2, f3, f4, f5, f6, f7, f8, f9, f10, f11, f12, f13, f14⟩ := frozen15 hg
 clear hg
 go_wp2
 refine bodyPost_ret (results_cell_tmp_row rfl _ _ w.heap.size 30 _ (0, 0) _ _ rfl rfl (page_store HG.out _ _ _ _ _ _ _ _ _ _ _ _ _ _ _) Tryz.underlying30 rfl (by kernel_rfl)) rfl ?_
 exact ⟨_, rfl, ⟨.slice none 0 0, .slice none 0 0, .slice none 0 0, .slice A6 x.length C6, .slice none 0 0, rfl, Kd.R_nil _ _ _ _ _, Kd.R_nil _ _ _ _ _, Kd.R_nil _ _ _ _ _, Kd.R_mono (page_far HR6.out (fun k hk => hk) _ _ _ _ _ _ _ _ _ _ _ _ _ _ _) (fun _ _ => trivial), Kd.R_nil _ _ _ _ _⟩, page_below HB.out (Nat.le_refl _) _ _ _ _ _ _ _ _ _ _ _ _ _ _ _⟩
theorem page_dec4 (A0 : Option Addr) (c0 : Nat) (l0 : List Int) (w : World) (hr0 : Kd.C (Kd.int .u8) w A0 l0.length l0) (hc0 : l0.length ≤ c0) :
 Calls Tryz.prog 83 #[.slice A0 l0.length c0] w (PgPost w ({pg0 with next := (decListR l0).1, list := (decListR l0).2.1}, (decListR l0).2.2)) := by
 have HX := Aside0.mk (fun (W : World) (hb : Below w.heap.size w W) => chain_DecodeList.calls A0 c0 l0 W (Kd.C_below hr0 hb) hc0)
 obtain ⟨E, hE⟩ : ∃ E, decListR l0 = E := ⟨_, rfl⟩
 obtain ⟨n, x, e⟩ := E
 simp only [hE] at HX ⊢
 clear hE hr0 hc0
 go_enter Tryz.func83, Tryz.ntmps83
 go_wp2_with fail
 have HSZ : Aside0 (w.heap.size < (w.alloc (.cells zeroPage 30)).heap.size) := ⟨by show _ < (Array.push _ _).size; rw [Array.size_push]; omega⟩
 have HG0 := Aside0.mk (heap_alloc_new w (.cells zeroPage 30))
 have HB0 := Aside0.mk (below_alloc (Below.refl w.heap.size w) (.cells zeroPage 30))
 refine (HX.out (w.alloc (.cells zeroPage 30)) HB0.out).mono ?_
 rintro e w2 ⟨v7, rfl, hR7, hB⟩
 have HG := Aside0.mk ((hB.block _ HSZ.out).trans HG0.out)
 have HB := Aside0.mk (below_step HB0.out hB)
 obtain ⟨A7, C7, hv7, hl7, hC7⟩ := Kd.R_reads hR7
 subst hv7
 have HR7 := Aside0.mk (Kd.R_lower (Kd.R_mono (ok' := fun k => k ≠ w.heap.size) (Kd.R_bound hR7) (fun k hk => by have := hk.2.1; have := HSZ.out; omega)) (Nat.le_trans (Nat.le_of_lt HSZ.out) (Nat.le_refl _)))
 clear hB HX hR7 hl7 hC7
 have hg := HG.out
 unfold zeroPage at hg
 obtain ⟨q0, q1, q2, q3, q4, q5, q6, q7, q8, q9, q10, q11, q12, q13, q14⟩ := cells15 hg
 obtain ⟨f0, f1, f2, f3, f4, f5, f6, f7, f8, f9, f10, f11, f12, f13, f14⟩ := frozen15 hg
 clear hg
 go_wp2
 refine bodyPost_ret (results_cell_tmp_row rfl _ _ w.heap.size 30 _ (0, 0) _ _ rfl rfl (page_store HG.out _ _ _ _ _ _ _ _ _ _ _ _ _ _ _) Tryz.underlying30 rfl (by kernel_rfl)) rfl ?_
 exact ⟨_, rfl, ⟨.slice none 0 0, .slice none 0 0, .slice none 0 0, .slice none 0 0, .slice A7 x.length C7, rfl, Kd.R_nil _ _ _ _ _, Kd.R_nil _ _ _ _ _, Kd.R_nil _ _ _ _ _, Kd.R_nil _ _ _ _ _, Kd.R_mono (page_far HR7.out (fun k hk => hk) _ _ _ _ _ _ _ _ _ _ _ _ _ _ _) (fun _ _ => trivial)⟩, page_below HB.out (Nat.le_refl _) _ _ _ _ _ _ _ _ _ _ _ _ _ _ _⟩
theorem page_dec5 (A0 : Option Addr) (c0 : Nat) (l0 : List Int) (w : World) (hL : MetaLaid w) (hr0 : Kd.C (Kd.int .u8) w A0 l0.length l0) (hc0 : l0.length ≤ c0) :
 Calls Tryz.prog 88 #[.slice A0 l0.length c0] w (PgPost w ({pg0 with head := (decMetaR l0).1}, (decMetaR l0).2)) := by
 have HX := Aside0.mk (fun (W : World) (hb : Below w.heap.size w W) => meta_Decode.calls A0 c0 l0 W (hL.below hb) (Kd.C_below hr0 hb) hc0)
 obtain ⟨E, hE⟩ : ∃ E, decMetaR l0 = E := ⟨_, rfl⟩
 obtain ⟨⟨h0, h1, h2, h3, h4, h5, h6⟩, e⟩ := E
 simp only [hE] at HX ⊢
 clear hE hr0 hc0
 go_enter Tryz.func88, Tryz.ntmps88
 go_wp2_with fail
 have HSZ : Aside0 (w.heap.size < (w.alloc (.cells zeroPage 30)).heap.size) := ⟨by show _ < (Array.push _ _).size; rw [Array.size_push]; omega⟩
 have HG0 := Aside0.mk (heap_alloc_new w (.cells zeroPage 30))
 have HB0 := Aside0.mk (below_alloc (Below.refl w.heap.size w) (.cells zeroPage 30))
 refine (HX.out (w.alloc (.cells zeroPage 30)) HB0.out).mono ?_
 rintro e w2 ⟨rfl, hB⟩
 have HG := Aside0.mk ((hB.block _ HSZ.out).trans HG0.out)
 have HB := Aside0.mk (below_step HB0.out hB)
 clear hB HX
 go_upto_region 2 with (fail)
 obtain ⟨w3, hw3⟩ : ∃ x, x = w2.alloc (.cells #[.int .i64 h0, .int .i64 h1, .int .i64 h2, .int .i64 h3, .int .i64 h4, .int .i64 h5, .int .i64 h6] 28) := ⟨_, rfl⟩
 obtain ⟨g3, hg3⟩ : ∃ x, x = w2.heap.size := ⟨_, rfl⟩
 rw [← hw3, ← hg3]
 have hb3 : Below w2.heap.size w2 w3 := by rw [hw3]; exact below_alloc (Below.refl _ _) _
 have hn3 : w3.heap[g3]? = some (.cells #[.int .i64 h0, .int .i64 h1, .int .i64 h2, .int .i64 h3, .int .i64 h4, .int .i64 h5, .int .i64 h6] 28) := by rw [hw3, hg3]; exact heap_alloc_new _ _
 have HG3 := Aside0.mk ((hb3.block _ (blk_lt HG.out)).trans HG.out)
 have HB3 := Aside0.mk (below_then HB.out HB.out.size hb3)
 clear hw3 hg3 hb3 HG HB
 have HG := HG3
 have HB := HB3
 clear HG3 HB3
 have p0 := (blk_cell hn3 0).trans rfl
 have p1 := (blk_cell hn3 1).trans rfl
 have p2 := (blk_cell hn3 2).trans rfl
 have p3 := (blk_cell hn3 3).trans rfl
 have p4 := (blk_cell hn3 4).trans rfl
 have p5 := (blk_cell hn3 5).trans rfl
 have p6 := (blk_cell hn3 6).trans rfl
 clear hn3
 have hg := HG.out
 unfold zeroPage at hg
 obtain ⟨q0, q1, q2, q3, q4, q5, q6, q7, q8, q9, q10, q11, q12, q13, q14⟩ := cells15 hg
 obtain ⟨f0, f1, f2, f3, f4, f5, f6, f7, f8, f9, f10, f11, f12, f13, f14⟩ := frozen15 hg
 clear hg
 go_wp2
 refine bodyPost_ret (results_cell_tmp_row rfl _ _ w.heap.size 30 _ (0, 0) _ _ rfl rfl (page_store HG.out _ _ _ _ _ _ _ _ _ _ _ _ _ _ _) Tryz.underlying30 rfl (by kernel_rfl)) rfl ?_
 exact ⟨_, rfl, ⟨.slice none 0 0, .slice none 0 0, .slice none 0 0, .slice none 0 0, .slice none 0 0, rfl, Kd.R_nil _ _ _ _ _, Kd.R_nil _ _ _ _ _, Kd.R_nil _ _ _ _ _, Kd.R_nil _ _ _ _ _, Kd.R_nil _ _ _ _ _⟩, page_below HB.out (Nat.le_refl _) _ _ _ _ _ _ _ _ _ _ _ _ _ _ _⟩
theorem eqA28 (d : Nat) (w : World) (x0 y0 : Int) (x1 y1 : Int) (x2 y2 : Int) (x3 y3 : Int) (x4 y4 : Int) (x5 y5 : Int) (x6 y6 : Int) :
 (Op.equalIn (d + 2) 28 (.agg #[.int .i64 x0, .int .i64 x1, .int .i64 x2, .int .i64 x3, .int .i64 x4, .int .i64 x5, .int .i64 x6]) (.agg #[.int .i64 y0, .int .i64 y1, .int .i64 y2, .int .i64 y3, .int .i64 y4, .int .i64 y5, .int .i64 y6])).run Tryz.prog w = .ok (x0 == y0 && (x1 == y1 && (x2 == y2 && (x3 == y3 && (x4 == y4 && (x5 == y5 && (x6 == y6))))))) w := by
 refine eqA_of Tryz.underlying28 (by kernel_rfl) ?_
 refine eqf_cons (by rfl) (by go_simp; rfl) (by go_simp; rfl) (by go_simp) ?_
 refine eqf_cons (by rfl) (by go_simp; rfl) (by go_simp; rfl) (by go_simp) ?_
 refine eqf_cons (by rfl) (by go_simp; rfl) (by go_simp; rfl) (by go_simp) ?_
 refine eqf_cons (by rfl) (by go_simp; rfl) (by go_simp; rfl) (by go_simp) ?_
 refine eqf_cons (by rfl) (by go_simp; rfl) (by go_simp; rfl) (by go_simp) ?_
 refine eqf_cons (by rfl) (by go_simp; rfl) (by go_simp; rfl) (by go_simp) ?_
 exact eqf_last (by rfl) (by go_simp; rfl) (by go_simp; rfl) (by go_simp)
theorem eqA89 (d : Nat) (w : World) (x0 y0 : Int) (x1 y1 : Int) (x2 y2 : Int) (x3 y3 : Int) (x4 y4 : Int) (x5 y5 : Int) (x6 y6 : Int) (x7 y7 : Int) (x8 y8 : Int) (x9 y9 : Int) (x10 y10 : Int) (x11 y11 : Int) (x12 y12 : Int) (x13 y13 : Int) :
 (Op.equalIn (d + 3) 89 (.agg #[.int .i64 x0, .int .i64 x1, .int .i64 x2, .int .i64 x3, .int .i64 x4, .int .i64 x5, .int .i64 x6, .int .i64 x7, .int .i64 x8, .int .i64 x9, .int .i64 x10, .int .i64 x11, .int .i64 x12, .int .i64 x13]) (.agg #[.int .i64 y0, .int .i64 y1, .int .i64 y2, .int .i64 y3, .int .i64 y4, .int .i64 y5, .int .i64 y6, .int .i64 y7, .int .i64 y8, .int .i64 y9, .int .i64 y10, .int .i64 y11, .int .i64 y12, .int .i64 y13])).run Tryz.prog w = .ok (x0 == y0 && (x1 == y1 && (x2 == y2 && (x3 == y3 && (x4 == y4 && (x5 == y5 && (x6 == y6 && ((x7 == y7 && (x8 == y8 && (x9 == y9 && (x10 == y10 && (x11 == y11 && (x12 == y12 && (x13 == y13))))))))))))))) w := by
 refine eqA_of Tryz.underlying89 (by kernel_rfl) ?_
 refine eqf_cons (by rfl) (by go_simp; rfl) (by go_simp; rfl) (by go_simp) ?_
 refine eqf_cons (by rfl) (by go_simp; rfl) (by go_simp; rfl) (by go_simp) ?_
 refine eqf_cons (by rfl) (by go_simp; rfl) (by go_simp; rfl) (by go_simp) ?_
 refine eqf_cons (by rfl) (by go_simp; rfl) (by go_simp; rfl) (by go_simp) ?_
 refine eqf_cons (by rfl) (by go_simp; rfl) (by go_simp; rfl) (by go_simp) ?_
 refine eqf_cons (by rfl) (by go_simp; rfl) (by go_simp; rfl) (by go_simp) ?_
 refine eqf_cons (by rfl) (by go_simp; rfl) (by go_simp; rfl) (by go_simp) ?_
 exact eqf_last (by rfl) (by go_simp) (by go_simp) (eqA28 (d + 0) w _ _ _ _ _ _ _ _ _ _ _ _ _ _)
def eqLs (xs ys : List Int) : Bool := decide (xs = ys)
theorem plain_neq (w : World) (x0 x1 x2 x3 x4 x5 x6 x7 x8 x9 x10 x11 x12 x13 y0 y1 y2 y3 y4 y5 y6 y7 y8 y9 y10 y11 y12 y13 : Int) : (binOp .neq 89 (.agg #[.int .i64 x0, .int .i64 x1, .int .i64 x2, .int .i64 x3, .int .i64 x4, .int .i64 x5, .int .i64 x6, .int .i64 x7, .int .i64 x8, .int .i64 x9, .int .i64 x10, .int .i64 x11, .int .i64 x12, .int .i64 x13]) (.agg #[.int .i64 y0, .int .i64 y1, .int .i64 y2, .int .i64 y3, .int .i64 y4, .int .i64 y5, .int .i64 y6, .int .i64 y7, .int .i64 y8, .int .i64 y9, .int .i64 y10, .int .i64 y11, .int .i64 y12, .int .i64 y13])).run Tryz.prog w = .ok (.bool (!(eqLs [x0, x1, x2, x3, x4, x5, x6, x7, x8, x9, x10, x11, x12, x13] [y0, y1, y2, y3, y4, y5, y6, y7, y8, y9, y10, y11, y12, y13]))) w := by
 have h := eqA89 9997 w x0 y0 x1 y1 x2 y2 x3 y3 x4 y4 x5 y5 x6 y6 x7 y7 x8 y8 x9 y9 x10 y10 x11 y11 x12 y12 x13 y13
 rw [show 9997 + 3 = 10000 from rfl] at h
 rw [run_neq_struct, h]
 have e : eqLs [x0, x1, x2, x3, x4, x5, x6, x7, x8, x9, x10, x11, x12, x13] [y0, y1, y2, y3, y4, y5, y6, y7, y8, y9, y10, y11, y12, y13] = ((x0 == y0) && (x1 == y1) && (x2 == y2) && (x3 == y3) && (x4 == y4) && (x5 == y5) && (x6 == y6) && (x7 == y7) && (x8 == y8) && (x9 == y9) && (x10 == y10) && (x11 == y11) && (x12 == y12) && (x13 == y13)) := by
  unfold eqLs
  rw [Bool.eq_iff_iff]
  simp [and_assoc]
 rw [e]
 simp [Bool.and_assoc]
def crcLeft : List Int := [0, 498536548, 997073096, 651767980, 1994146192, 1802195444, 1303535960, 1342533948, 3988292384, 4027552580, 3604390888, 3412177804, 2607071920, 2262029012, 2685067896, 3183342108]
def CrcLaid (w : World) : Prop := ∀ j : Nat, j < 16 → w.cell? ⟨2, j, none⟩ = some (.int .u32 (crcLeft.getD j 0))
def crcHalf (x : Int) : Int := Go.bits .xor .u32 (x / 16) (crcLeft.getD (Go.bits .and .u32 x 15).toNat 0)
def crcByte (x b : Int) : Int := crcHalf (crcHalf (Go.bits .xor .u32 x (b % 4294967296)))
def crcRun (x : Int) (l : List Int) : Int := l.foldl crcByte x
def crc_Update.f (a0 : Int) (l1 : List Int) : Option Int := some (Go.bits .xor .u32 IntKind.u32.max (crcRun (Go.bits .xor .u32 IntKind.u32.max a0) l1))
theorem bits_and15 (x : Int) : 0 ≤ Go.bits .and .u32 x 15 ∧ Go.bits .and .u32 x 15 < 16 := by
 have h : ((BitVec.ofInt 32 x) &&& (BitVec.ofInt 32 15)).toNat ≤ 15 := by
  rw [BitVec.toNat_and]
  exact Nat.and_le_right
 have e : Go.bits .and .u32 x 15 = IntKind.u32.wrap (((BitVec.ofInt 32 x) &&& (BitVec.ofInt 32 15)).toNat : Int) := rfl
 rw [e, IntKind.wrap_u32]
 omega
theorem crc_Update.calls (A1 : Option Addr) (c1 : Nat) (a0 : Int) (l1 : List Int) (r : Int) (w : World) (hL : CrcLaid w) (hr1 : Kd.C (Kd.int .u8) w A1 l1.length l1) (hc1 : l1.length ≤ c1) (h : crc_Update.f a0 l1 = some r) :
 Calls Tryz.prog 261 #[.int .u32 a0, .slice A1 l1.length c1] w fun e w' => e = .returned (.int .u32 r) ∧ Drawn0 w w' := by
 obtain rfl := Option.some.inj h
 clear h
 have HR1 := Aside0.mk hr1
 have HL := Aside0.mk hL
 clear hr1 hc1 hL
 go_enter Tryz.func261, Tryz.ntmps261
 go_wp2
 go_loopg [5, 7, 12] l1.length (fun kq v5 v7 v12 w' => ∃ (x : Int) (i : Nat), v5 = .int .u32 x ∧ v12 = .int .i64 i ∧ i + kq = l1.length ∧ crcRun x (l1.drop i) = crcRun (Go.bits .xor .u32 IntKind.u32.max a0) l1 ∧ Drawn0 w w')
 case atStart => exact ⟨_, 0, rfl, rfl, by omega, rfl, ⟨0, rfl⟩⟩
 case round =>
  obtain ⟨x, i, rfl, rfl, hk, hx0, nd, rfl⟩ := hrel
  have hi4 : l1.length ≤ 9223372036854775807 := HR1.out.2.1
  by_cases c : (i : Int) < l1.length
  · have cd1 : decide ((i : Int) < (l1.length : Int)) = true := decide_eq_true c
    have hil : i < l1.length := by omega
    have cd2 : decide (i < l1.length) = true := decide_eq_true hil
    obtain ⟨ad, rfl⟩ := bytes_some HR1.out (by omega)
    obtain ⟨b, hb⟩ : ∃ b, b = l1[i] := ⟨_, rfl⟩
    have hx := bytes_cells HR1.out rfl (by omega) i (.int .u8 b) (by simp [hil, hb])
    have hx2 : ∀ n, (w.drewN n).cell? (ad.add i) = some (.int .u8 b) := fun n => hx
    have hrun : crcRun (crcByte x b) (l1.drop (i + 1)) = crcRun (Go.bits .xor .u32 IntKind.u32.max a0) l1 := by
     rw [← hx0, List.drop_eq_getElem_cons hil, ← hb]
     rfl
    obtain ⟨y, hy⟩ : ∃ y, Go.bits .xor .u32 x (b % 4294967296) = y := ⟨_, rfl⟩
    obtain ⟨z, hz⟩ : ∃ z, crcHalf y = z := ⟨_, rfl⟩
    obtain ⟨u, hu⟩ : ∃ u, crcHalf z = u := ⟨_, rfl⟩
    have hbyte : crcByte x b = u := by unfold crcByte; rw [hy, hz, hu]
    rw [hbyte] at hrun
    obtain ⟨j1, hj1⟩ : ∃ j, Go.bits .and .u32 y 15 = j := ⟨_, rfl⟩
    obtain ⟨j2, hj2⟩ : ∃ j, Go.bits .and .u32 z 15 = j := ⟨_, rfl⟩
    have b1 := bits_and15 y
    have b2 := bits_and15 z
    rw [hj1] at b1
    rw [hj2] at b2
    have hl1 : ∀ n, (w.drewN n).cell? ⟨2, j1.toNat, none⟩ = some (.int .u32 (crcLeft.getD j1.toNat 0)) := fun n => HL.out _ (by omega)
    have hl2 : ∀ n, (w.drewN n).cell? ⟨2, j2.toNat, none⟩ = some (.int .u32 (crcLeft.getD j2.toNat 0)) := fun n => HL.out _ (by omega)
    have hl1' := hl1 0
    have hl2' := hl2 0
    obtain ⟨t1, ht1⟩ : ∃ t, crcLeft.getD j1.toNat 0 = t := ⟨_, rfl⟩
    obtain ⟨t2, ht2⟩ : ∃ t, crcLeft.getD j2.toNat 0 = t := ⟨_, rfl⟩
    have e1 : Go.bits .xor .u32 (y / 16) t1 = z := by rw [← hz, ← ht1, ← hj1]; rfl
    have e2 : Go.bits .xor .u32 (z / 16) t2 = u := by rw [← hu, ← ht2, ← hj2]; rfl
    simp only [ht1] at hl1 hl1'
    simp only [ht2] at hl2 hl2'
    have hl1'' : w.cell? ⟨2, j1.toNat, none⟩ = some (.int .u32 t1) := hl1'
    have hl2'' : w.cell? ⟨2, j2.toNat, none⟩ = some (.int .u32 t2) := hl2'
    have p0 := eq_true (show (0 : Int) ≤ (i : Int) by omega)
    have p1 := eq_true c
    have p2 := eq_true hil
    have p3 := eq_true b1.1
    have p4 := eq_true b1.2
    have p5 := eq_true b2.1
    have p6 := eq_true b2.2
    have HRUN := Aside0.mk hrun
    have HK := Aside0.mk hk
    clear hz hu hbyte ht1 ht2 hrun hk hx0 b1 b2 hl1' hl2' hb
    go_wp2
    go_roundg (gk - 1)
    case measure => have := HK.out; omega
    case rel =>
     have hk := HK.out
     exact ⟨u, i + 1, rfl, rfl, by omega, HRUN.out, ⟨_, rfl⟩⟩
  · have cd1 : decide ((i : Int) < (l1.length : Int)) = false := decide_eq_false c
    have cd2 : decide (i < l1.length) = false := decide_eq_false (by omega)
    have hx1 : x = crcRun (Go.bits .xor .u32 IntKind.u32.max a0) l1 := by rw [← hx0, List.drop_eq_nil_of_le (by omega)]; rfl
    go_wp2
    go_ret
    exact ⟨by first | rfl | rw [hx1], ⟨nd, rfl⟩⟩
def crc_Sum.f (l0 : List Int) : Option Int := crc_Update.f 0 l0
theorem crc_Sum.calls (A0 : Option Addr) (c0 : Nat) (l0 : List Int) (r : Int) (w : World) (hL : CrcLaid w) (hr0 : Kd.C (Kd.int .u8) w A0 l0.length l0) (hc0 : l0.length ≤ c0) (h : crc_Sum.f l0 = some r) :
 Calls Tryz.prog 189 #[.slice A0 l0.length c0] w fun e w' => e = .returned (.int .u32 r) ∧ Drawn0 w w' := by
 have HC := Aside0.mk (crc_Update.calls A0 c0 0 l0 r w hL hr0 hc0 h)
 clear hL hr0 hc0 h
 go_enter Tryz.func189, Tryz.ntmps189
 go_wp2_with fail
 refine HC.out.mono ?_
 rintro e w' ⟨rfl, nd, rfl⟩
 go_wp2
 go_ret
 exact ⟨rfl, nd, rfl⟩
theorem CrcLaid.below {w W : World} (h : CrcLaid w) (hb : Below w.heap.size w W) : CrcLaid W := fun j hj => by
 have h1 := h j hj
 exact (hb.cell (World.block_lt_of_cell? w _ h1)).trans h1
theorem crc_mark.calls (A0 : Option Addr) (c0 : Nat) (l0 : List Int) (s : Int) (w : World) (hL : CrcLaid w) (hr0 : Kd.C (Kd.int .u8) w A0 l0.length l0) (hc0 : l0.length ≤ c0) (h : crc_Sum.f l0 = some s) :
 Calls Tryz.prog 90 #[.slice A0 l0.length c0] w fun e w' => e = .returned (.agg #[.int .u8 (s % 256), .int .u8 (s / 256 % 256), .int .u8 (s / 65536 % 256), .int .u8 (s / 16777216 % 256)]) ∧ Below w.heap.size w w' := by
 have HC := Aside0.mk (show ∀ o, Calls Tryz.prog 189 #[.slice A0 l0.length c0] (w.alloc o) fun e w' => e = .returned (.int .u32 s) ∧ Drawn0 (w.alloc o) w' from fun o => crc_Sum.calls A0 c0 l0 s (w.alloc o) (hL.below (below_alloc (Below.refl _ _) o)) (Kd.C_alloc hr0 o) hc0 h)
 clear hL hr0 hc0 h
 go_enter Tryz.func90, Tryz.ntmps90
 go_wp2_with fail
 refine (HC.out _).mono ?_
 rintro e w' ⟨rfl, nd, rfl⟩
 go_wp2
 have h0 : ((w.alloc (.cells #[.int .u8 0, .int .u8 0, .int .u8 0, .int .u8 0] 131)).drewN nd).heap[w.heap.size]? = some (.cells #[.int .u8 0, .int .u8 0, .int .u8 0, .int .u8 0] 131 (0, 0)) := heap_alloc_new w _
 have h1 := blk_set (blk_set (blk_set (blk_set h0 0 (.int .u8 (s % 256))) 1 (.int .u8 (s / 256 % 256))) 2 (.int .u8 (s / 65536 % 256))) 3 (.int .u8 (s / 16777216 % 256))
 refine bodyPost_ret (results_cell_row rfl _ _ w.heap.size 131 #[.int .u8 (s % 256), .int .u8 (s / 256 % 256), .int .u8 (s / 65536 % 256), .int .u8 (s / 16777216 % 256)] (0, 0) _ rfl h1 Tryz.underlying131 rfl (by kernel_rfl)) rfl ?_
 exact ⟨rfl, ((((pw_below_drewN (below_alloc (Below.refl _ _) _) nd).setCell (Nat.le_refl _) _).setCell (Nat.le_refl _) _).setCell (Nat.le_refl _) _).setCell (Nat.le_refl _) _⟩
theorem bytes_C_any (W : World) (g : Nat) (cur : Array Value) (xs : List Int) (t : Nat) (fr : Nat × Nat) (hl : xs.length ≤ 9223372036854775807) (h : W.heap[g]? = some (.cells cur t fr)) (hcur : cur.toList = xs.map (Value.int .u8)) : Kd.C (Kd.int .u8) W (some ⟨g, 0, none⟩) xs.length xs := by
 refine ⟨rfl, hl, fun _ => ⟨_, rfl, fun j p hj => ⟨[.int .u8 p], rfl, rfl, fun i u hu => ?_⟩⟩⟩
 match i, hu with
 | 0, hu =>
  obtain rfl : Value.int .u8 p = u := by simpa using hu
  have hc : cur[j]? = some (Value.int .u8 p) := by rw [← Array.getElem?_toList, hcur, List.getElem?_map, hj]; rfl
  rw [show (Kd.int IntKind.u8).sz = 1 from rfl, add_at, Nat.zero_add, Nat.mul_one, Nat.add_zero]
  simp [World.cell?, h, hc]
theorem bytes_F_any (W : World) (g : Nat) (cur : Array Value) (xs : List Int) (t : Nat) (fr : Nat × Nat) (hl : xs.length ≤ 9223372036854775807) (h : W.heap[g]? = some (.cells cur t fr)) (hcur : cur.toList = xs.map (Value.int .u8)) : Kd.F (Kd.int .u8) W (fun k => k = g) (some ⟨g, 0, none⟩) xs.length xs := fun W' hW => by
 have hlt : g < W.heap.size := by
  rcases Nat.lt_or_ge g W.heap.size with h1 | h1
  · exact h1
  · rw [Array.getElem?_eq_none h1] at h; cases h
 exact bytes_C_any W' g cur xs t fr hl ((hW g rfl hlt).trans h) hcur
theorem foot_grown {W W' : World} {g : Nat} {A : Option Addr} {n : Nat} {xs : List Int} {row : Option Nat} (h : Kd.F (Kd.int .u8) W (fun k => k = g) A n xs) (hg : W.grownBy W' row) (hne : ¬ row = some g) : Kd.F (Kd.int .u8) W' (fun k => k = g) A n xs := fun W2 hW => h W2 (fun k hk hlt => by
 subst hk
 exact (hW k rfl (Nat.lt_of_lt_of_le hlt hg.size)).trans (hg.block k hlt (fun he => hne he.symm)))
def markOf (s : Int) : List Int := [s % 256, s / 256 % 256, s / 65536 % 256, s / 16777216 % 256]
def crc_Seal.f (l0 : List Int) : Option (List Int × Int) := if (l0.length : Int) = 4092 then ((crc_Sum.f l0).bind fun s => some (l0 ++ markOf s, 0)) else some ([], 20)
theorem crc_Seal.calls (A0 : Option Addr) (c0 : Nat) (l0 : List Int) (r1 : List Int) (r2 : Int) (w : World) (hL : CrcLaid w) (hr0 : Kd.C (Kd.int .u8) w A0 l0.length l0) (hc0 : l0.length ≤ c0) (h : crc_Seal.f l0 = some (r1, r2)) :
 Calls Tryz.prog 38 #[.slice A0 l0.length c0] w fun e w' => ∃ v0_ : Value, e = .returned (.tuple #[v0_, .int .i64 r2]) ∧ Kd.R (Kd.int .u8) 5 w' w.heap.size (fun _ => True) v0_ r1 ∧ Below w.heap.size w w' := by
 unfold crc_Seal.f at h
 by_cases c : (l0.length : Int) = 4092
 · rw [if_pos c] at h
   obtain ⟨s, hs, h⟩ := Option.bind_eq_some_iff.mp h
   have h := Option.some.inj h
   obtain ⟨rfl, rfl⟩ := Prod.mk.inj h
   clear h
   have HR0 := Aside0.mk hr0
   have HC := Aside0.mk (crc_mark.calls A0 c0 l0 s w hL hr0 hc0 hs)
   have HLEN := Aside0.mk (show l0.length = 4092 by omega)
   have ce1 : ((l0.length : Int) == 4092) = true := beq_iff_eq.mpr c
   have ce3 : ((l0.length : Int) != 4092) = false := bne_eq_false_iff_eq.mpr c
   clear hL hr0 hc0 hs c
   go_enter Tryz.func38, Tryz.ntmps38
   go_wp2_with fail
   refine HC.out.mono ?_
   rintro e w2 ⟨rfl, hb⟩
   have HB := Aside0.mk hb
   clear hb HC
   obtain ⟨o2, ho2⟩ : ∃ o, o = Obj.cells #[.int .u8 (s % 256), .int .u8 (s / 256 % 256), .int .u8 (s / 65536 % 256), .int .u8 (s / 16777216 % 256)] 131 (0, 0) := ⟨_, rfl⟩
   have hm4 : Kd.F (Kd.int .u8) (w2.alloc o2) (fun k => k = w2.heap.size) (some ⟨w2.heap.size, 0, none⟩) (markOf s).length (markOf s) := by
    subst ho2
    exact bytes_F_any _ w2.heap.size _ (markOf s) 131 (0, 0) (by simp [markOf]) (heap_alloc_new w2 _) (by simp [markOf])
   have HM := Aside0.mk hm4
   clear hm4
   go_wp2_with (first
    | ((with_reducible refine gate_dst (N := 11) rfl ?_); rw [← ho2]; refine Kd.R_make0 (Kd.int .u8) (w0 := w) w.heap.size 5 rfl (N := 11) rfl 25 _ _ rfl (4096 : Int) rfl rfl Tryz.underlying25 (.int .u8 0) 1 info5 rfl (by decide) (by omega) 0 (ok := fun _ => True) (okp := fun _ => True) trivial (fun _ hk => hk) trivial (by decide) (by decide) (below_alloc HB.out _) (below_alloc HB.out _).size ?_; intro v5 w5 ho hb hg hnew; have HO5 := Aside0.mk ho; have HB5 := Aside0.mk hb; have HF5 := Aside0.mk (foot_grown HM.out hg (by simp)); have HN5 := Aside0.mk (show ¬ v5.ownBlock = some w2.heap.size from fun he => by obtain ⟨b, hb1, hb2⟩ := hnew; rw [he] at hb1; injection hb1 with hb1; simp at hb2; omega); clear ho hb hg hnew HM)
    | ((with_reducible refine gate_builtin (b := .append) (xs := #[.tmp 12, .tmp 13]) rfl ?_); at_builtin; refine Kd.R_append_rows (Kd.int .u8) (w0 := w) w.heap.size rfl (.tmp 12) (.tmp 13) 25 5 (.int .u8 0) 1 rfl Tryz.underlying25 info5 rfl (by decide) (by omega) v5 [] l0 _ _ _ (fun _ => True) (fun _ => False) rfl rfl HO5.out (Kd.C_below HR0.out HB5.out) (fun _ _ h => h) (fun _ h => h.elim) (fun _ _ => trivial) HB5.out HB5.out.size (by have := HLEN.out; simp; omega) ?_; intro v6 w6 ho hb hg hat; have HO6 := Aside0.mk ho; have HB6 := Aside0.mk hb; have HF6 := Aside0.mk (foot_grown HF5.out hg HN5.out); clear ho hb hg hat HO5 HB5 HF5 HN5)
    | ((with_reducible refine gate_builtin (b := .append) (xs := #[.tmp 15, .tmp 16]) rfl ?_); at_builtin; refine Kd.R_append_rows (Kd.int .u8) (w0 := w) w.heap.size rfl (.tmp 15) (.tmp 16) 25 5 (.int .u8 0) 1 rfl Tryz.underlying25 info5 rfl (by decide) (by omega) v6 ([] ++ l0) (markOf s) (some ⟨w2.heap.size, 0, none⟩) 4 4 (fun _ => True) (fun _ => False) rfl rfl HO6.out (Kd.F_now HF6.out) (fun _ _ h => h) (fun _ h => h.elim) (fun _ _ => trivial) HB6.out HB6.out.size (by have := HLEN.out; simp; omega) ?_; intro v7 w7 ho hb hg hat; have HO7 := Aside0.mk ho; have HB7 := Aside0.mk hb; clear ho hb hg hat HO6 HB6 HF6))
   go_ret2
   exact ⟨_, rfl, HO7.out, HB7.out⟩
 · rw [if_neg c] at h
   have h := Option.some.inj h
   obtain ⟨rfl, rfl⟩ := Prod.mk.inj h
   have ce1 : ((l0.length : Int) == 4092) = false := beq_eq_false_iff_ne.mpr c
   have ce2 : ((l0.length : Int) != 4092) = true := bne_iff_ne.mpr c
   clear hL hr0 hc0 h c
   go_enter Tryz.func38, Tryz.ntmps38
   go_wp2
   go_ret2
   exact ⟨_, rfl, Kd.R_nil _ _ _ _ _, Below.refl _ _⟩
def crcSum (l : List Int) : Int := Go.bits .xor .u32 IntKind.u32.max (crcRun (Go.bits .xor .u32 IntKind.u32.max 0) l)
def openR (l : List Int) : List Int × Int := if l.length = 4096 then (if l.drop 4092 = markOf (crcSum (l.take 4092)) then (l.take 4092, 0) else ([], 22)) else ([], 21)
theorem four_drop_gen (l : List Int) (m : Nat) (h : l.length = m + 4) : l.drop m = [l.getD m 0, l.getD (m + 1) 0, l.getD (m + 2) 0, l.getD (m + 3) 0] := by
 apply List.ext_getElem
 · rw [List.length_drop, h]; simp
 · intro i h1 h2
   rw [List.getElem_drop]
   have hi : i < 4 := by simpa using h2
   rcases (by omega : i = 0 ∨ i = 1 ∨ i = 2 ∨ i = 3) with rfl | rfl | rfl | rfl <;> simp [List.getD_eq_getElem?_getD, h]
theorem four_drop (l : List Int) (h : l.length = 4096) : l.drop 4092 = [l.getD 4092 0, l.getD 4093 0, l.getD 4094 0, l.getD 4095 0] := four_drop_gen l 4092 h
def OpenPost (w : World) (r : List Int × Int) (e : Ending) (w' : World) : Prop := ∃ v, e = .returned (.tuple #[v, .int .i64 r.2]) ∧ Kd.R (Kd.int .u8) 5 w' w.heap.size (fun _ => True) v r.1 ∧ Below w.heap.size w w'
theorem crc_Open.calls (A0 : Option Addr) (c0 : Nat) (l0 : List Int) (w : World) (hL : CrcLaid w) (hr0 : Kd.C (Kd.int .u8) w A0 l0.length l0) (hc0 : l0.length ≤ c0) :
 Calls Tryz.prog 41 #[.slice A0 l0.length c0] w (OpenPost w (openR l0)) := by
 by_cases c : l0.length = 4096
 · have hd := four_drop l0 c
   obtain ⟨ad, rfl⟩ := int_some hr0 (by omega)
   obtain ⟨i0, hi0, _, hsz, _⟩ := info_parts info5
   have ht := Kd.C_take (m := 4092) hr0 (by omega)
   have hlt : (l0.take 4092).length = 4092 := by rw [List.length_take]; omega
   have hcut1 := cut_to (P := Tryz.prog) 25 5 .i64 Tryz.underlying25 hi0 (some ad) l0.length c0 4092 (by omega) (by omega) hc0
   have hcut2 := cut_from (P := Tryz.prog) 25 5 .i64 Tryz.underlying25 hi0 1 hsz (some ad) l0.length c0 4092 (by omega) (by omega)
   have hn : ¬ c0 = 4092 := by omega
   simp only [show (4092 : Int).toNat = 4092 from rfl, hn, if_false, Nat.mul_one, Option.map_some, c] at hcut1 hcut2
   rw [show 4096 - 4092 = 4 from rfl] at hcut2
   have harr : ∀ W : World, (Instr.arrayAt 131 (.slice (some (ad.add 4092)) 4 (c0 - 4092))).run Tryz.prog W = .ok (.pointer (some (ad.add 4092))) W := fun W => run_arrayAt (P := Tryz.prog) W 131 5 4 (some (ad.add 4092)) 4 (c0 - 4092) Tryz.underlying131 (Nat.le_refl _)
   obtain ⟨a0, ha0⟩ : ∃ a, a = l0.getD 4092 0 := ⟨_, rfl⟩
   obtain ⟨a1, ha1⟩ : ∃ a, a = l0.getD 4093 0 := ⟨_, rfl⟩
   obtain ⟨a2, ha2⟩ : ∃ a, a = l0.getD 4094 0 := ⟨_, rfl⟩
   obtain ⟨a3, ha3⟩ : ∃ a, a = l0.getD 4095 0 := ⟨_, rfl⟩
   rw [← ha0, ← ha1, ← ha2, ← ha3] at hd
   have hsrc : ∀ j v, (([a0, a1, a2, a3] : List Int).map (Value.int .u8))[j]? = some v → w.cell? (ad.add (4092 + j)) = some v := fun j v hj => by
    rw [← hd, List.map_drop, List.getElem?_drop] at hj
    exact int_cells hr0 rfl (by omega) (4092 + j) v hj
   obtain ⟨s, hs⟩ : ∃ s, s = crcSum (l0.take 4092) := ⟨_, rfl⟩
   have hsum : crc_Sum.f (l0.take 4092) = some s := by rw [hs]; rfl
   have HC : Aside0 (∀ W, Below w.heap.size w W → Calls Tryz.prog 90 #[.slice (some ad) 4092 c0] W fun e w' => e = .returned (.agg #[.int .u8 (s % 256), .int .u8 (s / 256 % 256), .int .u8 (s / 65536 % 256), .int .u8 (s / 16777216 % 256)]) ∧ Below W.heap.size W w') := ⟨fun W hW => by
    have h := crc_mark.calls (some ad) c0 (l0.take 4092) s W (hL.below hW) (Kd.C_below ht hW) (by omega) hsum
    rwa [hlt] at h⟩
   have hneq := fun W : World => run_neq_four (P := Tryz.prog) W 131 5 Tryz.underlying131 Tryz.underlying5 hi0 hsz a0 a1 a2 a3 (s % 256) (s / 256 % 256) (s / 65536 % 256) (s / 16777216 % 256)
   have hr : openR l0 = if ((a0 == s % 256) && ((a1 == s / 256 % 256) && ((a2 == s / 65536 % 256) && (a3 == s / 16777216 % 256)))) = true then (l0.take 4092, 0) else ([], 22) := by
    unfold openR
    rw [if_pos c, hd, ← hs]
    unfold markOf
    simp only [Bool.and_eq_true, beq_iff_eq, List.cons.injEq, and_true]
   have HT := Aside0.mk ht
   have HLT := Aside0.mk hlt
   by_cases ce : ((a0 == s % 256) && ((a1 == s / 256 % 256) && ((a2 == s / 65536 % 256) && (a3 == s / 16777216 % 256)))) = true
   · rw [if_pos ce] at hr
     rw [ce] at hneq
     have HRR := Aside0.mk hr
     obtain ⟨bd, hbd⟩ : ∃ bd, bd = ad.add 4092 := ⟨_, rfl⟩
     rw [← hbd] at hcut2
     simp only [← hbd] at harr
     have z0 : w.cell? bd = some (.int .u8 a0) := by rw [hbd]; exact hsrc 0 _ rfl
     have z1 : w.cell? ⟨bd.block, bd.off + 1, none⟩ = some (.int .u8 a1) := by have h := hsrc 1 _ rfl; rw [← add_add, ← hbd] at h; exact h
     have z2 : w.cell? ⟨bd.block, bd.off + 2, none⟩ = some (.int .u8 a2) := by have h := hsrc 2 _ rfl; rw [← add_add, ← hbd] at h; exact h
     have z3 : w.cell? ⟨bd.block, bd.off + 3, none⟩ = some (.int .u8 a3) := by have h := hsrc 3 _ rfl; rw [← add_add, ← hbd] at h; exact h
     have HR0 := Aside0.mk (show Kd.C (Kd.int .u8) w (some ad) 4092 (l0.take 4092) by rw [hlt] at ht; exact ht)
     rw [c]
     clear hL hr0 hc0 c hd hi0 hsz ht hlt ha0 ha1 ha2 ha3 hsrc hs hsum ce hr hn hbd
     go_enter Tryz.func41, Tryz.ntmps41
     go_wp2
     have HC1 := Aside0.mk (HC.out w.drew (below_drew1 (Below.refl _ _)))
     have HB1 := Aside0.mk (below_drew1 (Below.refl w.heap.size w))
     clear HC
     go_region_with (go_at_call 90; refine HC1.out.mono ?_; rintro e w1 ⟨rfl, hb⟩; have hb := Aside0.mk (below_then HB1.out (Nat.le_refl _) hb); have y0 := pw_cell_below hb.out z0; have y1 := pw_cell_below hb.out z1; have y2 := pw_cell_below hb.out z2; have y3 := pw_cell_below hb.out z3)
     all_goals
      go_wp2_with (first
       | ((with_reducible refine gate_dst (N := 17) rfl ?_); refine Kd.R_make0 (Kd.int .u8) (w0 := w) w.heap.size 5 rfl (N := 17) rfl 25 _ _ rfl (4092 : Int) rfl rfl Tryz.underlying25 (.int .u8 0) 1 info5 rfl (by decide) (by omega) 0 (ok := fun _ => True) (okp := fun _ => True) trivial (fun _ hk => hk) trivial (by decide) (by decide) hb.out hb.out.size ?_; intro v5 w5 ho hb5 hg hnew; have HO5 := Aside0.mk ho; have HB5 := Aside0.mk hb5; clear ho hb5 hg hnew)
       | ((with_reducible refine gate_builtin (b := .append) (xs := #[.tmp 17, .tmp 18]) rfl ?_); at_builtin; refine Kd.R_append_rows (Kd.int .u8) (w0 := w) w.heap.size rfl (.tmp 17) (.tmp 18) 25 5 (.int .u8 0) 1 rfl Tryz.underlying25 info5 rfl (by decide) (by omega) v5 [] (l0.take 4092) (some ad) 4092 c0 (fun _ => True) (fun _ => False) rfl rfl HO5.out (Kd.C_below HR0.out HB5.out) (fun _ _ h => h) (fun _ h => h.elim) (fun _ _ => trivial) HB5.out HB5.out.size (by simp) ?_; intro v6 w6 ho hb6 hg hat; have HO6 := Aside0.mk ho; have HB6 := Aside0.mk hb6; clear ho hb6 hg hat HO5 HB5))
      go_ret2
      rw [HRR.out]
      exact ⟨_, rfl, HO6.out, HB6.out⟩
   · rw [if_neg ce] at hr
     rw [Bool.eq_false_iff.mpr ce] at hneq
     have HRR := Aside0.mk hr
     obtain ⟨bd, hbd⟩ : ∃ bd, bd = ad.add 4092 := ⟨_, rfl⟩
     rw [← hbd] at hcut2
     simp only [← hbd] at harr
     have z0 : w.cell? bd = some (.int .u8 a0) := by rw [hbd]; exact hsrc 0 _ rfl
     have z1 : w.cell? ⟨bd.block, bd.off + 1, none⟩ = some (.int .u8 a1) := by have h := hsrc 1 _ rfl; rw [← add_add, ← hbd] at h; exact h
     have z2 : w.cell? ⟨bd.block, bd.off + 2, none⟩ = some (.int .u8 a2) := by have h := hsrc 2 _ rfl; rw [← add_add, ← hbd] at h; exact h
     have z3 : w.cell? ⟨bd.block, bd.off + 3, none⟩ = some (.int .u8 a3) := by have h := hsrc 3 _ rfl; rw [← add_add, ← hbd] at h; exact h
     have HR0 := Aside0.mk (show Kd.C (Kd.int .u8) w (some ad) 4092 (l0.take 4092) by rw [hlt] at ht; exact ht)
     rw [c]
     clear hL hr0 hc0 c hd hi0 hsz ht hlt ha0 ha1 ha2 ha3 hsrc hs hsum ce hr hn hbd
     go_enter Tryz.func41, Tryz.ntmps41
     go_wp2
     have HC1 := Aside0.mk (HC.out w.drew (below_drew1 (Below.refl _ _)))
     have HB1 := Aside0.mk (below_drew1 (Below.refl w.heap.size w))
     clear HC
     go_region_with (go_at_call 90; refine HC1.out.mono ?_; rintro e w1 ⟨rfl, hb⟩; have hb := Aside0.mk (below_then HB1.out (Nat.le_refl _) hb); have y0 := pw_cell_below hb.out z0; have y1 := pw_cell_below hb.out z1; have y2 := pw_cell_below hb.out z2; have y3 := pw_cell_below hb.out z3)
     all_goals
      go_wp2
      go_ret2
      rw [HRR.out]
      exact ⟨_, rfl, Kd.R_nil _ _ _ _ _, hb.out⟩
 · have d1 : ((l0.length : Int) == 4096) = false := beq_eq_false_iff_ne.mpr (by omega)
   have d2 : ((l0.length : Int) != 4096) = true := bne_iff_ne.mpr (by omega)
   have HR := Aside0.mk (show openR l0 = ([], 21) from if_neg c)
   clear hL hr0 hc0 c
   go_enter Tryz.func41, Tryz.ntmps41
   go_wp2
   go_ret2
   rw [HR.out]
   exact ⟨_, rfl, Kd.R_nil _ _ _ _ _, Below.refl _ _⟩
end Go.Proofs.YtppjphghlclklaaGreatDoor.P
end
section
namespace Go.Proofs.YtppjphghlclklaaGreatDoor.P
open Go.RowKit Go.Proofs.YtppjphghlclklaaGreatDoorW.PrintWords Go.Proofs.YtppjphghlclklaaGreatDoorW.PrintLast Go.Proofs.YtppjphghlclklaaGreatDoorW.PrintMore
attribute [local go_sem] max2_int min2_int max_two min_two max_three min_three max_four min_four
set_option linter.unusedVariables false
set_option linter.unusedSimpArgs false
attribute [local go_sem high] plain_neq
theorem page_Encode0 (p0 : Int) (A1 : Option Addr) (n1 c1 : Nat) (p2 : Int) (A3 : Option Addr) (n3 c3 : Nat) (A4 : Option Addr) (n4 c4 : Nat) (p5 : Int) (A6 : Option Addr) (n6 c6 : Nat) (A7 : Option Addr) (n7 c7 : Nat) (h : Hd7) (w : World) (hk : p0 < 1 ∨ 5 < p0) :
 Calls Tryz.prog 13 #[pgv p0 (.slice A1 n1 c1) p2 (.slice A3 n3 c3) (.slice A4 n4 c4) p5 (.slice A6 n6 c6) (.slice A7 n7 c7) h] w (EncPost w ([], 80)) := by
 obtain ⟨h0, h1, h2, h3, h4, h5, h6⟩ := h
 have HK := Aside0.mk hk
 clear hk
 go_enter Tryz.func13, Tryz.ntmps13
 go_wp2_with fail
 obtain ⟨w1, hw1⟩ : ∃ x, x = w.alloc (.cells #[.int .i64 p0, .slice A1 n1 c1, .int .i64 p2, .slice A3 n3 c3, .slice A4 n4 c4, .int .i64 p5, .slice A6 n6 c6, .slice A7 n7 c7, .int .i64 h0, .int .i64 h1, .int .i64 h2, .int .i64 h3, .int .i64 h4, .int .i64 h5, .int .i64 h6] 30) := ⟨_, rfl⟩
 rw [← hw1]
 have HB1 : Aside0 (Below w.heap.size w w1) := ⟨by rw [hw1]; exact below_alloc (Below.refl _ _) _⟩
 have hb1 : w1.heap[w.heap.size]? = some (.cells #[.int .i64 p0, .slice A1 n1 c1, .int .i64 p2, .slice A3 n3 c3, .slice A4 n4 c4, .int .i64 p5, .slice A6 n6 c6, .slice A7 n7 c7, .int .i64 h0, .int .i64 h1, .int .i64 h2, .int .i64 h3, .int .i64 h4, .int .i64 h5, .int .i64 h6] 30) := by rw [hw1]; exact heap_alloc_new _ _
 have HP1 := Aside0.mk hb1
 clear hw1 hb1
 refine (page_kinds.calls _).mono ?_
 rintro e w2 ⟨gk, rfl, hgk, hkc, hB⟩
 have hb2 := (hB.block _ (blk_lt HP1.out)).trans HP1.out
 have HB2 := Aside0.mk (below_step HB1.out hB)
 have q0 := (blk_cell hb2 0).trans rfl
 clear HB1 HP1 hb2 hkc hB hgk
 by_cases c : p0 < 1
 · have d1 : decide (p0 < 1) = true := decide_eq_true c
   go_wp2
   go_ret2
   exact ⟨_, rfl, Kd.R_nil _ _ _ _ _, HB2.out⟩
 · have d1 : decide (p0 < 1) = false := decide_eq_false c
   have d2 : decide (p0 > 5) = true := decide_eq_true (by have := HK.out; omega)
   have d3 : decide (5 < p0) = true := d2
   go_wp2
   go_ret2
   exact ⟨_, rfl, Kd.R_nil _ _ _ _ _, HB2.out⟩
end Go.Proofs.YtppjphghlclklaaGreatDoor.P
end
