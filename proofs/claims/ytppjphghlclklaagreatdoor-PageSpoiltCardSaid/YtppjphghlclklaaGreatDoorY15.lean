/- Parts of a proof, laid together by a program of this session (slim.py). -/
import Derived.Test.YtppjphghlclklaaGreatDoorY14
import Derived.Deep.CutRange
import Derived.StillTailTactics
set_option maxHeartbeats 8000000
set_option maxRecDepth 100000
section
namespace Go.Proofs.YtppjphghlclklaaGreatDoor.P
open Go.RowKit Go.Proofs.YtppjphghlclklaaGreatDoorW.PrintWords Go.Proofs.YtppjphghlclklaaGreatDoorW.PrintLast Go.Proofs.YtppjphghlclklaaGreatDoorW.PrintMore
attribute [local go_sem] max2_int min2_int max_two min_two max_three min_three max_four min_four
set_option linter.unusedVariables false
set_option linter.unusedSimpArgs false
def metaBegin : List Int := [5, 99, 111, 112]
def metaEnd : List Int := [101, 110, 100, 46]
def MetaLaid (w : World) : Prop := (∀ j v, (metaBegin.map (Value.int .u8))[j]? = some v → w.cell? ⟨0, j, none⟩ = some v) ∧ (∀ j v, (metaEnd.map (Value.int .u8))[j]? = some v → w.cell? ⟨1, j, none⟩ = some v)
theorem MetaLaid.below {w W : World} (h : MetaLaid w) (hb : Below w.heap.size w W) : MetaLaid W := ⟨fun j v hv => pw_cell_below hb (h.1 j v hv), fun j v hv => pw_cell_below hb (h.2 j v hv)⟩
def headBytes (v c r h k f n : Int) : List Int := metaBegin ++ leB 8 v ++ leB 4 c ++ leB 4 r ++ leB 1 h ++ leB 8 k ++ leB 4 f ++ leB 4 n
theorem headBytes_length (v c r h k f n : Int) : (headBytes v c r h k f n).length = 37 := by simp [headBytes, leB_length, metaBegin]
def encMetaR (v c r h k f n : Int) : List Int × Int := if mayB v c r h k f n = true then (headBytes v c r h k f n ++ zs 4051 ++ metaEnd, 0) else ([], 71)
theorem lay_first (X : List Int) (N n : Nat) (hX : X.length = n) (hn : n ≤ N) : (zs N).take 0 ++ X.take (min n N) ++ (zs N).drop (0 + min n N) = X ++ zs (N - n) := by
 have h := splice_zero [] X 0 n N rfl hX hn
 rw [Nat.min_eq_left hn, show X.take n = X from List.take_of_length_le (by omega)]
 simpa only [List.nil_append] using h
theorem lay_last (X E : List Int) (k j n m : Nat) (hX : X.length = n) (hE : E.length = m) (hk : j + m = k) : (X ++ zs k).take (n + j) ++ E.take (min m m) ++ (X ++ zs k).drop (n + j + min m m) = X ++ zs j ++ E := by
 subst hX hE hk
 rw [Nat.min_self, List.take_length, List.drop_of_length_le (by rw [List.length_append, zs_length]; omega), List.append_nil, List.take_append, List.take_of_length_le (by omega)]
 unfold zs
 rw [List.take_replicate]
 congr 3
 omega
theorem head_splice (v c r h k f n : Int) : (zs 4092).take 0 ++ (headBytes v c r h k f n).take (min 37 4092) ++ (zs 4092).drop (0 + min 37 4092) = headBytes v c r h k f n ++ zs 4055 := lay_first _ 4092 37 (headBytes_length ..) (by decide)
theorem end_splice (v c r h k f n : Int) : (headBytes v c r h k f n ++ zs 4055).take 4088 ++ metaEnd.take (min 4 4) ++ (headBytes v c r h k f n ++ zs 4055).drop (4088 + min 4 4) = headBytes v c r h k f n ++ zs 4051 ++ metaEnd := lay_last _ metaEnd 4055 4051 37 4 (headBytes_length ..) rfl rfl
theorem below_of_grown_none {w W : World} (h : w.grownBy W none) : Below w.heap.size w W := ⟨h.os, h.tape, h.output, h.size, fun k hk => h.block k hk (by simp)⟩
theorem mayB_true {v c r h k f n : Int} (hm : mayB v c r h k f n = true) : (1 ≤ v ∧ v ≤ 4611686018427387904) ∧ (2 ≤ c ∧ c ≤ 524287) ∧ (0 ≤ r ∧ r < 524287) ∧ (0 ≤ h ∧ h ≤ 16) ∧ (0 ≤ k ∧ k ≤ 4294967295) ∧ (0 ≤ f ∧ f < 524287) ∧ (0 ≤ n ∧ n ≤ 524285) := by
 unfold mayB at hm
 simp only [Bool.and_eq_true] at hm
 obtain ⟨h1, ⟨h2, h3⟩, h4, h5⟩ := hm
 have h1 := of_decide_eq_true h1
 have h2 := of_decide_eq_true h2
 have h3 := of_decide_eq_true h3
 have h4 := of_decide_eq_true h4
 have h5 := of_decide_eq_true h5
 have hw : wrap64 (c - 2) = c - 2 := by unfold wrap64; omega
 rw [hw] at h5
 omega
def RowN (w : World) (m : Nat) (L : List Int) (e : Ending) (w' : World) : Prop := ∃ A c, e = .returned (.slice A m c) ∧ m ≤ c ∧ Kd.C (Kd.int .u8) w' A m L ∧ Below w.heap.size w w'
theorem RowPost.n {w w' : World} {L : List Int} {e : Ending} {m : Nat} (h : RowPost w L e w') (hm : L.length = m) : RowN w m L e w' := by
 obtain ⟨v, rfl, hR, hB⟩ := h
 obtain ⟨A, c, rfl, hl, hC⟩ := Kd.R_reads hR
 rw [hm] at hl hC ⊢
 exact ⟨A, c, rfl, hl, hC, hB⟩
theorem putN_uint8 (A0 : Option Addr) (n c0 : Nat) (L : List Int) (x : Int) (w : World) (hC : Kd.C (Kd.int .u8) w A0 n L) (hc0 : n ≤ c0) (hl : (n : Int) ≤ 70368744177664) (h0 : 0 ≤ x) (h1 : x < 256) :
 Calls Tryz.prog 186 #[.slice A0 n c0, .int .u8 x] w (RowN w (n + 1) (L ++ leB 1 x)) := by
 have hn : L.length = n := hC.1
 subst hn
 exact (put_uint8 A0 c0 L x w hC hc0 hl h0 h1).mono fun e w' h => h.n (by rw [List.length_append, leB_length])
theorem putN_uint32 (A0 : Option Addr) (n c0 : Nat) (L : List Int) (x : Int) (w : World) (hC : Kd.C (Kd.int .u8) w A0 n L) (hc0 : n ≤ c0) (hl : (n : Int) ≤ 70368744177664) (h0 : 0 ≤ x) (h1 : x < 4294967296) :
 Calls Tryz.prog 182 #[.slice A0 n c0, .int .u32 x] w (RowN w (n + 4) (L ++ leB 4 x)) := by
 have hn : L.length = n := hC.1
 subst hn
 exact (put_uint32 A0 c0 L x w hC hc0 hl h0 h1).mono fun e w' h => h.n (by rw [List.length_append, leB_length])
theorem putN_uint64 (A0 : Option Addr) (n c0 : Nat) (L : List Int) (x : Int) (w : World) (hC : Kd.C (Kd.int .u8) w A0 n L) (hc0 : n ≤ c0) (hl : (n : Int) ≤ 70368744177664) (h0 : 0 ≤ x) (h1 : x < 18446744073709551616) :
 Calls Tryz.prog 185 #[.slice A0 n c0, .int .u64 x] w (RowN w (n + 8) (L ++ leB 8 x)) := by
 have hn : L.length = n := hC.1
 subst hn
 exact (put_uint64 A0 c0 L x w hC hc0 hl h0 h1).mono fun e w' h => h.n (by rw [List.length_append, leB_length])
theorem meta_Encode.calls (v c r h k f n : Int) (w : World) (hL : MetaLaid w) :
 Calls Tryz.prog 87 #[.agg #[.int .i64 v, .int .i64 c, .int .i64 r, .int .i64 h, .int .i64 k, .int .i64 f, .int .i64 n]] w (EncPost w (encMetaR v c r h k f n)) := by
 have HM := Aside0.mk (fun W => meta_may.calls v c r h k f n W)
 have HL := Aside0.mk hL
 unfold encMetaR
 obtain ⟨b, hb⟩ : ∃ b, mayB v c r h k f n = b := ⟨_, rfl⟩
 simp only [hb] at HM ⊢
 clear hL
 cases b with
 | true =>
  rw [if_pos rfl]
  have hr := mayB_true hb
  have HR := Aside0.mk hr
  have v0 : (v == 0) = false := beq_eq_false_iff_ne.mpr (by omega)
  clear hb hr
  go_enter Tryz.func87, Tryz.ntmps87
  go_wp2_with fail
  refine (HM.out _).mono ?_
  rintro e w2 ⟨rfl, hb2⟩
  have hbx := blk_below (heap_alloc_new w (.cells #[.int .i64 v, .int .i64 c, .int .i64 r, .int .i64 h, .int .i64 k, .int .i64 f, .int .i64 n] 28)) hb2
  have HBX := Aside0.mk hbx
  have HB2 := Aside0.mk (below_step (below_alloc (Below.refl w.heap.size w) _) hb2)
  have hL2 := HL.out.below HB2.out
  have HG0 := Aside0.mk (show w.heap.size < w2.heap.size from blk_lt hbx)
  have y0 := hL2.1 0 _ rfl
  have y1 := hL2.1 1 _ rfl
  have y2 := hL2.1 2 _ rfl
  have y3 := hL2.1 3 _ rfl
  have x0 := hL2.2 0 _ rfl
  have x1 := hL2.2 1 _ rfl
  have x2 := hL2.2 2 _ rfl
  have x3 := hL2.2 3 _ rfl
  clear hbx hb2 hL2 HM HL
  go_upto_region 3 with (fail)
  go_cut [4, 5] (fun v4 v5 wc => ∃ g4 g5, v4 = .pointer (some ⟨g4, 0, none⟩) ∧ v5 = .pointer (some ⟨g5, 0, none⟩) ∧ Aside0 (w2.heap.size ≤ g4) ∧ Aside0 (Full 131 wc g4 metaBegin) ∧ Aside0 (Full 131 wc g5 metaEnd) ∧ Aside0 (Below w2.heap.size w2 wc))
  case first =>
   go_wp2
   go_meet
   case rel =>
    exact ⟨w2.heap.size, w2.heap.size + 1, rfl, rfl, ⟨Nat.le_refl _⟩, ⟨Full.alloc (show Full 131 (w2.alloc _) w2.heap.size metaBegin from ⟨#[.int .u8 5, .int .u8 99, .int .u8 111, .int .u8 112], heap_alloc_new w2 _, rfl⟩) _⟩, ⟨⟨#[.int .u8 101, .int .u8 110, .int .u8 100, .int .u8 46], by have h := heap_alloc_new (w2.alloc (.cells #[.int .u8 5, .int .u8 99, .int .u8 111, .int .u8 112] 131)) (.cells #[.int .u8 101, .int .u8 110, .int .u8 100, .int .u8 46] 131); simpa using h, rfl⟩⟩, ⟨below_alloc (below_alloc (Below.refl _ _) _) _⟩⟩
  case rest =>
   clear y0 y1 y2 y3 x0 x1 x2 x3
   obtain ⟨g4, g5, rfl, rfl, HG4, HF4, HF5, HBC⟩ := hcut
   obtain ⟨wC, rfl⟩ : ∃ x : World, x = wc := ⟨_, rfl⟩
   have hbx := blk_below HBX.out HBC.out
   have q0 := (blk_cell hbx 0).trans rfl
   have HBX1 := Aside0.mk hbx
   have hv : IntKind.u64.wrap v = v := by have := HR.out.1; rw [IntKind.wrap_u64]; omega
   have HB3 := Aside0.mk (below_step HB2.out HBC.out)
   have HC4 := Aside0.mk (HF4.out.C 4 (by decide) (by decide))
   have HP := Aside0.mk (putN_uint64 (some ⟨g4, 0, none⟩) 4 4 metaBegin v (wC.drewN 1) (Kd.C_drewN HC4.out 1) (Nat.le_refl _) (by decide) (by have := HR.out.1; omega) (by have := HR.out.1; omega))
   have HF5X := HF5
   clear hbx HBX HF5
   go_upto_region 4 with (fail)
   go_cut [6] (fun v6 wd => ∃ A c6, v6 = .slice A 12 c6 ∧ Aside0 (12 ≤ c6 ∧ Kd.C (Kd.int .u8) wd A 12 (metaBegin ++ leB 8 v)) ∧ Aside0 (Below wC.heap.size wC wd))
   case first =>
    go_region_with (go_at_call 185; refine HP.out.mono ?_; rintro e w4 ⟨A6, c6, rfl, hl6, hC6, hB⟩; have HC6 := Aside0.mk (And.intro hl6 hC6); have HB4 := Aside0.mk hB; clear hl6 hC6 hB)
    all_goals
     go_wp2
     go_meet
     case rel => exact ⟨A6, c6, rfl, HC6, ⟨below_then (pw_below_drewN (Below.refl _ _) 1) (Nat.le_refl _) HB4.out⟩⟩
   case rest =>
    clear HP HC4 q0 hv
    obtain ⟨A6, c6, rfl, HC6, HBD⟩ := hcut
    obtain ⟨wd, rfl⟩ : ∃ x : World, x = wc := ⟨_, rfl⟩
    have hbx := blk_below HBX1.out HBD.out
    have HBX2 := Aside0.mk hbx
    have q1 := (blk_cell hbx 1).trans rfl
    have q2 := (blk_cell hbx 2).trans rfl
    have e1 : IntKind.u32.wrap c = c := by have := HR.out; rw [IntKind.wrap_u32]; omega
    have e1b : c % 4294967296 = c := by have := HR.out; omega
    have e2 : IntKind.u32.wrap r = r := by have := HR.out; rw [IntKind.wrap_u32]; omega
    have e2b : r % 4294967296 = r := by have := HR.out; omega
    have HP := Aside0.mk (putN_uint32 A6 12 c6 (metaBegin ++ leB 8 v) c wd.drew (Kd.C_drew HC6.out.2) HC6.out.1 (by decide) (by have := HR.out; omega) (by have := HR.out; omega))
    have HB3' := Aside0.mk (below_step HB3.out HBD.out)
    have HF5Y := Aside0.mk (HF5X.out.below HBD.out)
    clear hbx HBX1 HB3 HF5X
    go_upto_region 5 with (fail)
    go_cut [6] (fun v6 we => ∃ A c6, v6 = .slice A 20 c6 ∧ Aside0 (20 ≤ c6 ∧ Kd.C (Kd.int .u8) we A 20 (metaBegin ++ leB 8 v ++ leB 4 c ++ leB 4 r)) ∧ Aside0 (Below wd.heap.size wd we))
    case first =>
     go_region_with (first
      | (go_at_call 182; (with_reducible refine HQ.out.mono ?_); rintro e w5 ⟨A7, c7, rfl, hl7, hC7, hB⟩; have HC7 := Aside0.mk (And.intro hl7 hC7); have HB5 := Aside0.mk hB; clear hl7 hC7 hB)
      | (go_at_call 182; (with_reducible refine HP.out.mono ?_); rintro e w4 ⟨A8, c8, rfl, hl8, hC8, hB⟩; have HB4 := Aside0.mk (below_then (below_drew1 (Below.refl wd.heap.size wd)) (Nat.le_refl _) hB); have q3 := pw_cell_below HB4.out q2; have HQ := Aside0.mk (putN_uint32 A8 16 c8 (metaBegin ++ leB 8 v ++ leB 4 c) r w4 hC8 hl8 (by decide) (by have := HR.out; omega) (by have := HR.out; omega)); clear hl8 hC8 hB))
     all_goals
      go_wp2
      go_meet
      case rel => exact ⟨A7, c7, rfl, HC7, ⟨below_step HB4.out HB5.out⟩⟩
    case rest =>
     clear HP q1 q2 HC6 HBD
     try clear e1
     try clear e1b
     try clear e2
     try clear e2b
     have HBX1 := HBX2
     have HF5X := HF5Y
     clear HF5Y
     have HB3 := HB3'
     clear HBX2 HB3'
     obtain ⟨A6, c6, rfl, HC6, HBD⟩ := hcut
     obtain ⟨we, rfl⟩ : ∃ x : World, x = wc := ⟨_, rfl⟩
     have hbx := blk_below HBX1.out HBD.out
     have HBX2 := Aside0.mk hbx
     have q1 := (blk_cell hbx 3).trans rfl
     have q2 := (blk_cell hbx 4).trans rfl
     have e1 : IntKind.u8.wrap h = h := by have := HR.out; rw [IntKind.wrap_u8]; omega
     have e1b : h % 256 = h := by have := HR.out; omega
     have e2 : IntKind.u64.wrap k = k := by have := HR.out; rw [IntKind.wrap_u64]; omega
     have HP := Aside0.mk (putN_uint8 A6 20 c6 (metaBegin ++ leB 8 v ++ leB 4 c ++ leB 4 r) h we.drew (Kd.C_drew HC6.out.2) HC6.out.1 (by decide) (by have := HR.out; omega) (by have := HR.out; omega))
     have HB3' := Aside0.mk (below_step HB3.out HBD.out)
     have HF5Y := Aside0.mk (HF5X.out.below HBD.out)
     clear hbx HBX1 HB3 HF5X
     go_upto_region 6 with (fail)
     go_cut [6] (fun v6 wf => ∃ A c6, v6 = .slice A 29 c6 ∧ Aside0 (29 ≤ c6 ∧ Kd.C (Kd.int .u8) wf A 29 (metaBegin ++ leB 8 v ++ leB 4 c ++ leB 4 r ++ leB 1 h ++ leB 8 k)) ∧ Aside0 (Below we.heap.size we wf))
     case first =>
      go_region_with (first
       | (go_at_call 185; (with_reducible refine HQ.out.mono ?_); rintro e w5 ⟨A7, c7, rfl, hl7, hC7, hB⟩; have HC7 := Aside0.mk (And.intro hl7 hC7); have HB5 := Aside0.mk hB; clear hl7 hC7 hB)
       | (go_at_call 186; (with_reducible refine HP.out.mono ?_); rintro e w4 ⟨A8, c8, rfl, hl8, hC8, hB⟩; have HB4 := Aside0.mk (below_then (below_drew1 (Below.refl we.heap.size we)) (Nat.le_refl _) hB); have q3 := pw_cell_below HB4.out q2; have HQ := Aside0.mk (putN_uint64 A8 21 c8 (metaBegin ++ leB 8 v ++ leB 4 c ++ leB 4 r ++ leB 1 h) k w4 hC8 hl8 (by decide) (by have := HR.out; omega) (by have := HR.out; omega)); clear hl8 hC8 hB))
      all_goals
       go_wp2
       go_meet
       case rel => exact ⟨A7, c7, rfl, HC7, ⟨below_step HB4.out HB5.out⟩⟩
     case rest =>
      clear HP q1 q2 HC6 HBD
      try clear e1
      try clear e1b
      try clear e2
      try clear e2b
      have HBX1 := HBX2
      have HF5X := HF5Y
      clear HF5Y
      have HB3 := HB3'
      clear HBX2 HB3'
      obtain ⟨A6, c6, rfl, HC6, HBD⟩ := hcut
      obtain ⟨wf, rfl⟩ : ∃ x : World, x = wc := ⟨_, rfl⟩
      have hbx := blk_below HBX1.out HBD.out
      have HBX2 := Aside0.mk hbx
      have q1 := (blk_cell hbx 5).trans rfl
      have q2 := (blk_cell hbx 6).trans rfl
      have e1 : IntKind.u32.wrap f = f := by have := HR.out; rw [IntKind.wrap_u32]; omega
      have e1b : f % 4294967296 = f := by have := HR.out; omega
      have e2 : IntKind.u32.wrap n = n := by have := HR.out; rw [IntKind.wrap_u32]; omega
      have e2b : n % 4294967296 = n := by have := HR.out; omega
      have HP := Aside0.mk (putN_uint32 A6 29 c6 (metaBegin ++ leB 8 v ++ leB 4 c ++ leB 4 r ++ leB 1 h ++ leB 8 k) f wf.drew (Kd.C_drew HC6.out.2) HC6.out.1 (by decide) (by have := HR.out; omega) (by have := HR.out; omega))
      have HB3' := Aside0.mk (below_step HB3.out HBD.out)
      have HF5Y := Aside0.mk (HF5X.out.below HBD.out)
      clear hbx HBX1 HB3 HF5X
      go_upto_region 7 with (fail)
      go_cut [6] (fun v6 wg => ∃ A c6, v6 = .slice A 37 c6 ∧ Aside0 (37 ≤ c6 ∧ Kd.C (Kd.int .u8) wg A 37 (metaBegin ++ leB 8 v ++ leB 4 c ++ leB 4 r ++ leB 1 h ++ leB 8 k ++ leB 4 f ++ leB 4 n)) ∧ Aside0 (Below wf.heap.size wf wg))
      case first =>
       go_region_with (first
        | (go_at_call 182; (with_reducible refine HQ.out.mono ?_); rintro e w5 ⟨A7, c7, rfl, hl7, hC7, hB⟩; have HC7 := Aside0.mk (And.intro hl7 hC7); have HB5 := Aside0.mk hB; clear hl7 hC7 hB)
        | (go_at_call 182; (with_reducible refine HP.out.mono ?_); rintro e w4 ⟨A8, c8, rfl, hl8, hC8, hB⟩; have HB4 := Aside0.mk (below_then (below_drew1 (Below.refl wf.heap.size wf)) (Nat.le_refl _) hB); have q3 := pw_cell_below HB4.out q2; have HQ := Aside0.mk (putN_uint32 A8 33 c8 (metaBegin ++ leB 8 v ++ leB 4 c ++ leB 4 r ++ leB 1 h ++ leB 8 k ++ leB 4 f) n w4 hC8 hl8 (by decide) (by have := HR.out; omega) (by have := HR.out; omega)); clear hl8 hC8 hB))
       all_goals
        go_wp2
        go_meet
        case rel => exact ⟨A7, c7, rfl, HC7, ⟨below_step HB4.out HB5.out⟩⟩
      case rest =>
       clear HP q1 q2 HC6 HBD
       try clear e1
       try clear e1b
       try clear e2
       try clear e2b
       have HBX1 := HBX2
       have HF5X := HF5Y
       clear HF5Y
       have HB3 := HB3'
       clear HBX2 HB3'
       obtain ⟨A6, c6, rfl, HC6, HBD⟩ := hcut
       obtain ⟨wg, rfl⟩ : ∃ x : World, x = wc := ⟨_, rfl⟩
       have HBW := Aside0.mk (below_step HB3.out HBD.out)
       have hm : (IntKind.i64.wrap 0 : Int) = 0 := rfl
       clear HB3 HBX1 hm
       have HF5' := Aside0.mk (HF5X.out.below HBD.out)
       go_wp2_with (first
        | ((with_reducible refine gate_dst (N := 50) rfl ?_); refine make_full (w0 := w) (base := w.heap.size) rfl (N := 50) rfl 25 _ _ rfl 4092 4092 rfl rfl Tryz.underlying25 info5 (by decide) (by decide) (by decide) HBW.out HBW.out.size ?_; intro wh hF hb hg; rw [show (4092 : Int).toNat = 4092 from rfl] at hF; have HF8 := Aside0.mk hF; have HB8 := Aside0.mk hb; have HC8 := Aside0.mk (Kd.C_below HC6.out.2 (below_of_grown_none hg)); have HF9 := Aside0.mk (HF5'.out.grown hg (by simp)); clear hF hb hg)
        | ((with_reducible refine gate_builtin (b := .copy) (xs := #[.tmp 51, .tmp 52]) rfl ?_); refine copy_full (w0 := w) (base := w.heap.size) rfl (.tmp 51) (.tmp 52) 25 25 rfl Tryz.underlying25 info5 (zs 4092) (headBytes v c r h k f n) A6 37 c6 rfl rfl HF8.out (by rw [zs_length]; decide) HC8.out (by rw [zs_length]; decide) HB8.out HBW.out.size ?_; intro wi hF hb hg; replace hF := (head_splice v c r h k f n) ▸ hF; have HF10 := Aside0.mk hF; have HB10 := Aside0.mk hb; have HF11 := Aside0.mk (HF9.out.grown hg (fun e => by injection e with e; have := HF5'.out.lt; omega)); clear hF hb hg HF8 HB8 HC8 HF9))
       have HC11 := Aside0.mk (HF11.out.C 4 (by decide) (by decide))
       have HB12 := Aside0.mk (below_drew1 HB10.out)
       go_still_tail 3, (by kernel_rfl)
       change wpList _ _ _ _ _ wi.drew
       go_wp2_with (first
        | ((with_reducible refine gate_builtin (b := .copy) (xs := #[.tmp 55, .tmp 56]) rfl ?_); refine copy_full (w0 := w) (base := w.heap.size) rfl (.tmp 55) (.tmp 56) 25 25 rfl Tryz.underlying25 info5 (headBytes v c r h k f n ++ zs 4055) metaEnd (some ⟨g5, 0, none⟩) 4 4 rfl rfl (HF10.out.step rfl) (by rw [List.length_append, zs_length, headBytes_length]; decide) (Kd.C_drew HC11.out) (by rw [List.length_append, zs_length, headBytes_length]; decide) HB12.out HBW.out.size ?_; intro wj hF hb hg; replace hF := (end_splice v c r h k f n) ▸ hF; have HF13 := Aside0.mk hF; have HB13 := Aside0.mk hb; clear hF hb hg))
       go_ret2
       have hlen : (headBytes v c r h k f n ++ zs 4051 ++ metaEnd).length = 4092 := by rw [List.length_append, List.length_append, zs_length, headBytes_length]; rfl
       have hR := HF13.out.R (base := w.heap.size) (ok := fun _ => True) HBW.out.size trivial 4092 (by omega) (by rw [hlen]; decide)
       rw [List.take_of_length_le (by omega), hlen] at hR
       exact ⟨_, rfl, hR, HB13.out⟩
 | false =>
  rw [if_neg (by decide)]
  clear hb HL
  by_cases z0 : v = 0
  · subst z0
    by_cases z1 : c = 0
    · subst z1
      by_cases z2 : r = 0
      · subst z2
        by_cases z3 : h = 0
        · subst z3
          by_cases z4 : k = 0
          · subst z4
            by_cases z5 : f = 0
            · subst z5
              by_cases z6 : n = 0
              · subst z6
                clear HM
                go_enter Tryz.func87, Tryz.ntmps87
                go_wp2
                go_ret2
                exact ⟨_, rfl, Kd.R_nil _ _ _ _ _, below_alloc (Below.refl _ _) _⟩
              · have e6 : (n == 0) = false := beq_eq_false_iff_ne.mpr z6
                clear z6
                go_enter Tryz.func87, Tryz.ntmps87
                go_wp2_with fail
                refine (HM.out _).mono ?_
                rintro e w2 ⟨rfl, hb2⟩
                have HB2 := Aside0.mk (below_step (below_alloc (Below.refl w.heap.size w) _) hb2)
                clear hb2 HM
                go_wp2
                go_ret2
                exact ⟨_, rfl, Kd.R_nil _ _ _ _ _, HB2.out⟩
            · have e5 : (f == 0) = false := beq_eq_false_iff_ne.mpr z5
              clear z5
              go_enter Tryz.func87, Tryz.ntmps87
              go_wp2_with fail
              refine (HM.out _).mono ?_
              rintro e w2 ⟨rfl, hb2⟩
              have HB2 := Aside0.mk (below_step (below_alloc (Below.refl w.heap.size w) _) hb2)
              clear hb2 HM
              go_wp2
              go_ret2
              exact ⟨_, rfl, Kd.R_nil _ _ _ _ _, HB2.out⟩
          · have e4 : (k == 0) = false := beq_eq_false_iff_ne.mpr z4
            clear z4
            go_enter Tryz.func87, Tryz.ntmps87
            go_wp2_with fail
            refine (HM.out _).mono ?_
            rintro e w2 ⟨rfl, hb2⟩
            have HB2 := Aside0.mk (below_step (below_alloc (Below.refl w.heap.size w) _) hb2)
            clear hb2 HM
            go_wp2
            go_ret2
            exact ⟨_, rfl, Kd.R_nil _ _ _ _ _, HB2.out⟩
        · have e3 : (h == 0) = false := beq_eq_false_iff_ne.mpr z3
          clear z3
          go_enter Tryz.func87, Tryz.ntmps87
          go_wp2_with fail
          refine (HM.out _).mono ?_
          rintro e w2 ⟨rfl, hb2⟩
          have HB2 := Aside0.mk (below_step (below_alloc (Below.refl w.heap.size w) _) hb2)
          clear hb2 HM
          go_wp2
          go_ret2
          exact ⟨_, rfl, Kd.R_nil _ _ _ _ _, HB2.out⟩
      · have e2 : (r == 0) = false := beq_eq_false_iff_ne.mpr z2
        clear z2
        go_enter Tryz.func87, Tryz.ntmps87
        go_wp2_with fail
        refine (HM.out _).mono ?_
        rintro e w2 ⟨rfl, hb2⟩
        have HB2 := Aside0.mk (below_step (below_alloc (Below.refl w.heap.size w) _) hb2)
        clear hb2 HM
        go_wp2
        go_ret2
        exact ⟨_, rfl, Kd.R_nil _ _ _ _ _, HB2.out⟩
    · have e1 : (c == 0) = false := beq_eq_false_iff_ne.mpr z1
      clear z1
      go_enter Tryz.func87, Tryz.ntmps87
      go_wp2_with fail
      refine (HM.out _).mono ?_
      rintro e w2 ⟨rfl, hb2⟩
      have HB2 := Aside0.mk (below_step (below_alloc (Below.refl w.heap.size w) _) hb2)
      clear hb2 HM
      go_wp2
      go_ret2
      exact ⟨_, rfl, Kd.R_nil _ _ _ _ _, HB2.out⟩
  · have e0 : (v == 0) = false := beq_eq_false_iff_ne.mpr z0
    clear z0
    go_enter Tryz.func87, Tryz.ntmps87
    go_wp2_with fail
    refine (HM.out _).mono ?_
    rintro e w2 ⟨rfl, hb2⟩
    have HB2 := Aside0.mk (below_step (below_alloc (Below.refl w.heap.size w) _) hb2)
    clear hb2 HM
    go_wp2
    go_ret2
    exact ⟨_, rfl, Kd.R_nil _ _ _ _ _, HB2.out⟩
end Go.Proofs.YtppjphghlclklaaGreatDoor.P
end
