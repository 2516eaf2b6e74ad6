/- Parts of a proof, laid together by a program of this session (slim.py). -/
import Derived.Test.YtppjphghlclklaaGreatDoorY1
set_option maxHeartbeats 8000000
set_option maxRecDepth 100000
section
namespace Go.Proofs.YtppjphghlclklaaGreatDoor.P
open Go.RowKit Go.Proofs.YtppjphghlclklaaGreatDoorW.PrintWords Go.Proofs.YtppjphghlclklaaGreatDoorW.PrintLast Go.Proofs.YtppjphghlclklaaGreatDoorW.PrintMore
attribute [local go_sem] max2_int min2_int max_two min_two max_three min_three max_four min_four
set_option linter.unusedVariables false
set_option linter.unusedSimpArgs false
theorem bytes_cells {W : World} {A : Option Addr} {ys : List Int} (hC : Kd.C (Kd.int .u8) W A ys.length ys) {ad : Addr} (hA : A = some ad) (h0 : 0 < ys.length) : ∀ j u, (ys.map (Value.int .u8))[j]? = some u → W.cell? (ad.add j) = some u := fun j u hu => by
 subst hA
 obtain ⟨ad', he, hcell⟩ := hC.2.2 h0
 obtain rfl : ad = ad' := by injection he
 rw [List.getElem?_map] at hu
 obtain ⟨p, hp, rfl⟩ := Option.map_eq_some_iff.1 hu
 obtain ⟨c1, _, rfl, h2⟩ := hcell j p hp
 have := h2 0 _ rfl
 rwa [show (Kd.int IntKind.u8).sz = 1 from rfl, Nat.mul_one, Nat.add_zero] at this
theorem bytes_some {W : World} {A : Option Addr} {ys : List Int} (hC : Kd.C (Kd.int .u8) W A ys.length ys) (h0 : 0 < ys.length) : ∃ ad, A = some ad := by
 obtain ⟨ad, he, _⟩ := hC.2.2 h0
 exact ⟨ad, he⟩
theorem bytes_R {W : World} {base g cap : Nat} {cur : Array Value} {xs : List Int} (hb : base ≤ g) (h : W.heap[g]? = some (.cells cur 5 (0, 0))) (hl : xs.length ≤ cap) (hcap : cap ≤ maxLen) (hsz : cur.size = cap) (hcur : cur.toList.take xs.length = xs.map (Value.int .u8)) :
 Kd.R (Kd.int .u8) 5 W base (fun _ => True) (.slice (some ⟨g, 0, none⟩) xs.length cap) xs := by
 refine Kd.R_of_own (enc := Value.int .u8) ⟨by simp [encs], .inr ⟨g, cap, cur, rfl, hb, h, hl, hcap, by rw [Nat.mul_one]; exact hsz, by rw [Nat.mul_one]; exact hcur⟩⟩ (fun _ _ => trivial)
theorem setCells_below {B g o : Nat} {a W : World} (h : Below B a W) (hg : B ≤ g) (vs : List Value) : Below B a (W.setCells g o vs) := by
 have h1 := setCells_same g vs o W
 exact ⟨h1.1.trans h.os, h1.2.1.trans h.tape, h1.2.2.1.trans h.output, by rw [h1.2.2.2]; exact h.size, fun k hk => (setCells_far vs o k (by omega)).trans (h.block k hk)⟩
def wire_grown.f (l0 : List Int) (a1 : Int) : Option (List Int) := if 0 ≤ a1 then (if (l0.length : Int) + a1 ≤ 140737488355328 then some l0 else none) else none
theorem wire_grown.calls (A0 : Option Addr) (c0 : Nat) (l0 : List Int) (a1 : Int) (r : List Int) (w : World) (hr0 : Kd.C (Kd.int .u8) w A0 l0.length l0) (hc0 : l0.length ≤ c0) (h : wire_grown.f l0 a1 = some r) :
 Calls Tryz.prog 246 #[.slice A0 l0.length c0, .int .i64 a1] w fun e w' => ∃ v0_ : Value, e = .returned (v0_) ∧ Kd.R (Kd.int .u8) 5 w' w.heap.size (fun _ => True) v0_ r ∧ Below w.heap.size w w' := by
 unfold wire_grown.f at h
 by_cases c1 : 0 ≤ a1
 · rw [if_pos c1] at h
   by_cases c2 : (l0.length : Int) + a1 ≤ 140737488355328
   · rw [if_pos c2] at h
     obtain rfl : l0 = r := Option.some.inj h
     clear h
     obtain ⟨c, hc⟩ : ∃ c : Nat, (c : Int) = (l0.length : Int) + a1 := ⟨((l0.length : Int) + a1).toNat, by omega⟩
     obtain ⟨i0, hi0, hz0, hsz0, hby0⟩ := info_parts info5
     have hmk := run_make (P := Tryz.prog) w 25 5 i0 _ Tryz.underlying25 hi0 hz0 .i64 .i64 (l0.length : Int) (c : Int) (by omega) (by omega) (by rw [hby0]; omega) (by omega)
     rw [hsz0] at hmk
     simp only [Int.toNat_natCast, Nat.mul_one] at hmk
     obtain ⟨Z, hZ⟩ : ∃ Z, Z = madeCells (Value.int .u8 0).cells c := ⟨_, rfl⟩
     rw [← hZ] at hmk
     have hZs : Z.size = c := by rw [hZ, size_madeCells]
     have hcp : ∃ W2, (Builtin.copy_ #[25, 25] 3 #[.slice (some ⟨w.heap.size, 0, none⟩) l0.length c, .slice A0 l0.length c0]).run Tryz.prog (w.alloc (.cells Z 5)) = .ok (goInt l0.length) W2 ∧ Kd.R (Kd.int .u8) 5 W2 w.heap.size (fun _ => True) (.slice (some ⟨w.heap.size, 0, none⟩) l0.length c) l0 ∧ Below w.heap.size w W2 := by
      have hb1 : Below w.heap.size w (w.alloc (.cells Z 5)) := below_alloc (Below.refl _ _) _
      have hz1 := heap_alloc_new w (.cells Z 5)
      have hs1 : (Tryz.prog.info? 5).map (·.size) = some 1 := by rw [hi0]; simp [hsz0]
      rcases Nat.eq_zero_or_pos l0.length with h0 | h0
      · obtain rfl : l0 = [] := List.eq_nil_of_length_eq_zero h0
        exact ⟨_, run_copy_none (P := Tryz.prog) _ 25 25 3 5 _ A0 0 c 0 c0 Tryz.underlying25 hs1 rfl, bytes_R (Nat.le_refl _) hz1 (by simp) (by unfold maxLen; omega) hZs (by simp), hb1⟩
      · obtain ⟨ad, rfl⟩ := bytes_some hr0 h0
        have hcell : ∀ j, j < (l0.map (Value.int .u8)).length → ((w.alloc (.cells Z 5)).cell? ⟨w.heap.size, 0 + j, none⟩).isSome = true := fun j hj => by
         rw [List.length_map] at hj
         have he : (w.alloc (.cells Z 5)).cell? ⟨w.heap.size, 0 + j, none⟩ = Z[0 + j]? := by
          unfold World.cell?
          simp only [hz1]
          rfl
         rw [he, Array.getElem?_eq_getElem (by omega)]
         rfl
        have hfro : ∀ j, j < (l0.map (Value.int .u8)).length → (w.alloc (.cells Z 5)).frozen? ⟨w.heap.size, 0 + j, none⟩ = false := fun j hj => by
         unfold World.frozen?
         simp only [hz1]
         simp
        have hrun := run_copy_cells (P := Tryz.prog) (w.alloc (.cells Z 5)) 25 25 3 5 w.heap.size 0 l0.length c ad l0.length c0 (l0.map (Value.int .u8)) Tryz.underlying25 hs1 (by simp) (bytes_cells (Kd.C_alloc hr0 _) rfl h0) hcell hfro (by simp [Value.oneCell'])
        rw [List.length_map] at hrun
        obtain ⟨cur, hh, hsz, htl⟩ := setCells_row (l0.map (Value.int .u8)) 0 (w.alloc (.cells Z 5)) Z hz1 (by rw [List.length_map, hZs]; omega)
        exact ⟨_, hrun, bytes_R (Nat.le_refl _) hh (by omega) (by unfold maxLen; omega) (by rw [hsz, hZs]) (by rw [htl]; simp), setCells_below hb1 (Nat.le_refl _) _⟩
     obtain ⟨W2, hcp1, hcp2, hcp3⟩ := hcp
     have hw : wrap64 ((l0.length : Int) + a1) = c := by unfold wrap64; omega
     clear hr0 hc0 c1 c2 hc hi0 hz0 hsz0 hby0 hZ hZs
     go_enter Tryz.func246, Tryz.ntmps246
     go_wp2
     go_ret
     exact ⟨_, rfl, hcp2, hcp3⟩
   · rw [if_neg c2] at h; cases h
 · rw [if_neg c1] at h; cases h
def wire_PutV.l0 : Nat → Int → List Int → Option (List Int)
 | 0, _, _ => none
 | k + 1, x1, x5 => if x1 ≥ 128 then (if x5.length < 140737488355328 then (wire_PutV.l0 k (x1 / 128) (x5 ++ [Go.bits .or .u8 ((x1) % 256) 128])) else (none)) else (if x5.length < 140737488355328 then (some (x5 ++ [(x1) % 256])) else (none))
def wire_PutV.f (k : Nat) (l0 : List Int) (a1 : Int) : Option (List Int) := (wire_grown.f l0 10).bind fun t127 => (wire_PutV.l0 k a1 t127)
theorem wire_PutV.mono_l : ∀ k, (∀ y0 y1, LeO (wire_PutV.l0 k y0 y1) (wire_PutV.l0 (k + 1) y0 y1))
 | 0 => fun _ _ r h => by simp [wire_PutV.l0] at h
 | k + 1 => by
  have ih0 := wire_PutV.mono_l k
  · intro y0 y1
    unfold wire_PutV.l0
    repeat' first
    | (with_reducible exact ih0 _ _)
    | (with_reducible exact LeO.refl _)
    | (with_reducible exact LeO.none _)
    | (with_reducible refine LeO.ite ?_ ?_)
    | (with_reducible refine LeO.bind ?_ (fun _ => ?_))
    | exact ih0 _ _
    | exact LeO.none _
    | refine LeO.ite ?_ ?_
    | refine LeO.bind ?_ (fun _ => ?_)
theorem wire_PutV.mono : ∀ a0 a1 k, LeO (wire_PutV.f k a0 a1) (wire_PutV.f (k + 1) a0 a1) := by
 intro a0 a1 k
 have ih0 := wire_PutV.mono_l k
 unfold wire_PutV.f
 repeat' first
  | (with_reducible exact ih0 _ _)
  | (with_reducible exact LeO.refl _)
  | (with_reducible exact LeO.none _)
  | (with_reducible refine LeO.ite ?_ ?_)
  | (with_reducible refine LeO.bind ?_ (fun _ => ?_))
  | exact ih0 _ _
  | exact LeO.none _
  | refine LeO.ite ?_ ?_
  | refine LeO.bind ?_ (fun _ => ?_)
theorem wire_PutV.calls (k : Nat) (A0 : Option Addr) (c0 : Nat) (l0 : List Int) (a1 : Int) (r : List Int) (w : World) (hr0 : Kd.C (Kd.int .u8) w A0 l0.length l0) (hc0 : l0.length ≤ c0) (h : wire_PutV.f k l0 a1 = some r) :
 Calls Tryz.prog 161 #[.slice A0 l0.length c0, .int .u64 a1] w fun e w' => ∃ v0_ : Value, e = .returned (v0_) ∧ Kd.R (Kd.int .u8) 5 w' w.heap.size (fun _ => True) v0_ r ∧ Below w.heap.size w w' := by
 have HR0 := Aside0.mk hr0
 have HC0 := Aside0.mk hc0
 clear hr0 hc0
 have HB := Aside0.mk (Below.refl w.heap.size w)
 have H : ((wire_grown.f l0 10).bind fun t127 => (wire_PutV.l0 k a1 t127)) = some r := h
 clear h
 replace H := Option.bind_eq_some_iff.mp H
 obtain ⟨t127, A30, H⟩ := H
 replace H : (wire_PutV.l0 k a1 t127) = some r := H
 have A3 := Aside0.mk A30
 clear A30
 have H' := Aside0.mk H
 clear H
 go_enter Tryz.func161, Tryz.ntmps161
 go_wp2_with (first | ((with_reducible refine gate_callee (f := 246) rfl ?_); refine goesL_ (some 7) rfl rfl Tryz.func246 (by kernel_rfl) rfl #[.slice A0 l0.length c0, .int .i64 10] rfl (by (try simp only [List.map_toArray, List.map_cons, List.map_nil]); first | done | rfl | (simp only [List.length_drop, List.length_take]; rfl)) ?_; (with_reducible refine (wire_grown.calls _ _ l0 10 t127 _ ?side1 ?side2 A3.out).mono ?_); (case side1 => repeat (first | exact HR0.out | (with_reducible refine Kd.C_alloc ?_ _) | (with_reducible refine Kd.C_drewN ?_ _) | (with_reducible refine Kd.C_drew ?_))); (case side2 => exact HC0.out); rintro e w4 ⟨v128, rfl, ho0, hb⟩; refine ⟨_, rfl, ?_⟩; have n0_ := Aside0.mk (Kd.R_lower ho0 (below_size (by repeat (first | (with_reducible first | exact HB.out | apply below_alloc | apply pw_below_drewN | apply below_drew1) | exact HB.out)))); have n1_ := Aside0.mk (below_step (by repeat (first | (with_reducible first | exact HB.out | apply below_alloc | apply pw_below_drewN | apply below_drew1) | exact HB.out)) hb); clear HB; have HO129 := n0_; have HB := n1_; clear n0_ n1_; (try clear hb); (try clear hb2); (try clear hk); (try clear hi); (try clear ho0)))
 go_loopg [1, 5] k (fun kq v1 v5 w' => ∃ (x1_1 : Int) (x5_1 : List Int), v1 = .int .u64 x1_1 ∧ Aside0 (wire_PutV.l0 kq x1_1 x5_1 = some r) ∧ Aside0 (kq ≤ k) ∧ Aside0 (Kd.R (Kd.int .u8) 5 w' w.heap.size (fun _ => True) v5 x5_1) ∧ Aside0 (Below w.heap.size w w'))
 case atStart => exact ⟨(a1), (t127), (by first | rfl | (simp; done) | (simp [*]; done)), H', ⟨Nat.le_refl _⟩, ⟨by (with_reducible repeat (first | apply Kd.R_alloc | apply Kd.R_drewN | apply Kd.R_drew)); exact HO129.out⟩, ⟨by repeat (first | (with_reducible first | exact HB.out | apply below_alloc | apply pw_below_drewN | apply below_drew1) | exact HB.out)⟩⟩
 case round =>
  clear H'
  try clear c1
  try clear c2
  try clear p2
  obtain ⟨x1_1, x5_1, rfl, HA, HK1, HO_5, HB⟩ := hrel
  cases gk with
  | zero => exact absurd HA.out (by simp [wire_PutV.l0])
  | succ k1 =>
   have H := HA.out
   clear HA
   simp only [wire_PutV.l0] at H
   by_cases c5 : x1_1 ≥ 128
   · rw [if_pos c5] at H
     have c5b0 : decide (128 ≤ x1_1) = true := decide_eq_true c5
     clear c5
     by_cases c6 : x5_1.length < 140737488355328
     · rw [if_pos c6] at H
       have LMc6 := Aside0.mk c6
       clear c6
       obtain ⟨y130, hy130⟩ : ∃ y_ : List Int, y_ = (x5_1 ++ [Go.bits .or .u8 ((x1_1) % 256) 128]) := ⟨_, rfl⟩
       replace H : (wire_PutV.l0 k1 (x1_1 / 128) y130) = some r := by first | (rw [hy130]; with_reducible exact H) | (have H2_ := (Option.bind_some _ _).symm.trans H; rw [hy130]; with_reducible exact H2_) | (have H2_ := (Option.bind_some _ _).symm.trans H; with_reducible exact H2_) | with_reducible exact H | (rw [hy130]; exact H) | exact H
       have Ny130 := Aside0.mk hy130
       clear hy130
       have H' := Aside0.mk H
       clear H
       go_wp2_with (first | ((with_reducible refine gate_builtin (b := .append) (xs := #[.tmp 10, .tmp 14]) rfl ?_); at_builtin; refine Kd.R_append (Kd.int .u8) (w0 := w) w.heap.size rfl (.tmp 10) (.tmp 14) 25 5 (.int .u8 0) 1 rfl Tryz.underlying25 info5 rfl (by decide) (by omega) u5 x5_1 (Go.bits .or .u8 ((x1_1) % 256) 128) [.int .u8 (Go.bits .or .u8 ((x1_1) % 256) 128)] (fun _ => True) (fun _ => False) rfl rfl ?aP (fun _ hk => hk.elim) ?aF ?aO ?aB ?aS ?aL ?_; (case aP => exact rfl); (case aB => exact (by repeat (first | (with_reducible first | exact HB.out | apply below_alloc | apply pw_below_drewN | apply below_drew1) | exact HB.out))); (case aF => exact (fun _ _ => trivial)); (case aO => exact (by (with_reducible repeat (first | apply Kd.R_alloc | apply Kd.R_drewN | apply Kd.R_drew)); exact HO_5.out)); (case aS => exact (below_size (by repeat (first | (with_reducible first | exact HB.out | apply below_alloc | apply pw_below_drewN | apply below_drew1) | exact HB.out)))); (case aL => have := LMc6.out; omega); intro v131 w7 ho hb hg hat; rw [← Ny130.out] at ho; have n0_ := Aside0.mk (hb); have n1_ := Aside0.mk (ho); clear HB; clear HO_5; have HB := n0_; have HO132 := n1_; clear n0_ n1_; clear ho hb hg hat))
       go_roundg k1
       case measure => have := HK1.out; omega
       case rel => exact ⟨(x1_1 / 128), (y130), (by first | rfl | (simp; done) | (simp [*]; done)), H', ⟨by have := HK1.out; omega⟩, ⟨by (with_reducible repeat (first | apply Kd.R_alloc | apply Kd.R_drewN | apply Kd.R_drew)); exact HO132.out⟩, ⟨by repeat (first | (with_reducible first | exact HB.out | apply below_alloc | apply pw_below_drewN | apply below_drew1) | exact HB.out)⟩⟩
     · rw [if_neg c6] at H
       exact absurd H (by simp)
   · rw [if_neg c5] at H
     have c5b0 : decide (128 ≤ x1_1) = false := decide_eq_false c5
     clear c5
     by_cases c8 : x5_1.length < 140737488355328
     · rw [if_pos c8] at H
       have LMc8 := Aside0.mk c8
       clear c8
       obtain ⟨y133, hy133⟩ : ∃ y_ : List Int, y_ = (x5_1 ++ [(x1_1) % 256]) := ⟨_, rfl⟩
       replace H : (some y133) = some r := by first | (rw [hy133]; with_reducible exact H) | (have H2_ := (Option.bind_some _ _).symm.trans H; rw [hy133]; with_reducible exact H2_) | (have H2_ := (Option.bind_some _ _).symm.trans H; with_reducible exact H2_) | with_reducible exact H | (rw [hy133]; exact H) | exact H
       have Ny133 := Aside0.mk hy133
       clear hy133
       obtain rfl := Option.some.inj H
       go_wp2_with (first | ((with_reducible refine gate_builtin (b := .append) (xs := #[.tmp 18, .tmp 21]) rfl ?_); at_builtin; refine Kd.R_append (Kd.int .u8) (w0 := w) w.heap.size rfl (.tmp 18) (.tmp 21) 25 5 (.int .u8 0) 1 rfl Tryz.underlying25 info5 rfl (by decide) (by omega) u5 x5_1 ((x1_1) % 256) [.int .u8 ((x1_1) % 256)] (fun _ => True) (fun _ => False) rfl rfl ?aP (fun _ hk => hk.elim) ?aF ?aO ?aB ?aS ?aL ?_; (case aP => exact rfl); (case aB => exact (by repeat (first | (with_reducible first | exact HB.out | apply below_alloc | apply pw_below_drewN | apply below_drew1) | exact HB.out))); (case aF => exact (fun _ _ => trivial)); (case aO => exact (by (with_reducible repeat (first | apply Kd.R_alloc | apply Kd.R_drewN | apply Kd.R_drew)); exact HO_5.out)); (case aS => exact (below_size (by repeat (first | (with_reducible first | exact HB.out | apply below_alloc | apply pw_below_drewN | apply below_drew1) | exact HB.out)))); (case aL => have := LMc8.out; omega); intro v134 w9 ho hb hg hat; rw [← Ny133.out] at ho; have n0_ := Aside0.mk (hb); have n1_ := Aside0.mk (ho); clear HB; clear HO_5; have HB := n0_; have HO135 := n1_; clear n0_ n1_; clear ho hb hg hat))
       go_ret
       exact ⟨_, by first | rfl | (simp [errW_none, errW_some] <;> rfl) | (simp [*, errW_none, errW_some] <;> rfl), by (with_reducible repeat (first | apply Kd.R_alloc | apply Kd.R_drewN | apply Kd.R_drew)); exact HO135.out, by repeat (first | (with_reducible first | exact HB.out | apply below_alloc | apply pw_below_drewN | apply below_drew1) | exact HB.out)⟩
     · rw [if_neg c8] at H
       exact absurd H (by simp)
def wire_width_uint8.f : Option Int := some 1
theorem wire_width_uint8.calls (r : Int) (w : World) (h : wire_width_uint8.f = some r) :
 Calls Tryz.prog 260 #[] w fun e w' => e = .returned (.int .i64 r) ∧ Drawn0 w w' := by
 obtain rfl : 1 = r := Option.some.inj h
 clear h
 go_enter Tryz.func260, Tryz.ntmps260
 go_wp2
 go_loopg [1, 2] 1 (fun kq v1 v2 w' => ((kq = 1 ∧ v1 = .int .i64 0 ∧ v2 = .int .u64 255) ∨ (kq = 0 ∧ v1 = .int .i64 1 ∧ v2 = .int .u64 0)) ∧ Drawn0 w w')
 case atStart => exact ⟨.inl ⟨rfl, by first | rfl | simp, by first | rfl | simp⟩, ⟨0, rfl⟩⟩
 case round =>
  obtain ⟨hv, nd, rfl⟩ := hrel
  rcases hv with ⟨rfl, rfl, rfl⟩ | ⟨rfl, rfl, rfl⟩
  · go_wp2
    go_roundg 0
    case measure => omega
    case rel => exact ⟨by simp, by first | exact ⟨_, rfl⟩ | exact ⟨nd, rfl⟩⟩
  · go_wp2
    go_ret
    exact ⟨rfl, ⟨nd, rfl⟩⟩
def wire_width_uint16.f : Option Int := some 2
theorem wire_width_uint16.calls (r : Int) (w : World) (h : wire_width_uint16.f = some r) :
 Calls Tryz.prog 247 #[] w fun e w' => e = .returned (.int .i64 r) ∧ Drawn0 w w' := by
 obtain rfl : 2 = r := Option.some.inj h
 clear h
 go_enter Tryz.func247, Tryz.ntmps247
 go_wp2
 go_loopg [1, 2] 2 (fun kq v1 v2 w' => ((kq = 2 ∧ v1 = .int .i64 0 ∧ v2 = .int .u64 65535) ∨ (kq = 1 ∧ v1 = .int .i64 1 ∧ v2 = .int .u64 255) ∨ (kq = 0 ∧ v1 = .int .i64 2 ∧ v2 = .int .u64 0)) ∧ Drawn0 w w')
 case atStart => exact ⟨.inl ⟨rfl, by first | rfl | simp, by first | rfl | simp⟩, ⟨0, rfl⟩⟩
 case round =>
  obtain ⟨hv, nd, rfl⟩ := hrel
  rcases hv with ⟨rfl, rfl, rfl⟩ | ⟨rfl, rfl, rfl⟩ | ⟨rfl, rfl, rfl⟩
  · go_wp2
    go_roundg 1
    case measure => omega
    case rel => exact ⟨by simp, by first | exact ⟨_, rfl⟩ | exact ⟨nd, rfl⟩⟩
  · go_wp2
    go_roundg 0
    case measure => omega
    case rel => exact ⟨by simp, by first | exact ⟨_, rfl⟩ | exact ⟨nd, rfl⟩⟩
  · go_wp2
    go_ret
    exact ⟨rfl, ⟨nd, rfl⟩⟩
def wire_width_uint32.f : Option Int := some 4
theorem wire_width_uint32.calls (r : Int) (w : World) (h : wire_width_uint32.f = some r) :
 Calls Tryz.prog 257 #[] w fun e w' => e = .returned (.int .i64 r) ∧ Drawn0 w w' := by
 obtain rfl : 4 = r := Option.some.inj h
 clear h
 go_enter Tryz.func257, Tryz.ntmps257
 go_wp2
 go_loopg [1, 2] 4 (fun kq v1 v2 w' => ((kq = 4 ∧ v1 = .int .i64 0 ∧ v2 = .int .u64 4294967295) ∨ (kq = 3 ∧ v1 = .int .i64 1 ∧ v2 = .int .u64 16777215) ∨ (kq = 2 ∧ v1 = .int .i64 2 ∧ v2 = .int .u64 65535) ∨ (kq = 1 ∧ v1 = .int .i64 3 ∧ v2 = .int .u64 255) ∨ (kq = 0 ∧ v1 = .int .i64 4 ∧ v2 = .int .u64 0)) ∧ Drawn0 w w')
 case atStart => exact ⟨.inl ⟨rfl, by first | rfl | simp, by first | rfl | simp⟩, ⟨0, rfl⟩⟩
 case round =>
  obtain ⟨hv, nd, rfl⟩ := hrel
  rcases hv with ⟨rfl, rfl, rfl⟩ | ⟨rfl, rfl, rfl⟩ | ⟨rfl, rfl, rfl⟩ | ⟨rfl, rfl, rfl⟩ | ⟨rfl, rfl, rfl⟩
  · go_wp2
    go_roundg 3
    case measure => omega
    case rel => exact ⟨by simp, by first | exact ⟨_, rfl⟩ | exact ⟨nd, rfl⟩⟩
  · go_wp2
    go_roundg 2
    case measure => omega
    case rel => exact ⟨by simp, by first | exact ⟨_, rfl⟩ | exact ⟨nd, rfl⟩⟩
  · go_wp2
    go_roundg 1
    case measure => omega
    case rel => exact ⟨by simp, by first | exact ⟨_, rfl⟩ | exact ⟨nd, rfl⟩⟩
  · go_wp2
    go_roundg 0
    case measure => omega
    case rel => exact ⟨by simp, by first | exact ⟨_, rfl⟩ | exact ⟨nd, rfl⟩⟩
  · go_wp2
    go_ret
    exact ⟨rfl, ⟨nd, rfl⟩⟩
def wire_width_uint64.f : Option Int := some 8
theorem wire_width_uint64.calls (r : Int) (w : World) (h : wire_width_uint64.f = some r) :
 Calls Tryz.prog 259 #[] w fun e w' => e = .returned (.int .i64 r) ∧ Drawn0 w w' := by
 obtain rfl : 8 = r := Option.some.inj h
 clear h
 go_enter Tryz.func259, Tryz.ntmps259
 go_wp2
 go_loopg [1, 2] 8 (fun kq v1 v2 w' => ((kq = 8 ∧ v1 = .int .i64 0 ∧ v2 = .int .u64 18446744073709551615) ∨ (kq = 7 ∧ v1 = .int .i64 1 ∧ v2 = .int .u64 72057594037927935) ∨ (kq = 6 ∧ v1 = .int .i64 2 ∧ v2 = .int .u64 281474976710655) ∨ (kq = 5 ∧ v1 = .int .i64 3 ∧ v2 = .int .u64 1099511627775) ∨ (kq = 4 ∧ v1 = .int .i64 4 ∧ v2 = .int .u64 4294967295) ∨ (kq = 3 ∧ v1 = .int .i64 5 ∧ v2 = .int .u64 16777215) ∨ (kq = 2 ∧ v1 = .int .i64 6 ∧ v2 = .int .u64 65535) ∨ (kq = 1 ∧ v1 = .int .i64 7 ∧ v2 = .int .u64 255) ∨ (kq = 0 ∧ v1 = .int .i64 8 ∧ v2 = .int .u64 0)) ∧ Drawn0 w w')
 case atStart => exact ⟨.inl ⟨rfl, by first | rfl | simp, by first | rfl | simp⟩, ⟨0, rfl⟩⟩
 case round =>
  obtain ⟨hv, nd, rfl⟩ := hrel
  rcases hv with ⟨rfl, rfl, rfl⟩ | ⟨rfl, rfl, rfl⟩ | ⟨rfl, rfl, rfl⟩ | ⟨rfl, rfl, rfl⟩ | ⟨rfl, rfl, rfl⟩ | ⟨rfl, rfl, rfl⟩ | ⟨rfl, rfl, rfl⟩ | ⟨rfl, rfl, rfl⟩ | ⟨rfl, rfl, rfl⟩
  · go_wp2
    go_roundg 7
    case measure => omega
    case rel => exact ⟨by simp, by first | exact ⟨_, rfl⟩ | exact ⟨nd, rfl⟩⟩
  · go_wp2
    go_roundg 6
    case measure => omega
    case rel => exact ⟨by simp, by first | exact ⟨_, rfl⟩ | exact ⟨nd, rfl⟩⟩
  · go_wp2
    go_roundg 5
    case measure => omega
    case rel => exact ⟨by simp, by first | exact ⟨_, rfl⟩ | exact ⟨nd, rfl⟩⟩
  · go_wp2
    go_roundg 4
    case measure => omega
    case rel => exact ⟨by simp, by first | exact ⟨_, rfl⟩ | exact ⟨nd, rfl⟩⟩
  · go_wp2
    go_roundg 3
    case measure => omega
    case rel => exact ⟨by simp, by first | exact ⟨_, rfl⟩ | exact ⟨nd, rfl⟩⟩
  · go_wp2
    go_roundg 2
    case measure => omega
    case rel => exact ⟨by simp, by first | exact ⟨_, rfl⟩ | exact ⟨nd, rfl⟩⟩
  · go_wp2
    go_roundg 1
    case measure => omega
    case rel => exact ⟨by simp, by first | exact ⟨_, rfl⟩ | exact ⟨nd, rfl⟩⟩
  · go_wp2
    go_roundg 0
    case measure => omega
    case rel => exact ⟨by simp, by first | exact ⟨_, rfl⟩ | exact ⟨nd, rfl⟩⟩
  · go_wp2
    go_ret
    exact ⟨rfl, ⟨nd, rfl⟩⟩
def wire_Put_uint16.l0 : Nat → List Int → Int → Int → Int → Option (List Int)
 | 0, _, _, _, _ => none
 | k + 1, x5, x6, x11, x12 => if x12 < x11 then (if x5.length < 140737488355328 then (wire_Put_uint16.l0 k (x5 ++ [(x6) % 256]) (x6 / 256) x11 (wrap64 (x12 + 1))) else (none)) else (some x5)
def wire_Put_uint16.f (k : Nat) (l0 : List Int) (a1 : Int) : Option (List Int) := (wire_grown.f l0 8).bind fun t136 => ((wire_width_uint16.f).bind fun t139 => (wire_Put_uint16.l0 k t136 (IntKind.u64.wrap (a1)) t139 0))
theorem wire_Put_uint16.mono_l : ∀ k, (∀ y0 y1 y2 y3, LeO (wire_Put_uint16.l0 k y0 y1 y2 y3) (wire_Put_uint16.l0 (k + 1) y0 y1 y2 y3))
 | 0 => fun _ _ _ _ r h => by simp [wire_Put_uint16.l0] at h
 | k + 1 => by
  have ih0 := wire_Put_uint16.mono_l k
  · intro y0 y1 y2 y3
    unfold wire_Put_uint16.l0
    repeat' first
    | (with_reducible exact ih0 _ _ _ _)
    | (with_reducible exact LeO.refl _)
    | (with_reducible exact LeO.none _)
    | (with_reducible refine LeO.ite ?_ ?_)
    | (with_reducible refine LeO.bind ?_ (fun _ => ?_))
    | exact ih0 _ _ _ _
    | exact LeO.none _
    | refine LeO.ite ?_ ?_
    | refine LeO.bind ?_ (fun _ => ?_)
theorem wire_Put_uint16.mono : ∀ a0 a1 k, LeO (wire_Put_uint16.f k a0 a1) (wire_Put_uint16.f (k + 1) a0 a1) := by
 intro a0 a1 k
 have ih0 := wire_Put_uint16.mono_l k
 unfold wire_Put_uint16.f
 repeat' first
  | (with_reducible exact ih0 _ _ _ _)
  | (with_reducible exact LeO.refl _)
  | (with_reducible exact LeO.none _)
  | (with_reducible refine LeO.ite ?_ ?_)
  | (with_reducible refine LeO.bind ?_ (fun _ => ?_))
  | exact ih0 _ _ _ _
  | exact LeO.none _
  | refine LeO.ite ?_ ?_
  | refine LeO.bind ?_ (fun _ => ?_)
theorem wire_Put_uint16.calls (k : Nat) (A0 : Option Addr) (c0 : Nat) (l0 : List Int) (a1 : Int) (r : List Int) (w : World) (hr0 : Kd.C (Kd.int .u8) w A0 l0.length l0) (hc0 : l0.length ≤ c0) (h : wire_Put_uint16.f k l0 a1 = some r) :
 Calls Tryz.prog 162 #[.slice A0 l0.length c0, .int .u16 a1] w fun e w' => ∃ v0_ : Value, e = .returned (v0_) ∧ Kd.R (Kd.int .u8) 5 w' w.heap.size (fun _ => True) v0_ r ∧ Below w.heap.size w w' := by
 have HR0 := Aside0.mk hr0
 have HC0 := Aside0.mk hc0
 clear hr0 hc0
 have HB := Aside0.mk (Below.refl w.heap.size w)
 have H : ((wire_grown.f l0 8).bind fun t136 => ((wire_width_uint16.f).bind fun t139 => (wire_Put_uint16.l0 k t136 (IntKind.u64.wrap (a1)) t139 0))) = some r := h
 clear h
 replace H := Option.bind_eq_some_iff.mp H
 obtain ⟨t136, A30, H⟩ := H
 replace H : ((wire_width_uint16.f).bind fun t139 => (wire_Put_uint16.l0 k t136 (IntKind.u64.wrap (a1)) t139 0)) = some r := H
 have A3 := Aside0.mk A30
 clear A30
 replace H := Option.bind_eq_some_iff.mp H
 obtain ⟨t139, A40, H⟩ := H
 replace H : (wire_Put_uint16.l0 k t136 (IntKind.u64.wrap (a1)) t139 0) = some r := H
 have A4 := Aside0.mk A40
 clear A40
 have H' := Aside0.mk H
 clear H
 go_enter Tryz.func162, Tryz.ntmps162
 go_wp2_with (first | ((with_reducible refine gate_callee (f := 246) rfl ?_); refine goesL_ (some 8) rfl rfl Tryz.func246 (by kernel_rfl) rfl #[.slice A0 l0.length c0, .int .i64 8] rfl (by (try simp only [List.map_toArray, List.map_cons, List.map_nil]); first | done | rfl | (simp only [List.length_drop, List.length_take]; rfl)) ?_; (with_reducible refine (wire_grown.calls _ _ l0 8 t136 _ ?side1 ?side2 A3.out).mono ?_); (case side1 => repeat (first | exact HR0.out | (with_reducible refine Kd.C_alloc ?_ _) | (with_reducible refine Kd.C_drewN ?_ _) | (with_reducible refine Kd.C_drew ?_))); (case side2 => exact HC0.out); rintro e w5 ⟨v137, rfl, ho0, hb⟩; refine ⟨_, rfl, ?_⟩; have n0_ := Aside0.mk (Kd.R_lower ho0 (below_size (by repeat (first | (with_reducible first | exact HB.out | apply below_alloc | apply pw_below_drewN | apply below_drew1) | exact HB.out)))); have n1_ := Aside0.mk (below_step (by repeat (first | (with_reducible first | exact HB.out | apply below_alloc | apply pw_below_drewN | apply below_drew1) | exact HB.out)) hb); clear HB; have HO138 := n0_; have HB := n1_; clear n0_ n1_; (try clear hb); (try clear hb2); (try clear hk); (try clear hi); (try clear ho0)) | ((with_reducible refine gate_callee (f := 247) rfl ?_); refine goesL_ (some 11) rfl rfl Tryz.func247 (by kernel_rfl) rfl #[] rfl (by (try simp only [List.map_toArray, List.map_cons, List.map_nil]); first | done | rfl | (simp only [List.length_drop, List.length_take]; rfl)) ?_; (with_reducible refine (wire_width_uint16.calls  t139 _ A4.out).mono ?_); rintro e w' ⟨rfl, ⟨nd, rfl⟩⟩; refine ⟨_, rfl, ?_⟩))
 go_loopg [5, 6, 12] k (fun kq v5 v6 v12 w' => ∃ (x5_1 : List Int) (x6_1 : Int) (x12_1 : Int), v6 = .int .u64 x6_1 ∧ v12 = .int .i64 x12_1 ∧ Aside0 (wire_Put_uint16.l0 kq x5_1 x6_1 t139 x12_1 = some r) ∧ Aside0 (kq ≤ k) ∧ Aside0 (Kd.R (Kd.int .u8) 5 w' w.heap.size (fun _ => True) v5 x5_1) ∧ Aside0 (Below w.heap.size w w'))
 case atStart => exact ⟨(t136), (IntKind.u64.wrap (a1)), (0), (by first | rfl | (simp; done) | (simp [*]; done)), (by first | rfl | (simp; done) | (simp [*]; done)), H', ⟨Nat.le_refl _⟩, ⟨by (with_reducible repeat (first | apply Kd.R_alloc | apply Kd.R_drewN | apply Kd.R_drew)); exact HO138.out⟩, ⟨by repeat (first | (with_reducible first | exact HB.out | apply below_alloc | apply pw_below_drewN | apply below_drew1) | exact HB.out)⟩⟩
 case round =>
  clear H'
  try clear c1
  try clear c2
  try clear p2
  obtain ⟨x5_1, x6_1, x12_1, rfl, rfl, HA, HK1, HO_5, HB⟩ := hrel
  cases gk with
  | zero => exact absurd HA.out (by simp [wire_Put_uint16.l0])
  | succ k1 =>
   have H := HA.out
   clear HA
   simp only [wire_Put_uint16.l0] at H
   by_cases c6 : x12_1 < t139
   · rw [if_pos c6] at H
     have c6b0 : decide (x12_1 < t139) = true := decide_eq_true c6
     clear c6
     by_cases c7 : x5_1.length < 140737488355328
     · rw [if_pos c7] at H
       have LMc7 := Aside0.mk c7
       clear c7
       obtain ⟨y140, hy140⟩ : ∃ y_ : List Int, y_ = (x5_1 ++ [(x6_1) % 256]) := ⟨_, rfl⟩
       replace H : (wire_Put_uint16.l0 k1 y140 (x6_1 / 256) t139 (wrap64 (x12_1 + 1))) = some r := by first | (rw [hy140]; with_reducible exact H) | (have H2_ := (Option.bind_some _ _).symm.trans H; rw [hy140]; with_reducible exact H2_) | (have H2_ := (Option.bind_some _ _).symm.trans H; with_reducible exact H2_) | with_reducible exact H | (rw [hy140]; exact H) | exact H
       have Ny140 := Aside0.mk hy140
       clear hy140
       have H' := Aside0.mk H
       clear H
       go_wp2_with (first | ((with_reducible refine gate_builtin (b := .append) (xs := #[.tmp 14, .tmp 17]) rfl ?_); at_builtin; refine Kd.R_append (Kd.int .u8) (w0 := w) w.heap.size rfl (.tmp 14) (.tmp 17) 25 5 (.int .u8 0) 1 rfl Tryz.underlying25 info5 rfl (by decide) (by omega) u5 x5_1 ((x6_1) % 256) [.int .u8 ((x6_1) % 256)] (fun _ => True) (fun _ => False) rfl rfl ?aP (fun _ hk => hk.elim) ?aF ?aO ?aB ?aS ?aL ?_; (case aP => exact rfl); (case aB => exact (by repeat (first | (with_reducible first | exact HB.out | apply below_alloc | apply pw_below_drewN | apply below_drew1) | exact HB.out))); (case aF => exact (fun _ _ => trivial)); (case aO => exact (by (with_reducible repeat (first | apply Kd.R_alloc | apply Kd.R_drewN | apply Kd.R_drew)); exact HO_5.out)); (case aS => exact (below_size (by repeat (first | (with_reducible first | exact HB.out | apply below_alloc | apply pw_below_drewN | apply below_drew1) | exact HB.out)))); (case aL => have := LMc7.out; omega); intro v141 w8 ho hb hg hat; rw [← Ny140.out] at ho; have n0_ := Aside0.mk (hb); have n1_ := Aside0.mk (ho); clear HB; clear HO_5; have HB := n0_; have HO142 := n1_; clear n0_ n1_; clear ho hb hg hat))
       go_roundg k1
       case measure => have := HK1.out; omega
       case rel => exact ⟨(y140), (x6_1 / 256), (wrap64 (x12_1 + 1)), (by first | rfl | (simp; done) | (simp [*]; done)), (by first | rfl | (simp; done) | (simp [*]; done)), H', ⟨by have := HK1.out; omega⟩, ⟨by (with_reducible repeat (first | apply Kd.R_alloc | apply Kd.R_drewN | apply Kd.R_drew)); exact HO142.out⟩, ⟨by repeat (first | (with_reducible first | exact HB.out | apply below_alloc | apply pw_below_drewN | apply below_drew1) | exact HB.out)⟩⟩
     · rw [if_neg c7] at H
       exact absurd H (by simp)
   · rw [if_neg c6] at H
     have c6b0 : decide (x12_1 < t139) = false := decide_eq_false c6
     clear c6
     obtain rfl := Option.some.inj H
     go_wp2
     go_ret
     exact ⟨_, by first | rfl | (simp [errW_none, errW_some] <;> rfl) | (simp [*, errW_none, errW_some] <;> rfl), by (with_reducible repeat (first | apply Kd.R_alloc | apply Kd.R_drewN | apply Kd.R_drew)); exact HO_5.out, by repeat (first | (with_reducible first | exact HB.out | apply below_alloc | apply pw_below_drewN | apply below_drew1) | exact HB.out)⟩
end Go.Proofs.YtppjphghlclklaaGreatDoor.P
end
