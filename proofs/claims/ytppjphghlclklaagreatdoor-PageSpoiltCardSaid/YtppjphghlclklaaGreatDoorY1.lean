/- Parts of a proof, laid together by a program of this session (slim.py). -/
import Derived.Test.YtppjphghlclklaaGreatDoorProg
import Derived.Below
import Derived.Deep.Draws
import Derived.Deep.AppendLies
import Derived.Maps.AppendAt
import Derived.OwnWalk
import Derived.Laws.BytesArg
import Derived.Laws.MakeOwn
import Derived.Laws.OwnMore
import Derived.Deep.OwnRows
import Derived.Tactics
import Derived.Lib.ConvBytes
import Derived.Laws.Slices
import Derived.WalkKit
import Derived.KernelRfl
import Derived.RowKit3
import Derived.Deep.LoopGhost
import Derived.Deep.QuietTactic
import Derived.BigQuiet
import Derived.WideLaws
import Derived.Deep.DeepCutAuto
import Derived.Deep.CutBlock
import Derived.Deep.RegionHeld3
import Derived.Laws.Rows
import Derived.Lib.AppendStr
import Derived.ArgAppend
import Derived.Laws.IdiomCopy
import Derived.OrdersHeld
import Derived.Laws.BitsLemmas
import Derived.RowKit
import Derived.Test.YtppjphghlclklaaGreatDoorY0
set_option maxHeartbeats 8000000
set_option maxRecDepth 100000
section
namespace Go.Proofs.YtppjphghlclklaaGreatDoor.P
open Go.RowKit Go.Proofs.YtppjphghlclklaaGreatDoorW.PrintWords Go.Proofs.YtppjphghlclklaaGreatDoorW.PrintLast Go.Proofs.YtppjphghlclklaaGreatDoorW.PrintMore
attribute [local go_sem] max2_int min2_int max_two min_two max_three min_three max_four min_four
set_option linter.unusedVariables false
set_option linter.unusedSimpArgs false
def errW : Option Int → Value
 | none => .nilIface
 | some c => .iface 0 (.int .i64 c)
theorem errW_none : errW none = .nilIface := rfl
theorem errW_some (c : Int) : errW (some c) = .iface 0 (.int .i64 c) := rfl
theorem info3 : (Tryz.prog.info? 3).map (fun i => (i.zero, i.size, i.bytes)) = some (some (.int .i64 0), 1, 8) := by kernel_rfl
theorem info5 : (Tryz.prog.info? 5).map (fun i => (i.zero, i.size, i.bytes)) = some (some (.int .u8 0), 1, 1) := by kernel_rfl
theorem info25 : (Tryz.prog.info? 25).map (fun i => (i.zero, i.size, i.bytes)) = some (some (.slice none 0 0), 1, 24) := by kernel_rfl
theorem info77 : (Tryz.prog.info? 77).map (fun i => (i.zero, i.size, i.bytes)) = some (some (.agg #[(.slice none 0 0), (.slice none 0 0), (.int .i64 0), (.int .i64 0)]), 4, 64) := by kernel_rfl
theorem info82 : (Tryz.prog.info? 82).map (fun i => (i.zero, i.size, i.bytes)) = some (some (.agg #[(.int .i64 0), (.int .i64 0)]), 2, 16) := by kernel_rfl
def rd_L1 (xs : List (List Int)) (i : Int) : (List Int) := xs.getD i.toNat ([] : List Int)
theorem at_L1 {w : World} {A : Option Addr} {n : Nat} {xs : List (List Int)} (h : Kd.C (Kd.slice 5 (Kd.int .u8)) w A n xs) (i : Int) (h0 : 0 ≤ i) (h1 : i < n) : ∃ ad A0 c0, A = some ad ∧ w.cell? (ad.add i.toNat) = some (.slice A0 (rd_L1 xs i).length c0) ∧ (rd_L1 xs i).length ≤ c0 ∧ (Kd.int .u8).C w A0 (rd_L1 xs i).length (rd_L1 xs i) := by
 obtain ⟨ad, c, e, _, hK, hc0⟩ := Kd.C_get h ([] : List Int) i h0 h1
 have hc : ∀ j u, c[j]? = some u → w.cell? (ad.add (i.toNat * 1 + j)) = some u := hc0
 obtain ⟨A0, c0, rfl, l0, g0⟩ := hK
 exact ⟨ad, A0, c0, e, by have hq := hc 0 _ rfl; rwa [Nat.mul_one, Nat.add_zero] at hq, l0, g0⟩
structure S77 where
 f0 : (List Int)
 f1 : (List Int)
 f2 : Int
 f3 : Int
def z77 : S77 := ⟨([] : List Int), ([] : List Int), (0 : Int), (0 : Int)⟩
def k77 : Kd S77 := Kd.iso (Kd.pair (Kd.slice 5 (Kd.int .u8)) (Kd.pair (Kd.slice 5 (Kd.int .u8)) (Kd.pair (Kd.int .i64) (Kd.int .i64)))) (fun x : S77 => (x.f0, x.f1, x.f2, x.f3))
theorem k77_heap : Kd.Heap k77 := Kd.heap_iso _ (Kd.heap_pair (Kd.heap_slice 5 (Kd.heap_int .u8)) (Kd.heap_pair (Kd.heap_slice 5 (Kd.heap_int .u8)) (Kd.heap_pair (Kd.heap_int .i64) (Kd.heap_int .i64))))
theorem k77_open {w : World} {x : S77} {cs : List Value} (h : k77.K w x cs) : ∃ A0 c0 A1 c1, cs = [.slice A0 x.f0.length c0, .slice A1 x.f1.length c1, .int .i64 x.f2, .int .i64 x.f3] ∧ x.f0.length ≤ c0 ∧ (Kd.int .u8).C w A0 x.f0.length x.f0 ∧ x.f1.length ≤ c1 ∧ (Kd.int .u8).C w A1 x.f1.length x.f1 := by
 obtain ⟨_, _, rfl, ⟨A0, c0, rfl, l0, g0⟩, ⟨_, _, rfl, ⟨A1, c1, rfl, l1, g1⟩, ⟨_, _, rfl, rfl, rfl⟩⟩⟩ := h
 exact ⟨A0, c0, A1, c1, rfl, l0, g0, l1, g1⟩
theorem k77_mk (w : World) (x : S77) {A0 : Option Addr} {c0 : Nat} (l0 : x.f0.length ≤ c0) (g0 : (Kd.int .u8).C w A0 x.f0.length x.f0) {A1 : Option Addr} {c1 : Nat} (l1 : x.f1.length ≤ c1) (g1 : (Kd.int .u8).C w A1 x.f1.length x.f1) : k77.K w x [.slice A0 x.f0.length c0, .slice A1 x.f1.length c1, .int .i64 x.f2, .int .i64 x.f3] := ⟨[.slice A0 x.f0.length c0], [.slice A1 x.f1.length c1, .int .i64 x.f2, .int .i64 x.f3], rfl, ⟨A0, c0, rfl, l0, g0⟩, ⟨[.slice A1 x.f1.length c1], [.int .i64 x.f2, .int .i64 x.f3], rfl, ⟨A1, c1, rfl, l1, g1⟩, ⟨[.int .i64 x.f2], [.int .i64 x.f3], rfl, rfl, rfl⟩⟩⟩
theorem k77_mkM (w : World) (base : Nat) (ok : Nat → Prop) (x : S77) {v0 : Value} (g0 : (Kd.int .u8).R 5 w base ok v0 x.f0) {v1 : Value} (g1 : (Kd.int .u8).R 5 w base ok v1 x.f1) : k77.M w base ok x [v0, v1, .int .i64 x.f2, .int .i64 x.f3] := ⟨[v0], [v1, .int .i64 x.f2, .int .i64 x.f3], rfl, ⟨v0, rfl, g0⟩, ⟨[v1], [.int .i64 x.f2, .int .i64 x.f3], rfl, ⟨v1, rfl, g1⟩, ⟨[.int .i64 x.f2], [.int .i64 x.f3], rfl, rfl, rfl⟩⟩⟩
theorem k77_openF {W : World} {ok : Nat → Prop} {x : S77} {cs : List Value} (h : Kd.FK k77 W ok x cs) : ∃ A0 c0 A1 c1, cs = [.slice A0 x.f0.length c0, .slice A1 x.f1.length c1, .int .i64 x.f2, .int .i64 x.f3] ∧ x.f0.length ≤ c0 ∧ Kd.F (Kd.int .u8) W ok A0 x.f0.length x.f0 ∧ x.f1.length ≤ c1 ∧ Kd.F (Kd.int .u8) W ok A1 x.f1.length x.f1 := by
 obtain ⟨A0, c0, A1, c1, rfl, l0, _, l1, _⟩ := k77_open (Kd.FK_now h)
 exact ⟨A0, c0, A1, c1, rfl, l0, (fun W' hW => by obtain ⟨A0_, c0_, A1_, c1_, he, l0_, g0_, l1_, g1_⟩ := k77_open (h W' hW); injection (Option.some.inj (show some (Value.slice A0 x.f0.length c0) = some (Value.slice A0_ x.f0.length c0_) from congrArg (fun l => l[0]?) he)) with ha_ _ _; rw [ha_]; exact g0_), l1, (fun W' hW => by obtain ⟨A0_, c0_, A1_, c1_, he, l0_, g0_, l1_, g1_⟩ := k77_open (h W' hW); injection (Option.some.inj (show some (Value.slice A1 x.f1.length c1) = some (Value.slice A1_ x.f1.length c1_) from congrArg (fun l => l[1]?) he)) with ha_ _ _; rw [ha_]; exact g1_)⟩
def rd_T77 (xs : List S77) (i : Int) : S77 := xs.getD i.toNat z77
theorem at_T77 {w : World} {A : Option Addr} {n : Nat} {xs : List S77} (h : Kd.C k77 w A n xs) (i : Int) (h0 : 0 ≤ i) (h1 : i < n) : ∃ ad A0 c0 A1 c1, A = some ad ∧ w.cell? (ad.add (i.toNat * 4)) = some (.slice A0 (rd_T77 xs i).f0.length c0) ∧ w.cell? ⟨(ad.add (i.toNat * 4)).block, (ad.add (i.toNat * 4)).off + 1, none⟩ = some (.slice A1 (rd_T77 xs i).f1.length c1) ∧ w.cell? ⟨(ad.add (i.toNat * 4)).block, (ad.add (i.toNat * 4)).off + 2, none⟩ = some (.int .i64 (rd_T77 xs i).f2) ∧ w.cell? ⟨(ad.add (i.toNat * 4)).block, (ad.add (i.toNat * 4)).off + 3, none⟩ = some (.int .i64 (rd_T77 xs i).f3) ∧ (rd_T77 xs i).f0.length ≤ c0 ∧ (Kd.int .u8).C w A0 (rd_T77 xs i).f0.length (rd_T77 xs i).f0 ∧ (rd_T77 xs i).f1.length ≤ c1 ∧ (Kd.int .u8).C w A1 (rd_T77 xs i).f1.length (rd_T77 xs i).f1 := by
 obtain ⟨ad, c, e, _, hK, hc0⟩ := Kd.C_get h z77 i h0 h1
 have hc : ∀ j u, c[j]? = some u → w.cell? (ad.add (i.toNat * 4 + j)) = some u := hc0
 obtain ⟨A0, c0, A1, c1, rfl, l0, g0, l1, g1⟩ := k77_open hK
 exact ⟨ad, A0, c0, A1, c1, e, hc 0 _ rfl, by rw [← add_field _ _ 1 (by omega)]; exact hc 1 _ rfl, by rw [← add_field _ _ 2 (by omega)]; exact hc 2 _ rfl, by rw [← add_field _ _ 3 (by omega)]; exact hc 3 _ rfl, l0, g0, l1, g1⟩
structure S82 where
 f0 : Int
 f1 : Int
def z82 : S82 := ⟨(0 : Int), (0 : Int)⟩
def k82 : Kd S82 := Kd.iso (Kd.pair (Kd.int .i64) (Kd.int .i64)) (fun x : S82 => (x.f0, x.f1))
theorem k82_open {w : World} {x : S82} {cs : List Value} (h : k82.K w x cs) : cs = [.int .i64 x.f0, .int .i64 x.f1] := by
 obtain ⟨_, _, rfl, rfl, rfl⟩ := h
 exact rfl
theorem k82_mkM (w : World) (base : Nat) (ok : Nat → Prop) (x : S82)  : k82.M w base ok x [.int .i64 x.f0, .int .i64 x.f1] := ⟨[.int .i64 x.f0], [.int .i64 x.f1], rfl, rfl, rfl⟩
def rd_T82 (xs : List S82) (i : Int) : S82 := xs.getD i.toNat z82
theorem at_T82 {w : World} {A : Option Addr} {n : Nat} {xs : List S82} (h : Kd.C k82 w A n xs) (i : Int) (h0 : 0 ≤ i) (h1 : i < n) : ∃ ad , A = some ad ∧ w.cell? (ad.add (i.toNat * 2)) = some (.int .i64 (rd_T82 xs i).f0) ∧ w.cell? ⟨(ad.add (i.toNat * 2)).block, (ad.add (i.toNat * 2)).off + 1, none⟩ = some (.int .i64 (rd_T82 xs i).f1) := by
 obtain ⟨ad, c, e, _, hK, hc0⟩ := Kd.C_get h z82 i h0 h1
 have hc : ∀ j u, c[j]? = some u → w.cell? (ad.add (i.toNat * 2 + j)) = some u := hc0
 obtain rfl := k82_open hK
 exact ⟨ad, e, hc 0 _ rfl, by rw [← add_field _ _ 1 (by omega)]; exact hc 1 _ rfl⟩
structure S110 where
 f0 : Int
 f1 : Int
 f2 : Bool
def keys_Common.l0 : Nat → List Int → List Int → Int → Int → Int → Option (Int)
 | 0, _, _, _, _, _ => none
 | k + 1, x0, x1, x5, x12, x13 => if x13 < x12 then (if 0 ≤ x13 then (if x13 < (x0.length : Int) then (if x13 < (x1.length : Int) then (if (rd x0 x13) = (rd x1 x13) then (keys_Common.l0 k x0 x1 x5 x12 (wrap64 (x13 + 1))) else (some x13)) else (none)) else (none)) else (none)) else (some x5)
def keys_Common.f (k : Nat) (l0 : List Int) (l1 : List Int) : Option (Int) := keys_Common.l0 k l0 l1 (mn (l0.length : Int) (l1.length : Int)) (mn (l0.length : Int) (l1.length : Int)) 0
theorem keys_Common.mono_l : ∀ k, (∀ y0 y1 y2 y3 y4, LeO (keys_Common.l0 k y0 y1 y2 y3 y4) (keys_Common.l0 (k + 1) y0 y1 y2 y3 y4))
 | 0 => fun _ _ _ _ _ r h => by simp [keys_Common.l0] at h
 | k + 1 => by
  have ih0 := keys_Common.mono_l k
  · intro y0 y1 y2 y3 y4
    unfold keys_Common.l0
    repeat' first
    | (with_reducible exact ih0 _ _ _ _ _)
    | (with_reducible exact LeO.refl _)
    | (with_reducible exact LeO.none _)
    | (with_reducible refine LeO.ite ?_ ?_)
    | (with_reducible refine LeO.bind ?_ (fun _ => ?_))
    | exact ih0 _ _ _ _ _
    | exact LeO.none _
    | refine LeO.ite ?_ ?_
    | refine LeO.bind ?_ (fun _ => ?_)
theorem keys_Common.mono : ∀ a0 a1 k, LeO (keys_Common.f k a0 a1) (keys_Common.f (k + 1) a0 a1) := by
 intro a0 a1 k
 have ih0 := keys_Common.mono_l k
 unfold keys_Common.f
 repeat' first
  | (with_reducible exact ih0 _ _ _ _ _)
  | (with_reducible exact LeO.refl _)
  | (with_reducible exact LeO.none _)
  | (with_reducible refine LeO.ite ?_ ?_)
  | (with_reducible refine LeO.bind ?_ (fun _ => ?_))
  | exact ih0 _ _ _ _ _
  | exact LeO.none _
  | refine LeO.ite ?_ ?_
  | refine LeO.bind ?_ (fun _ => ?_)
theorem keys_Common.calls (k : Nat) (A0 : Option Addr) (c0 : Nat) (l0 : List Int) (A1 : Option Addr) (c1 : Nat) (l1 : List Int) (r : Int) (w : World) (hr0 : Kd.C (Kd.int .u8) w A0 l0.length l0) (hc0 : l0.length ≤ c0) (hr1 : Kd.C (Kd.int .u8) w A1 l1.length l1) (hc1 : l1.length ≤ c1) (h : keys_Common.f k l0 l1 = some r) :
 Calls Tryz.prog 254 #[.slice A0 l0.length c0, .slice A1 l1.length c1] w fun e w' => e = .returned (.int .i64 r) ∧ Below w.heap.size w w' := by
 have HR0 := Aside0.mk hr0
 have HC0 := Aside0.mk hc0
 clear hr0 hc0
 have HR1 := Aside0.mk hr1
 have HC1 := Aside0.mk hc1
 clear hr1 hc1
 have HB := Aside0.mk (Below.refl w.heap.size w)
 have H : (keys_Common.l0 k l0 l1 (mn (l0.length : Int) (l1.length : Int)) (mn (l0.length : Int) (l1.length : Int)) 0) = some r := h
 clear h
 obtain ⟨ji3, hji3⟩ : ∃ j_ : Int, (mn (l0.length : Int) (l1.length : Int)) = j_ := ⟨_, rfl⟩
 replace H : (keys_Common.l0 k l0 l1 ji3 ji3 0) = some r := by first | (rw [hji3] at H; exact H) | (simp only [hji3] at H ⊢; exact H)
 (try (have hji3l : 0 ≤ ji3 := by (rw [← hji3]; unfold mn; (repeat' split) <;> omega)))
 (try (have hji3m : 0 ≤ ji3 := by omega))
 have hji3_ : (if (l1.length : Int) < (l0.length : Int) then (l1.length : Int) else (l0.length : Int)) = ji3 := hji3
 have hji3n : (if l1.length < l0.length then (l1.length : Int) else (l0.length : Int)) = ji3 := by rw [← hji3_]; simp only [Int.ofNat_lt]
 have H' := Aside0.mk H
 clear H
 go_enter Tryz.func254, Tryz.ntmps254
 go_wp2
 repeat (go_quiet (fail); try go_wp2)
 go_loopg [13] k (fun kq v13 w' => ∃ (x13_1 : Int), v13 = .int .i64 x13_1 ∧ Aside0 (keys_Common.l0 kq l0 l1 ji3 ji3 x13_1 = some r) ∧ Aside0 (kq ≤ k) ∧ Aside0 (Below w.heap.size w w'))
 case atStart => exact ⟨(0), (by first | rfl | (simp; done) | (simp [*]; done)), H', ⟨Nat.le_refl _⟩, ⟨by repeat (first | (with_reducible first | exact HB.out | apply below_alloc | apply pw_below_drewN | apply below_drew1) | exact HB.out)⟩⟩
 case round =>
  clear H'
  try clear c1
  try clear c2
  try clear p2
  obtain ⟨x13_1, rfl, HA, HK1, HB⟩ := hrel
  cases gk with
  | zero => exact absurd HA.out (by simp [keys_Common.l0])
  | succ k1 =>
   have H := HA.out
   clear HA
   simp only [keys_Common.l0] at H
   by_cases c4 : x13_1 < ji3
   · rw [if_pos c4] at H
     have c4b0 : decide (x13_1 < ji3) = true := decide_eq_true c4
     clear c4
     by_cases c5 : 0 ≤ x13_1
     · rw [if_pos c5] at H
       have c5b0 : decide (0 ≤ x13_1) = true := decide_eq_true c5
       clear c5
       by_cases c6 : x13_1 < (l0.length : Int)
       · rw [if_pos c6] at H
         have c6b0 : decide (x13_1 < (l0.length : Int)) = true := decide_eq_true c6
         clear c6
         by_cases c7 : x13_1 < (l1.length : Int)
         · rw [if_pos c7] at H
           have c7b0 : decide (x13_1 < (l1.length : Int)) = true := decide_eq_true c7
           clear c7
           by_cases c8 : (rd l0 x13_1) = (rd l1 x13_1)
           · rw [if_pos c8] at H
             have c8b0 : ((rd l0 x13_1) == (rd l1 x13_1)) = true := beq_iff_eq.mpr c8
             have c8b1 : ((rd l0 x13_1) != (rd l1 x13_1)) = false := bne_eq_false_iff_eq.mpr c8
             clear c8
             have H' := Aside0.mk H
             clear H
             have p101 : 0 ≤ (x13_1 : Int) := of_decide_eq_true (by first | (with_reducible assumption) | assumption)
             have q101 : x13_1 < (l0.length : Int) := of_decide_eq_true (by first | (with_reducible assumption) | assumption)
             obtain ⟨ad101, e101, hx101_0⟩ := Kd.at_int HR0.out x13_1 p101 q101
             cases e101
             replace hx101_0 := (HB.out.cell (World.block_lt_of_cell? w _ hx101_0)).trans hx101_0
             replace p101 := eq_true p101
             replace q101 := eq_true q101
             have p102 : 0 ≤ (x13_1 : Int) := of_decide_eq_true (by first | (with_reducible assumption) | assumption)
             have q102 : x13_1 < (l1.length : Int) := of_decide_eq_true (by first | (with_reducible assumption) | assumption)
             obtain ⟨ad102, e102, hx102_0⟩ := Kd.at_int HR1.out x13_1 p102 q102
             cases e102
             replace hx102_0 := (HB.out.cell (World.block_lt_of_cell? w _ hx102_0)).trans hx102_0
             replace p102 := eq_true p102
             replace q102 := eq_true q102
             go_wp2
             repeat (go_quiet (fail); try go_wp2)
             go_roundg k1
             case measure => have := HK1.out; omega
             case rel => exact ⟨(wrap64 (x13_1 + 1)), (by first | rfl | (simp; done) | (simp [*]; done)), H', ⟨by have := HK1.out; omega⟩, ⟨by repeat (first | (with_reducible first | exact HB.out | apply below_alloc | apply pw_below_drewN | apply below_drew1) | exact HB.out)⟩⟩
           · rw [if_neg c8] at H
             have c8b0 : ((rd l0 x13_1) == (rd l1 x13_1)) = false := beq_eq_false_iff_ne.mpr c8
             have c8b1 : ((rd l0 x13_1) != (rd l1 x13_1)) = true := bne_iff_ne.mpr c8
             obtain rfl := Option.some.inj H
             have p101 : 0 ≤ (x13_1 : Int) := of_decide_eq_true (by first | (with_reducible assumption) | assumption)
             have q101 : x13_1 < (l0.length : Int) := of_decide_eq_true (by first | (with_reducible assumption) | assumption)
             obtain ⟨ad101, e101, hx101_0⟩ := Kd.at_int HR0.out x13_1 p101 q101
             cases e101
             replace hx101_0 := (HB.out.cell (World.block_lt_of_cell? w _ hx101_0)).trans hx101_0
             replace p101 := eq_true p101
             replace q101 := eq_true q101
             have p102 : 0 ≤ (x13_1 : Int) := of_decide_eq_true (by first | (with_reducible assumption) | assumption)
             have q102 : x13_1 < (l1.length : Int) := of_decide_eq_true (by first | (with_reducible assumption) | assumption)
             obtain ⟨ad102, e102, hx102_0⟩ := Kd.at_int HR1.out x13_1 p102 q102
             cases e102
             replace hx102_0 := (HB.out.cell (World.block_lt_of_cell? w _ hx102_0)).trans hx102_0
             replace p102 := eq_true p102
             replace q102 := eq_true q102
             go_wp2
             repeat (go_quiet (fail); try go_wp2)
             go_ret
             exact ⟨by first | rfl | (simp [errW_none, errW_some] <;> rfl) | (simp only [← hji3]; first | rfl | (simp [errW_none, errW_some] <;> rfl)) | (simp [*, errW_none, errW_some] <;> rfl), by repeat (first | (with_reducible first | exact HB.out | apply below_alloc | apply pw_below_drewN | apply below_drew1) | exact HB.out)⟩
         · rw [if_neg c7] at H
           exact absurd H (by simp)
       · rw [if_neg c6] at H
         exact absurd H (by simp)
     · rw [if_neg c5] at H
       exact absurd H (by simp)
   · rw [if_neg c4] at H
     have c4b0 : decide (x13_1 < ji3) = false := decide_eq_false c4
     clear c4
     obtain rfl := Option.some.inj H
     go_wp2
     repeat (go_quiet (fail); try go_wp2)
     go_ret
     exact ⟨by first | rfl | (simp [errW_none, errW_some] <;> rfl) | (simp only [← hji3]; first | rfl | (simp [errW_none, errW_some] <;> rfl)) | (simp [*, errW_none, errW_some] <;> rfl), by repeat (first | (with_reducible first | exact HB.out | apply below_alloc | apply pw_below_drewN | apply below_drew1) | exact HB.out)⟩
def keys_Valid.f (l0 : List Int) : Option (Bool) := if (l0.length : Int) ≥ 1 then (some (decide ((l0.length : Int) ≤ 255))) else (some false)
theorem keys_Valid.calls (A0 : Option Addr) (c0 : Nat) (l0 : List Int) (r : Bool) (w : World) (hr0 : Kd.C (Kd.int .u8) w A0 l0.length l0) (hc0 : l0.length ≤ c0) (h : keys_Valid.f l0 = some r) :
 Calls Tryz.prog 241 #[.slice A0 l0.length c0] w fun e w' => e = .returned (.bool r) ∧ Drawn0 w w' := by
 have HR0 := Aside0.mk hr0
 have HC0 := Aside0.mk hc0
 clear hr0 hc0
 have H : (if (l0.length : Int) ≥ 1 then (some (decide ((l0.length : Int) ≤ 255))) else (some false)) = some r := h
 clear h
 by_cases c2 : (l0.length : Int) ≥ 1
 · rw [if_pos c2] at H
   have c2b0 : decide (1 ≤ (l0.length : Int)) = true := decide_eq_true c2
   have c2b1 : decide (1 ≤ l0.length) = true := decide_eq_true (by omega)
   clear c2
   obtain rfl := Option.some.inj H
   go_enter Tryz.func241, Tryz.ntmps241
   go_wp2
   go_ret
   exact ⟨by first | rfl | (simp; done) | (simp [*]; done), by repeat (first | exact Drawn0.refl _ | apply Drawn0.step)⟩
 · rw [if_neg c2] at H
   have c2b0 : decide (1 ≤ (l0.length : Int)) = false := decide_eq_false c2
   have c2b1 : decide (1 ≤ l0.length) = false := decide_eq_false (by omega)
   clear c2
   obtain rfl := Option.some.inj H
   go_enter Tryz.func241, Tryz.ntmps241
   go_wp2
   go_ret
   exact ⟨by first | rfl | (simp; done) | (simp [*]; done), by repeat (first | exact Drawn0.refl _ | apply Drawn0.step)⟩
def leaf_chained.f (a0 : Int) : Option (Bool) := some (decide (a0 > 512))
theorem leaf_chained.calls (a0 : Int) (r : Bool) (w : World) (h : leaf_chained.f a0 = some r) :
 Calls Tryz.prog 242 #[.int .i64 a0] w fun e w' => e = .returned (.bool r) ∧ Drawn0 w w' := by
 have H : (some (decide (a0 > 512))) = some r := h
 clear h
 obtain rfl := Option.some.inj H
 go_enter Tryz.func242, Tryz.ntmps242
 go_wp2
 go_ret
 exact ⟨by first | rfl | (simp; done) | (simp [*]; done), by repeat (first | exact Drawn0.refl _ | apply Drawn0.step)⟩
def cmn : List Int → List Int → Nat
 | x :: xs, y :: ys => if x = y then cmn xs ys + 1 else 0
 | _, _ => 0
def cmnAll : List (List Int) → Nat
 | [] => 0
 | a :: l => l.foldl (fun n s => cmn (a.take n) s) a.length
theorem cmn_nil_right (a : List Int) : cmn a [] = 0 := by cases a <;> rfl
theorem cmn_le (a b : List Int) : cmn a b ≤ a.length := by
 induction a generalizing b with
 | nil => simp [cmn]
 | cons x xs ih =>
  cases b with
  | nil => simp [cmn]
  | cons y ys =>
   simp only [cmn]
   split
   · have := ih ys
     simp
     omega
   · simp
theorem common_l0 (a b : List Int) (m : Nat) (hm : m = min a.length b.length) (hb : m ≤ 9223372036854775807) (d : Nat) : ∀ (k i : Nat), i + d = m → d < k →
 keys_Common.l0 k a b m m i = some ((i + cmn (a.drop i) (b.drop i) : Nat) : Int) := by
 induction d with
 | zero =>
  intro k i hi hk
  obtain ⟨k, rfl⟩ : ∃ m, k = m + 1 := ⟨k - 1, by omega⟩
  simp only [keys_Common.l0]
  rw [if_neg (by omega)]
  have h0 : cmn (a.drop i) (b.drop i) = 0 := by
   rcases Nat.le_total a.length b.length with h | h
   · have e : a.drop i = [] := List.drop_eq_nil_of_le (by omega)
     rw [e]
     rfl
   · have e : b.drop i = [] := List.drop_eq_nil_of_le (by omega)
     rw [e]
     exact cmn_nil_right _
  rw [h0]
  congr 1
  omega
 | succ d ih =>
  intro k i hi hk
  obtain ⟨k, rfl⟩ : ∃ m, k = m + 1 := ⟨k - 1, by omega⟩
  have ha : i < a.length := by omega
  have hbl : i < b.length := by omega
  simp only [keys_Common.l0]
  rw [if_pos (by omega), if_pos (by omega), if_pos (by omega), if_pos (by omega)]
  rw [List.drop_eq_getElem_cons ha, List.drop_eq_getElem_cons hbl]
  simp only [rd, Int.toNat_natCast, List.getD_eq_getElem?_getD, List.getElem?_eq_getElem ha, List.getElem?_eq_getElem hbl, Option.getD_some, cmn]
  by_cases h : a[i] = b[i]
  · rw [if_pos h, if_pos h]
    have hw : wrap64 ((i : Int) + 1) = ((i + 1 : Nat) : Int) := by unfold wrap64; omega
    rw [hw, ih k (i + 1) (by omega) (by omega)]
    congr 1
    omega
  · rw [if_neg h, if_neg h]
    rfl
theorem common_any (a b : List Int) (ha : a.length ≤ 9223372036854775807) (hb : b.length ≤ 9223372036854775807) : ∃ k, keys_Common.f k a b = some (cmn a b : Int) := by
 refine ⟨min a.length b.length + 1, ?_⟩
 have h := common_l0 a b (min a.length b.length) rfl (by omega) (min a.length b.length) (min a.length b.length + 1) 0 (by omega) (by omega)
 have hm : mn (a.length : Int) (b.length : Int) = ((min a.length b.length : Nat) : Int) := by unfold mn; split <;> omega
 unfold keys_Common.f
 rw [hm]
 simpa using h
def keys_CommonAll.f (l0 : List (List Int)) : Option Int := some (cmnAll l0)
theorem keys_CommonAll_1.calls (B A0 : Addr) (c0 : Nat) (l0 : List (List Int)) (A1 : Option Addr) (c1 : Nat) (l1 : List Int) (n : Int) (w : World) (hb : w.cell? B = some (.slice (some A0) l0.length c0))
 (A2 : Option Addr) (c2 : Nat) (hx : w.cell? A0 = some (.slice A2 (rd_L1 l0 0).length c2)) (hl : 0 < l0.length) (hr2 : Kd.C (Kd.int .u8) w A2 (rd_L1 l0 0).length (rd_L1 l0 0)) (hc2 : (rd_L1 l0 0).length ≤ c2)
 (hr1 : Kd.C (Kd.int .u8) w A1 l1.length l1) (hc1 : l1.length ≤ c1) (h0 : 0 ≤ n) (hn : n ≤ (rd_L1 l0 0).length) :
 Calls Tryz.prog 253 #[.int .i64 n, .slice A1 l1.length c1, .pointer (some B)] w fun e w' => e = .returned (.int .i64 (cmn ((rd_L1 l0 0).take n.toNat) l1 : Int)) ∧ Below w.heap.size w w' := by
 obtain ⟨t, ht⟩ : ∃ t, t = (rd_L1 l0 0).take n.toNat := ⟨_, rfl⟩
 have hlt : 0 < l0.length := hl
 obtain ⟨i0, hi0, _, hsz, _⟩ := info_parts info5
 have hcut := cut_to (P := Tryz.prog) 25 5 .i64 Tryz.underlying25 hi0 A2 (rd_L1 l0 0).length c2 n h0 hn hc2
 have hr3 := Kd.C_take (m := n.toNat) hr2 (by omega)
 have hln : t.length = n.toNat := by rw [ht, List.length_take]; omega
 rw [← ht] at hr3 ⊢
 rw [← hln] at hcut
 have hc3 : t.length ≤ c2 := by omega
 obtain ⟨k, hk⟩ := common_any t l1 (Kd.C_max hr3) (Kd.C_max hr1)
 have HC := Aside0.mk (keys_Common.calls k A2 c2 t A1 c1 l1 _ w hr3 hc3 hr1 hc1 hk)
 clear hr2 hc2 hr1 hc1 hk hln hn hl ht hr3 hc3
 go_enter Tryz.func253, Tryz.ntmps253
 go_wp2_with fail
 refine HC.out.mono ?_
 rintro e w' ⟨rfl, hbl⟩
 go_wp2
 go_ret
 exact ⟨rfl, hbl⟩
def cmnFrom (a : List Int) (n : Nat) (l : List (List Int)) : Nat := l.foldl (fun n s => cmn (a.take n) s) n
theorem cmnFrom_le (a : List Int) (l : List (List Int)) : ∀ n, n ≤ a.length → cmnFrom a n l ≤ a.length := by
 induction l with
 | nil => intro n hn; exact hn
 | cons s l ih =>
  intro n hn
  have h := cmn_le (a.take n) s
  rw [List.length_take] at h
  exact ih (cmn (a.take n) s) (by omega)
theorem cmnFrom_snoc (a : List Int) (n : Nat) (l : List (List Int)) (s : List Int) : cmnFrom a n (l ++ [s]) = cmn (a.take (cmnFrom a n l)) s := by
 unfold cmnFrom
 rw [List.foldl_append]
 rfl
theorem keys_fold.calls (B A0 : Addr) (c0 : Nat) (l0 : List (List Int)) (A1 : Option Addr) (c1 : Nat) (l1 : List (List Int)) (n : Nat) (w : World) (hb : w.cell? B = some (.slice (some A0) l0.length c0))
 (A2 : Option Addr) (c2 : Nat) (hx : w.cell? A0 = some (.slice A2 (rd_L1 l0 0).length c2)) (hl : 0 < l0.length) (hr2 : Kd.C (Kd.int .u8) w A2 (rd_L1 l0 0).length (rd_L1 l0 0)) (hc2 : (rd_L1 l0 0).length ≤ c2)
 (hr1 : Kd.C (Kd.slice 5 (Kd.int .u8)) w A1 l1.length l1) (hn : n ≤ (rd_L1 l0 0).length) :
 Calls Tryz.prog 252 #[.slice A1 l1.length c1, .int .i64 n, .func (Fn.func 253) #[] #[.pointer (some B)]] w fun e w' => e = .returned (.int .i64 (cmnFrom (rd_L1 l0 0) n l1 : Int)) ∧ Below w.heap.size w w' := by
 have hmax := Kd.C_max hr1
 have HN := Aside0.mk hn
 have HB := Aside0.mk hb
 have HX := Aside0.mk hx
 have HR2 := Aside0.mk hr2
 have HC2 := Aside0.mk hc2
 have HR1 := Aside0.mk hr1
 have HL := Aside0.mk hl
 clear hn hb hx hr2 hc2 hr1 hl
 go_enter Tryz.func252, Tryz.ntmps252
 go_wp2
 go_loopw [1, 8, 11] (fun v1 _ v11 wr => ∃ i : Nat, i ≤ l1.length ∧ v11 = .int .i64 i ∧ v1 = .int .i64 (cmnFrom (rd_L1 l0 0) n (l1.take i)) ∧ Hid (Below w.heap.size w wr)) (fun _ _ v11 _ => l1.length - (intOf v11).toNat)
 case atStart => exact ⟨0, Nat.zero_le _, rfl, rfl, Below.refl _ _⟩
 case round =>
  obtain ⟨i, hi, rfl, rfl, hbl⟩ := hrel
  by_cases hlt : i < l1.length
  · obtain ⟨ad, A3, c3, rfl, hx3, hl3, hr3⟩ := at_L1 (Kd.C_below HR1.out hbl.out) (i : Int) (by omega) (by omega)
    simp only [Int.toNat_natCast] at hx3
    obtain ⟨s, hs⟩ : ∃ s, s = rd_L1 l1 (i : Int) := ⟨_, rfl⟩
    rw [← hs] at hx3 hl3 hr3
    have hm : cmnFrom (rd_L1 l0 0) n (l1.take i) ≤ (rd_L1 l0 0).length := cmnFrom_le _ _ _ HN.out
    have HC := Aside0.mk (keys_CommonAll_1.calls B A0 c0 l0 A3 c3 s (cmnFrom (rd_L1 l0 0) n (l1.take i) : Int) wr (pw_cell_below hbl.out HB.out) A2 c2 (pw_cell_below hbl.out HX.out) HL.out (Kd.C_below HR2.out hbl.out) HC2.out hr3 hl3 (by omega) (by omega))
    have HS := Aside0.mk (show cmnFrom (rd_L1 l0 0) n (l1.take (i + 1)) = cmn ((rd_L1 l0 0).take (cmnFrom (rd_L1 l0 0) n (l1.take i))) s by
     rw [List.take_succ_eq_append_getElem hlt, cmnFrom_snoc]
     rw [hs]
     simp [rd_L1, hlt])
    clear hs hl3 hr3 hm
    go_wp2_with fail
    refine HC.out.mono ?_
    rintro e w2 ⟨rfl, hb2⟩
    go_wp2
    go_roundw
    case rel => exact ⟨i + 1, by omega, by go_num, by rw [HS.out], below_then hbl.out hbl.out.size hb2⟩
    case measure => simp [intOf]; omega
  · have hil : i = l1.length := by omega
    subst hil
    go_wp2
    go_ret
    exact ⟨by simp, hbl.out⟩
theorem keys_CommonAll.calls (A0 : Option Addr) (c0 : Nat) (l0 : List (List Int)) (r : Int) (w : World) (hr0 : Kd.C (Kd.slice 5 (Kd.int .u8)) w A0 l0.length l0) (hc0 : l0.length ≤ c0) (h : keys_CommonAll.f l0 = some r) :
 Calls Tryz.prog 172 #[.slice A0 l0.length c0] w fun e w' => e = .returned (.int .i64 r) ∧ Below w.heap.size w w' := by
 obtain rfl := Option.some.inj h
 clear h
 have hmax := Kd.C_max hr0
 by_cases hl : l0.length = 0
 · obtain rfl := List.length_eq_zero_iff.1 hl
   clear hl hmax
   go_enter Tryz.func172, Tryz.ntmps172
   go_wp2
   go_ret
   exact ⟨rfl, below_alloc (Below.refl _ _) _⟩
 · have hpos : 0 < l0.length := by omega
   have hne : ((l0.length : Int) == 0) = false := by simpa using hl
   obtain ⟨ad, A2, c2, rfl, hx, hl2, hr2⟩ := at_L1 hr0 0 (by omega) (by omega)
   simp only [Int.toNat_zero, Addr.add_zero'] at hx
   have hx1 := fun o => pw_cell_below (below_alloc (Below.refl _ w) o) hx
   obtain ⟨i0, hi0, _, hsz, _⟩ := info_parts info25
   obtain ⟨A1, hA1⟩ : ∃ A1, A1 = (if c0 = (1 : Int).toNat then some ad else (some ad : Option Addr).map (·.add ((1 : Int).toNat * 1))) := ⟨_, rfl⟩
   have hcut := cut_from (P := Tryz.prog) 23 25 .i64 Tryz.underlying23 hi0 1 hsz (some ad) l0.length c0 1 (by omega) (by omega)
   rw [← hA1] at hcut
   have HR1 := Aside0.mk (Kd.C_drop (m := 1) (c := c0) hr0 (by omega) hc0)
   have HA1 := Aside0.mk hA1
   have hlen : (l0.drop 1).length = l0.length - 1 := List.length_drop
   have HX := Aside0.mk hx
   have HR2 := Aside0.mk hr2
   have HL2 := Aside0.mk hl2
   have HLEN := Aside0.mk hlen
   have HE := Aside0.mk (show cmnAll l0 = cmnFrom (rd_L1 l0 0) (rd_L1 l0 0).length (l0.drop 1) by
    cases l0 with
    | nil => simp at hpos
    | cons a l => rfl)
   have hb0 := below_drew (below_alloc (Below.refl w.heap.size w) (.cells #[.slice (some ad) l0.length c0] 23))
   have hc := keys_fold.calls ⟨w.heap.size, 0, none⟩ ad c0 l0 A1 (c0 - 1) (l0.drop 1) (rd_L1 l0 0).length (w.alloc (.cells #[.slice (some ad) l0.length c0] 23)).drew
    (by show (w.alloc (.cells #[.slice (some ad) l0.length c0] 23)).cell? ⟨w.heap.size, 0, none⟩ = _; simp) A2 c2 (pw_cell_below hb0 hx) hpos (Kd.C_below hr2 hb0) hl2 (by rw [hA1]; exact Kd.C_below HR1.out hb0) (Nat.le_refl _)
   rw [hlen, ← HE.out] at hc
   have HC := Aside0.mk hc
   have HB0 := Aside0.mk hb0
   clear hr0 hc0 hA1 hlen hx hr2 hl2 hmax hl hi0 hsz hb0 hc HR1 HA1 HX HR2 HL2 HLEN HE
   go_enter Tryz.func172, Tryz.ntmps172
   go_wp2
   go_region_with (go_at_call 252; refine HC.out.mono ?_; rintro e w' ⟨rfl, hb⟩)
   all_goals
    go_wp2
    go_ret
    exact ⟨rfl, below_then HB0.out HB0.out.size hb⟩
end Go.Proofs.YtppjphghlclklaaGreatDoor.P
end
