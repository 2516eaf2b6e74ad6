/- Parts of a proof, laid together by a program of this session (slim.py). -/
import Derived.Test.YtppjphghlclklaaGreatDoorY1
import Derived.Test.YtppjphghlclklaaGreatDoorY3
import Derived.Test.YtppjphghlclklaaGreatDoorY4
import Derived.Test.YtppjphghlclklaaGreatDoorY5
set_option maxHeartbeats 8000000
set_option maxRecDepth 100000
section
namespace Go.Proofs.YtppjphghlclklaaGreatDoor.P
open Go.RowKit Go.Proofs.YtppjphghlclklaaGreatDoorW.PrintWords Go.Proofs.YtppjphghlclklaaGreatDoorW.PrintLast Go.Proofs.YtppjphghlclklaaGreatDoorW.PrintMore
attribute [local go_sem] max2_int min2_int max_two min_two max_three min_three max_four min_four
set_option linter.unusedVariables false
set_option linter.unusedSimpArgs false
def wire_Reader_Left.f (s0_0 : List Int) (s0_1 : Int) (s0_2 : Int) : Option (Int × Int × Int) := if s0_2 = 0 then (some (wrap64 ((s0_0.length : Int) - s0_1), s0_1, s0_2)) else (some (0, s0_1, s0_2))
def bytes_Equal.f (l0 : List Int) (l1 : List Int) : Option (Bool) := some ((strOfNums l0).toList == (strOfNums l1).toList)
theorem bytes_Equal.calls (A0 : Option Addr) (c0 : Nat) (l0 : List Int) (A1 : Option Addr) (c1 : Nat) (l1 : List Int) (r : Bool) (w : World) (hr0 : Kd.C (Kd.int .u8) w A0 l0.length l0) (hc0 : l0.length ≤ c0) (hr1 : Kd.C (Kd.int .u8) w A1 l1.length l1) (hc1 : l1.length ≤ c1) (h : bytes_Equal.f l0 l1 = some r) :
 Calls Tryz.prog 175 #[.slice A0 l0.length c0, .slice A1 l1.length c1] w fun e w' => e = .returned (.bool r) ∧ Drawn0 w w' := by
 have HR0 := Aside0.mk hr0
 have HC0 := Aside0.mk hc0
 clear hr0 hc0
 have HR1 := Aside0.mk hr1
 have HC1 := Aside0.mk hc1
 clear hr1 hc1
 have H : (some ((strOfNums l0).toList == (strOfNums l1).toList)) = some r := h
 clear h
 obtain rfl := Option.some.inj H
 have hcv3 := Kd.C_string (P := Tryz.prog) (A := A0) (c := c0) Tryz.underlying25 Tryz.underlying5 Tryz.underlying9 HR0.out
 have hcv4 := Kd.C_string (P := Tryz.prog) (A := A1) (c := c1) Tryz.underlying25 Tryz.underlying5 Tryz.underlying9 HR1.out
 go_enter Tryz.func175, Tryz.ntmps175
 go_wp2
 go_ret
 exact ⟨by first | rfl | (simp; done) | (simp [*]; done), by repeat (first | exact Drawn0.refl _ | apply Drawn0.step)⟩
def chain_isNext.f (a0 : Int) : Option (Bool) := if a0 = 0 then (some true) else (if a0 ≥ 2 then (some (decide (a0 < 524287))) else (some false))
theorem chain_isNext.calls (a0 : Int) (r : Bool) (w : World) (h : chain_isNext.f a0 = some r) :
 Calls Tryz.prog 176 #[.int .i64 a0] w fun e w' => e = .returned (.bool r) ∧ Drawn0 w w' := by
 have H : (if a0 = 0 then (some true) else (if a0 ≥ 2 then (some (decide (a0 < 524287))) else (some false))) = some r := h
 clear h
 by_cases c2 : a0 = 0
 · rw [if_pos c2] at H
   have c2b0 : (a0 == 0) = true := beq_iff_eq.mpr c2
   have c2b1 : (a0 != 0) = false := bne_eq_false_iff_eq.mpr c2
   clear c2
   obtain rfl := Option.some.inj H
   go_enter Tryz.func176, Tryz.ntmps176
   go_wp2
   go_ret
   exact ⟨by first | rfl | (simp; done) | (simp [*]; done), by repeat (first | exact Drawn0.refl _ | apply Drawn0.step)⟩
 · rw [if_neg c2] at H
   have c2b0 : (a0 == 0) = false := beq_eq_false_iff_ne.mpr c2
   have c2b1 : (a0 != 0) = true := bne_iff_ne.mpr c2
   by_cases c3 : a0 ≥ 2
   · rw [if_pos c3] at H
     have c3b0 : decide (2 ≤ a0) = true := decide_eq_true c3
     clear c3
     obtain rfl := Option.some.inj H
     go_enter Tryz.func176, Tryz.ntmps176
     go_wp2
     go_ret
     exact ⟨by first | rfl | (simp; done) | (simp [*]; done), by repeat (first | exact Drawn0.refl _ | apply Drawn0.step)⟩
   · rw [if_neg c3] at H
     have c3b0 : decide (2 ≤ a0) = false := decide_eq_false c3
     clear c3
     obtain rfl := Option.some.inj H
     go_enter Tryz.func176, Tryz.ntmps176
     go_wp2
     go_ret
     exact ⟨by first | rfl | (simp; done) | (simp [*]; done), by repeat (first | exact Drawn0.refl _ | apply Drawn0.step)⟩
def chain_isData.f (a0 : Int) (a1 : Int) : Option (Bool) := if a1 ≥ 1 then (if a1 ≤ 4085 then (if a0 = 0 then (some true) else (some (a1 == 4085))) else (some false)) else (some false)
theorem chain_isData.calls (a0 : Int) (a1 : Int) (r : Bool) (w : World) (h : chain_isData.f a0 a1 = some r) :
 Calls Tryz.prog 177 #[.int .i64 a0, .int .i64 a1] w fun e w' => e = .returned (.bool r) ∧ Drawn0 w w' := by
 have H : (if a1 ≥ 1 then (if a1 ≤ 4085 then (if a0 = 0 then (some true) else (some (a1 == 4085))) else (some false)) else (some false)) = some r := h
 clear h
 by_cases c3 : a1 ≥ 1
 · rw [if_pos c3] at H
   have c3b0 : decide (1 ≤ a1) = true := decide_eq_true c3
   clear c3
   by_cases c4 : a1 ≤ 4085
   · rw [if_pos c4] at H
     have c4b0 : decide (a1 ≤ 4085) = true := decide_eq_true c4
     clear c4
     by_cases c5 : a0 = 0
     · rw [if_pos c5] at H
       have c5b0 : (a0 == 0) = true := beq_iff_eq.mpr c5
       have c5b1 : (a0 != 0) = false := bne_eq_false_iff_eq.mpr c5
       clear c5
       obtain rfl := Option.some.inj H
       go_enter Tryz.func177, Tryz.ntmps177
       go_wp2
       go_ret
       exact ⟨by first | rfl | (simp; done) | (simp [*]; done), by repeat (first | exact Drawn0.refl _ | apply Drawn0.step)⟩
     · rw [if_neg c5] at H
       have c5b0 : (a0 == 0) = false := beq_eq_false_iff_ne.mpr c5
       have c5b1 : (a0 != 0) = true := bne_iff_ne.mpr c5
       obtain rfl := Option.some.inj H
       go_enter Tryz.func177, Tryz.ntmps177
       go_wp2
       go_ret
       exact ⟨by first | rfl | (simp; done) | (simp [*]; done), by repeat (first | exact Drawn0.refl _ | apply Drawn0.step)⟩
   · rw [if_neg c4] at H
     have c4b0 : decide (a1 ≤ 4085) = false := decide_eq_false c4
     clear c4
     obtain rfl := Option.some.inj H
     go_enter Tryz.func177, Tryz.ntmps177
     go_wp2
     go_ret
     exact ⟨by first | rfl | (simp; done) | (simp [*]; done), by repeat (first | exact Drawn0.refl _ | apply Drawn0.step)⟩
 · rw [if_neg c3] at H
   have c3b0 : decide (1 ≤ a1) = false := decide_eq_false c3
   clear c3
   obtain rfl := Option.some.inj H
   go_enter Tryz.func177, Tryz.ntmps177
   go_wp2
   go_ret
   exact ⟨by first | rfl | (simp; done) | (simp [*]; done), by repeat (first | exact Drawn0.refl _ | apply Drawn0.step)⟩
def chain_begun.f (k : Nat) (a0 : Int) (a1 : Int) (a2 : Int) : Option (List Int) := if 4092 ≤ 281474976710656 then ((some (([] : List Int) : List Int)).bind fun y226 => (if y226.length < 140737488355328 then ((some (y226 ++ [a0] : List Int)).bind fun y229 => ((wire_Put_uint32.f k ([] : List Int) ((a1) % 4294967296)).bind fun t232 => (if y229.length + t232.length < 140737488355328 then ((some (y229 ++ t232 : List Int)).bind fun y235 => ((wire_Put_uint16.f k ([] : List Int) (IntKind.u16.wrap (a2))).bind fun t238 => (if y235.length + t238.length < 140737488355328 then (some (y235 ++ t238)) else (none)))) else (none)))) else (none))) else (none)
theorem chain_begun.mono : ∀ a0 a1 a2 k, LeO (chain_begun.f k a0 a1 a2) (chain_begun.f (k + 1) a0 a1 a2) := by
 intro a0 a1 a2 k
 unfold chain_begun.f
 repeat' first
  | (with_reducible exact wire_Put_uint16.mono _ _ _)
  | (with_reducible exact wire_Put_uint32.mono _ _ _)
  | (with_reducible exact LeO.refl _)
  | (with_reducible exact LeO.none _)
  | (with_reducible refine LeO.ite ?_ ?_)
  | (with_reducible refine LeO.bind ?_ (fun _ => ?_))
  | exact wire_Put_uint16.mono _ _ _
  | exact wire_Put_uint32.mono _ _ _
  | exact LeO.none _
  | refine LeO.ite ?_ ?_
  | refine LeO.bind ?_ (fun _ => ?_)
def chain_zeros.l0 : Nat → List Int → Int → Int → Option (Bool)
 | 0, _, _, _ => none
 | k + 1, x5, x6, x7 => if x7 < x6 then (if 0 ≤ x7 then (if x7 < (x5.length : Int) then (if (rd x5 x7) = 0 then (chain_zeros.l0 k x5 x6 (wrap64 (x7 + 1))) else (some false)) else (none)) else (none)) else (some true)
def chain_zeros.f (k : Nat) (l0 : List Int) : Option (Bool) := chain_zeros.l0 k l0 (l0.length : Int) 0
theorem chain_zeros.mono_l : ∀ k, (∀ y0 y1 y2, LeO (chain_zeros.l0 k y0 y1 y2) (chain_zeros.l0 (k + 1) y0 y1 y2))
 | 0 => fun _ _ _ r h => by simp [chain_zeros.l0] at h
 | k + 1 => by
  have ih0 := chain_zeros.mono_l k
  · intro y0 y1 y2
    unfold chain_zeros.l0
    repeat' first
    | (with_reducible exact ih0 _ _ _)
    | (with_reducible exact LeO.refl _)
    | (with_reducible exact LeO.none _)
    | (with_reducible refine LeO.ite ?_ ?_)
    | (with_reducible refine LeO.bind ?_ (fun _ => ?_))
    | exact ih0 _ _ _
    | exact LeO.none _
    | refine LeO.ite ?_ ?_
    | refine LeO.bind ?_ (fun _ => ?_)
theorem chain_zeros.mono : ∀ a0 k, LeO (chain_zeros.f k a0) (chain_zeros.f (k + 1) a0) := by
 intro a0 k
 have ih0 := chain_zeros.mono_l k
 unfold chain_zeros.f
 repeat' first
  | (with_reducible exact ih0 _ _ _)
  | (with_reducible exact LeO.refl _)
  | (with_reducible exact LeO.none _)
  | (with_reducible refine LeO.ite ?_ ?_)
  | (with_reducible refine LeO.bind ?_ (fun _ => ?_))
  | exact ih0 _ _ _
  | exact LeO.none _
  | refine LeO.ite ?_ ?_
  | refine LeO.bind ?_ (fun _ => ?_)
theorem chain_zeros.calls (k : Nat) (A0 : Option Addr) (c0 : Nat) (l0 : List Int) (r : Bool) (w : World) (hr0 : Kd.C (Kd.int .u8) w A0 l0.length l0) (hc0 : l0.length ≤ c0) (h : chain_zeros.f k l0 = some r) :
 Calls Tryz.prog 180 #[.slice A0 l0.length c0] w fun e w' => e = .returned (.bool r) ∧ Drawn0 w w' := by
 have HR0 := Aside0.mk hr0
 have HC0 := Aside0.mk hc0
 clear hr0 hc0
 have H : (chain_zeros.l0 k l0 (l0.length : Int) 0) = some r := h
 clear h
 have H' := Aside0.mk H
 clear H
 go_enter Tryz.func180, Tryz.ntmps180
 go_wp2
 go_loopg [7] k (fun kq v7 w' => ∃ (x7_1 : Int), v7 = .int .i64 x7_1 ∧ Aside0 (chain_zeros.l0 kq l0 (l0.length : Int) x7_1 = some r) ∧ Aside0 (kq ≤ k) ∧ Drawn0 w w')
 case atStart => exact ⟨(0), (by first | rfl | (simp; done) | (simp [*]; done)), H', ⟨Nat.le_refl _⟩, by repeat (first | exact Drawn0.refl _ | apply Drawn0.step)⟩
 case round =>
  clear H'
  try clear c1
  obtain ⟨x7_1, rfl, HA, HK1, ⟨m1, rfl⟩⟩ := hrel
  cases gk with
  | zero => exact absurd HA.out (by simp [chain_zeros.l0])
  | succ k1 =>
   have H := HA.out
   clear HA
   simp only [chain_zeros.l0] at H
   by_cases c2 : x7_1 < (l0.length : Int)
   · rw [if_pos c2] at H
     have c2b0 : decide (x7_1 < (l0.length : Int)) = true := decide_eq_true c2
     clear c2
     by_cases c3 : 0 ≤ x7_1
     · rw [if_pos c3] at H
       have c3b0 : decide (0 ≤ x7_1) = true := decide_eq_true c3
       clear c3
       by_cases c4 : x7_1 < (l0.length : Int)
       · rw [if_pos c4] at H
         have c4b0 : decide (x7_1 < (l0.length : Int)) = true := decide_eq_true c4
         clear c4
         by_cases c5 : (rd l0 x7_1) = 0
         · rw [if_pos c5] at H
           have c5b0 : ((rd l0 x7_1) == 0) = true := beq_iff_eq.mpr c5
           have c5b1 : ((rd l0 x7_1) != 0) = false := bne_eq_false_iff_eq.mpr c5
           clear c5
           have H' := Aside0.mk H
           clear H
           have p254 : 0 ≤ (x7_1 : Int) := of_decide_eq_true (by first | (with_reducible assumption) | assumption)
           have q254 : x7_1 < (l0.length : Int) := of_decide_eq_true (by first | (with_reducible assumption) | assumption)
           obtain ⟨ad254, e254, hx254_0⟩ := Kd.at_int HR0.out x7_1 p254 q254
           cases e254
           replace p254 := eq_true p254
           replace q254 := eq_true q254
           go_wp2
           go_roundg k1
           case measure => have := HK1.out; omega
           case rel => exact ⟨(wrap64 (x7_1 + 1)), (by first | rfl | (simp; done) | (simp [*]; done)), H', ⟨by have := HK1.out; omega⟩, by repeat (first | exact Drawn0.refl _ | apply Drawn0.step)⟩
         · rw [if_neg c5] at H
           have c5b0 : ((rd l0 x7_1) == 0) = false := beq_eq_false_iff_ne.mpr c5
           have c5b1 : ((rd l0 x7_1) != 0) = true := bne_iff_ne.mpr c5
           obtain rfl := Option.some.inj H
           have p254 : 0 ≤ (x7_1 : Int) := of_decide_eq_true (by first | (with_reducible assumption) | assumption)
           have q254 : x7_1 < (l0.length : Int) := of_decide_eq_true (by first | (with_reducible assumption) | assumption)
           obtain ⟨ad254, e254, hx254_0⟩ := Kd.at_int HR0.out x7_1 p254 q254
           cases e254
           replace p254 := eq_true p254
           replace q254 := eq_true q254
           go_wp2
           go_ret
           exact ⟨by first | rfl | (simp; done) | (simp [*]; done), by repeat (first | exact Drawn0.refl _ | apply Drawn0.step)⟩
       · rw [if_neg c4] at H
         exact absurd H (by simp)
     · rw [if_neg c3] at H
       exact absurd H (by simp)
   · rw [if_neg c2] at H
     have c2b0 : decide (x7_1 < (l0.length : Int)) = false := decide_eq_false c2
     clear c2
     obtain rfl := Option.some.inj H
     go_wp2
     go_ret
     exact ⟨by first | rfl | (simp; done) | (simp [*]; done), by repeat (first | exact Drawn0.refl _ | apply Drawn0.step)⟩
def chain_isList.l0 : Nat → Int → List Int → Int → List Int → Int → Int → Option (Bool)
 | 0, _, _, _, _, _, _ => none
 | k + 1, x0, x1, x5, x8, x9, x10 => if x10 < x9 then (if 0 ≤ x10 then (if x10 < (x8.length : Int) then (if (rd x8 x10) ≤ x5 then (some false) else (if (rd x8 x10) ≥ 524287 then (some false) else (chain_isList.l0 k x0 x1 (rd x8 x10) x8 x9 (wrap64 (x10 + 1))))) else (none)) else (none)) else (if (x1.length : Int) ≤ 1021 then (if x0 = 0 then (some true) else (some ((x1.length : Int) == 1021))) else (some false))
def chain_isList.f (k : Nat) (a0 : Int) (l1 : List Int) : Option (Bool) := chain_isList.l0 k a0 l1 1 l1 (l1.length : Int) 0
theorem chain_isList.mono_l : ∀ k, (∀ y0 y1 y2 y3 y4 y5, LeO (chain_isList.l0 k y0 y1 y2 y3 y4 y5) (chain_isList.l0 (k + 1) y0 y1 y2 y3 y4 y5))
 | 0 => fun _ _ _ _ _ _ r h => by simp [chain_isList.l0] at h
 | k + 1 => by
  have ih0 := chain_isList.mono_l k
  · intro y0 y1 y2 y3 y4 y5
    unfold chain_isList.l0
    repeat' first
    | (with_reducible exact ih0 _ _ _ _ _ _)
    | (with_reducible exact LeO.refl _)
    | (with_reducible exact LeO.none _)
    | (with_reducible refine LeO.ite ?_ ?_)
    | (with_reducible refine LeO.bind ?_ (fun _ => ?_))
    | exact ih0 _ _ _ _ _ _
    | exact LeO.none _
    | refine LeO.ite ?_ ?_
    | refine LeO.bind ?_ (fun _ => ?_)
theorem chain_isList.mono : ∀ a0 a1 k, LeO (chain_isList.f k a0 a1) (chain_isList.f (k + 1) a0 a1) := by
 intro a0 a1 k
 have ih0 := chain_isList.mono_l k
 unfold chain_isList.f
 repeat' first
  | (with_reducible exact ih0 _ _ _ _ _ _)
  | (with_reducible exact LeO.refl _)
  | (with_reducible exact LeO.none _)
  | (with_reducible refine LeO.ite ?_ ?_)
  | (with_reducible refine LeO.bind ?_ (fun _ => ?_))
  | exact ih0 _ _ _ _ _ _
  | exact LeO.none _
  | refine LeO.ite ?_ ?_
  | refine LeO.bind ?_ (fun _ => ?_)
theorem chain_isList.calls (k : Nat) (a0 : Int) (A1 : Option Addr) (c1 : Nat) (l1 : List Int) (r : Bool) (w : World) (hr1 : Kd.C (Kd.int .i64) w A1 l1.length l1) (hc1 : l1.length ≤ c1) (h : chain_isList.f k a0 l1 = some r) :
 Calls Tryz.prog 181 #[.int .i64 a0, .slice A1 l1.length c1] w fun e w' => e = .returned (.bool r) ∧ Drawn0 w w' := by
 have HR1 := Aside0.mk hr1
 have HC1 := Aside0.mk hc1
 clear hr1 hc1
 have H : (chain_isList.l0 k a0 l1 1 l1 (l1.length : Int) 0) = some r := h
 clear h
 have H' := Aside0.mk H
 clear H
 go_enter Tryz.func181, Tryz.ntmps181
 go_wp2
 go_loopg [5, 10] k (fun kq v5 v10 w' => ∃ (x5_1 : Int) (x10_1 : Int), v5 = .int .i64 x5_1 ∧ v10 = .int .i64 x10_1 ∧ Aside0 (chain_isList.l0 kq a0 l1 x5_1 l1 (l1.length : Int) x10_1 = some r) ∧ Aside0 (kq ≤ k) ∧ Drawn0 w w')
 case atStart => exact ⟨(1), (0), (by first | rfl | (simp; done) | (simp [*]; done)), (by first | rfl | (simp; done) | (simp [*]; done)), H', ⟨Nat.le_refl _⟩, by repeat (first | exact Drawn0.refl _ | apply Drawn0.step)⟩
 case round =>
  clear H'
  try clear c1
  try clear p2
  obtain ⟨x5_1, x10_1, rfl, rfl, HA, HK1, ⟨m1, rfl⟩⟩ := hrel
  cases gk with
  | zero => exact absurd HA.out (by simp [chain_isList.l0])
  | succ k1 =>
   have H := HA.out
   clear HA
   simp only [chain_isList.l0] at H
   by_cases c3 : x10_1 < (l1.length : Int)
   · rw [if_pos c3] at H
     have c3b0 : decide (x10_1 < (l1.length : Int)) = true := decide_eq_true c3
     clear c3
     by_cases c4 : 0 ≤ x10_1
     · rw [if_pos c4] at H
       have c4b0 : decide (0 ≤ x10_1) = true := decide_eq_true c4
       clear c4
       by_cases c5 : x10_1 < (l1.length : Int)
       · rw [if_pos c5] at H
         have c5b0 : decide (x10_1 < (l1.length : Int)) = true := decide_eq_true c5
         clear c5
         by_cases c6 : (rd l1 x10_1) ≤ x5_1
         · rw [if_pos c6] at H
           have c6b0 : decide ((rd l1 x10_1) ≤ x5_1) = true := decide_eq_true c6
           clear c6
           obtain rfl := Option.some.inj H
           have p255 : 0 ≤ (x10_1 : Int) := of_decide_eq_true (by first | (with_reducible assumption) | assumption)
           have q255 : x10_1 < (l1.length : Int) := of_decide_eq_true (by first | (with_reducible assumption) | assumption)
           obtain ⟨ad255, e255, hx255_0⟩ := Kd.at_int HR1.out x10_1 p255 q255
           cases e255
           replace p255 := eq_true p255
           replace q255 := eq_true q255
           go_wp2
           go_ret
           exact ⟨by first | rfl | (simp; done) | (simp [*]; done), by repeat (first | exact Drawn0.refl _ | apply Drawn0.step)⟩
         · rw [if_neg c6] at H
           have c6b0 : decide ((rd l1 x10_1) ≤ x5_1) = false := decide_eq_false c6
           clear c6
           by_cases c7 : (rd l1 x10_1) ≥ 524287
           · rw [if_pos c7] at H
             have c7b0 : decide (524287 ≤ (rd l1 x10_1)) = true := decide_eq_true c7
             clear c7
             obtain rfl := Option.some.inj H
             have p255 : 0 ≤ (x10_1 : Int) := of_decide_eq_true (by first | (with_reducible assumption) | assumption)
             have q255 : x10_1 < (l1.length : Int) := of_decide_eq_true (by first | (with_reducible assumption) | assumption)
             obtain ⟨ad255, e255, hx255_0⟩ := Kd.at_int HR1.out x10_1 p255 q255
             cases e255
             replace p255 := eq_true p255
             replace q255 := eq_true q255
             go_wp2
             go_ret
             exact ⟨by first | rfl | (simp; done) | (simp [*]; done), by repeat (first | exact Drawn0.refl _ | apply Drawn0.step)⟩
           · rw [if_neg c7] at H
             have c7b0 : decide (524287 ≤ (rd l1 x10_1)) = false := decide_eq_false c7
             clear c7
             have H' := Aside0.mk H
             clear H
             have p255 : 0 ≤ (x10_1 : Int) := of_decide_eq_true (by first | (with_reducible assumption) | assumption)
             have q255 : x10_1 < (l1.length : Int) := of_decide_eq_true (by first | (with_reducible assumption) | assumption)
             obtain ⟨ad255, e255, hx255_0⟩ := Kd.at_int HR1.out x10_1 p255 q255
             cases e255
             replace p255 := eq_true p255
             replace q255 := eq_true q255
             go_wp2
             go_roundg k1
             case measure => have := HK1.out; omega
             case rel => exact ⟨(rd l1 x10_1), (wrap64 (x10_1 + 1)), (by first | rfl | (simp; done) | (simp [*]; done)), (by first | rfl | (simp; done) | (simp [*]; done)), H', ⟨by have := HK1.out; omega⟩, by repeat (first | exact Drawn0.refl _ | apply Drawn0.step)⟩
       · rw [if_neg c5] at H
         exact absurd H (by simp)
     · rw [if_neg c4] at H
       exact absurd H (by simp)
   · rw [if_neg c3] at H
     have c3b0 : decide (x10_1 < (l1.length : Int)) = false := decide_eq_false c3
     clear c3
     by_cases c8 : (l1.length : Int) ≤ 1021
     · rw [if_pos c8] at H
       have c8b0 : decide ((l1.length : Int) ≤ 1021) = true := decide_eq_true c8
       have c8b1 : decide (l1.length ≤ 1021) = true := decide_eq_true (by omega)
       clear c8
       by_cases c9 : a0 = 0
       · rw [if_pos c9] at H
         have c9b0 : (a0 == 0) = true := beq_iff_eq.mpr c9
         have c9b1 : (a0 != 0) = false := bne_eq_false_iff_eq.mpr c9
         clear c9
         obtain rfl := Option.some.inj H
         go_wp2
         go_ret
         exact ⟨by first | rfl | (simp; done) | (simp [*]; done), by repeat (first | exact Drawn0.refl _ | apply Drawn0.step)⟩
       · rw [if_neg c9] at H
         have c9b0 : (a0 == 0) = false := beq_eq_false_iff_ne.mpr c9
         have c9b1 : (a0 != 0) = true := bne_iff_ne.mpr c9
         obtain rfl := Option.some.inj H
         go_wp2
         go_ret
         exact ⟨by first | rfl | (simp; done) | (simp [*]; done), by repeat (first | exact Drawn0.refl _ | apply Drawn0.step)⟩
     · rw [if_neg c8] at H
       have c8b0 : decide ((l1.length : Int) ≤ 1021) = false := decide_eq_false c8
       have c8b1 : decide (l1.length ≤ 1021) = false := decide_eq_false (by omega)
       clear c8
       obtain rfl := Option.some.inj H
       go_wp2
       go_ret
       exact ⟨by first | rfl | (simp; done) | (simp [*]; done), by repeat (first | exact Drawn0.refl _ | apply Drawn0.step)⟩
def chain_EncodeList.l0 : Nat → List Int → List Int → Int → Int → Option (List Int × Int)
 | 0, _, _, _, _ => none
 | k + 1, x6, x20, x21, x22 => if x22 < x21 then (if 0 ≤ x22 then (if x22 < (x20.length : Int) then ((wire_Put_uint32.f k ([] : List Int) ((rd x20 x22) % 4294967296)).bind fun t262 => (if x6.length + t262.length < 140737488355328 then (chain_EncodeList.l0 k (x6 ++ t262) x20 x21 (wrap64 (x22 + 1))) else (none))) else (none)) else (none)) else (if 4092 ≤ (x6.length : Int) then (some ((x6.take (4092 : Int).toNat), 0)) else (none))
def chain_EncodeList.f (k : Nat) (a0 : Int) (l1 : List Int) : Option (List Int × Int) := (chain_isNext.f a0).bind fun t256 => (if t256 = true then ((chain_isList.f k a0 l1).bind fun t257 => (if t257 = true then ((chain_begun.f k 4 a0 (l1.length : Int)).bind fun t258 => (chain_EncodeList.l0 k t258 l1 (l1.length : Int) 0)) else (some (([] : List Int), 63)))) else (some (([] : List Int), 51)))
theorem chain_EncodeList.mono_l : ∀ k, (∀ y0 y1 y2 y3, LeO (chain_EncodeList.l0 k y0 y1 y2 y3) (chain_EncodeList.l0 (k + 1) y0 y1 y2 y3))
 | 0 => fun _ _ _ _ r h => by simp [chain_EncodeList.l0] at h
 | k + 1 => by
  have ih0 := chain_EncodeList.mono_l k
  · intro y0 y1 y2 y3
    unfold chain_EncodeList.l0
    repeat' first
    | (with_reducible exact ih0 _ _ _ _)
    | (with_reducible exact chain_begun.mono _ _ _ _)
    | (with_reducible exact chain_isList.mono _ _ _)
    | (with_reducible exact wire_Put_uint32.mono _ _ _)
    | (with_reducible exact LeO.refl _)
    | (with_reducible exact LeO.none _)
    | (with_reducible refine LeO.ite ?_ ?_)
    | (with_reducible refine LeO.bind ?_ (fun _ => ?_))
    | exact ih0 _ _ _ _
    | exact chain_begun.mono _ _ _ _
    | exact chain_isList.mono _ _ _
    | exact wire_Put_uint32.mono _ _ _
    | exact LeO.none _
    | refine LeO.ite ?_ ?_
    | refine LeO.bind ?_ (fun _ => ?_)
theorem chain_EncodeList.mono : ∀ a0 a1 k, LeO (chain_EncodeList.f k a0 a1) (chain_EncodeList.f (k + 1) a0 a1) := by
 intro a0 a1 k
 have ih0 := chain_EncodeList.mono_l k
 unfold chain_EncodeList.f
 repeat' first
  | (with_reducible exact ih0 _ _ _ _)
  | (with_reducible exact chain_begun.mono _ _ _ _)
  | (with_reducible exact chain_isList.mono _ _ _)
  | (with_reducible exact wire_Put_uint32.mono _ _ _)
  | (with_reducible exact LeO.refl _)
  | (with_reducible exact LeO.none _)
  | (with_reducible refine LeO.ite ?_ ?_)
  | (with_reducible refine LeO.bind ?_ (fun _ => ?_))
  | exact ih0 _ _ _ _
  | exact chain_begun.mono _ _ _ _
  | exact chain_isList.mono _ _ _
  | exact wire_Put_uint32.mono _ _ _
  | exact LeO.none _
  | refine LeO.ite ?_ ?_
  | refine LeO.bind ?_ (fun _ => ?_)
def meta_page.f (a0 : Int) (a1 : Int) : Option (Bool) := if a0 = 0 then (some true) else (if a0 ≥ 2 then (some (decide (a0 < a1))) else (some false))
theorem meta_page.calls (a0 : Int) (a1 : Int) (r : Bool) (w : World) (h : meta_page.f a0 a1 = some r) :
 Calls Tryz.prog 258 #[.int .i64 a0, .int .i64 a1] w fun e w' => e = .returned (.bool r) ∧ Drawn0 w w' := by
 have H : (if a0 = 0 then (some true) else (if a0 ≥ 2 then (some (decide (a0 < a1))) else (some false))) = some r := h
 clear h
 by_cases c3 : a0 = 0
 · rw [if_pos c3] at H
   have c3b0 : (a0 == 0) = true := beq_iff_eq.mpr c3
   have c3b1 : (a0 != 0) = false := bne_eq_false_iff_eq.mpr c3
   clear c3
   obtain rfl := Option.some.inj H
   go_enter Tryz.func258, Tryz.ntmps258
   go_wp2
   go_ret
   exact ⟨by first | rfl | (simp; done) | (simp [*]; done), by repeat (first | exact Drawn0.refl _ | apply Drawn0.step)⟩
 · rw [if_neg c3] at H
   have c3b0 : (a0 == 0) = false := beq_eq_false_iff_ne.mpr c3
   have c3b1 : (a0 != 0) = true := bne_iff_ne.mpr c3
   by_cases c4 : a0 ≥ 2
   · rw [if_pos c4] at H
     have c4b0 : decide (2 ≤ a0) = true := decide_eq_true c4
     clear c4
     obtain rfl := Option.some.inj H
     go_enter Tryz.func258, Tryz.ntmps258
     go_wp2
     go_ret
     exact ⟨by first | rfl | (simp; done) | (simp [*]; done), by repeat (first | exact Drawn0.refl _ | apply Drawn0.step)⟩
   · rw [if_neg c4] at H
     have c4b0 : decide (2 ≤ a0) = false := decide_eq_false c4
     clear c4
     obtain rfl := Option.some.inj H
     go_enter Tryz.func258, Tryz.ntmps258
     go_wp2
     go_ret
     exact ⟨by first | rfl | (simp; done) | (simp [*]; done), by repeat (first | exact Drawn0.refl _ | apply Drawn0.step)⟩
end Go.Proofs.YtppjphghlclklaaGreatDoor.P
end
