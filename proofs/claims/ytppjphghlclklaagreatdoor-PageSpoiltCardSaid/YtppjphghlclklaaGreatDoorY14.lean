/- Parts of a proof, laid together by a program of this session (slim.py). -/
import Derived.Test.YtppjphghlclklaaGreatDoorY13
set_option maxHeartbeats 8000000
set_option maxRecDepth 100000
section
namespace Go.Proofs.YtppjphghlclklaaGreatDoor.P
open Go.RowKit Go.Proofs.YtppjphghlclklaaGreatDoorW.PrintWords Go.Proofs.YtppjphghlclklaaGreatDoorW.PrintLast Go.Proofs.YtppjphghlclklaaGreatDoorW.PrintMore
attribute [local go_sem] max2_int min2_int max_two min_two max_three min_three max_four min_four
set_option linter.unusedVariables false
set_option linter.unusedSimpArgs false
def pgB (n c : Int) : Bool := decide (n = 0 ∨ (2 ≤ n ∧ n < c))
def numB (v c : Int) : Bool := decide (1 ≤ v ∧ v ≤ 4611686018427387904 ∧ 2 ≤ c ∧ c ≤ 524287)
def treeB (r h k : Int) : Bool := decide (0 ≤ h ∧ h ≤ 16 ∧ 0 ≤ k ∧ k ≤ 4294967295 ∧ (h = 0 ↔ r = 0) ∧ (k = 0 ↔ r = 0))
def freeB (c f n : Int) : Bool := decide (0 ≤ n ∧ n ≤ wrap64 (c - 2) ∧ (n = 0 ↔ f = 0))
def mayB (v c r h k f n : Int) : Bool := numB v c && ((pgB r c && pgB f c) && (treeB r h k && freeB c f n))
theorem page_f (n c : Int) : meta_page.f n c = some (pgB n c) := by
 unfold meta_page.f pgB
 by_cases h : n = 0
 · rw [if_pos h]; simp [h]
 · rw [if_neg h]
   by_cases h2 : n ≥ 2
   · rw [if_pos h2]
     simp only [Option.some.injEq, decide_eq_decide]
     omega
   · rw [if_neg h2]
     simp only [Option.some.injEq, Bool.false_eq, decide_eq_false_iff_not]
     omega
theorem meta_may.calls (v c r h k f n : Int) (w : World) :
 Calls Tryz.prog 184 #[.agg #[.int .i64 v, .int .i64 c, .int .i64 r, .int .i64 h, .int .i64 k, .int .i64 f, .int .i64 n]] w fun e w' => e = .returned (.bool (mayB v c r h k f n)) ∧ Below w.heap.size w w' := by
 have HP1 := Aside0.mk (fun W => meta_page.calls r c _ W (page_f r c))
 have HP2 := Aside0.mk (fun W => meta_page.calls f c _ W (page_f f c))
 unfold mayB
 obtain ⟨b1, hb1⟩ : ∃ b, numB v c = b := ⟨_, rfl⟩
 obtain ⟨b2, hb2⟩ : ∃ b, pgB r c = b := ⟨_, rfl⟩
 obtain ⟨b3, hb3⟩ : ∃ b, pgB f c = b := ⟨_, rfl⟩
 obtain ⟨b4, hb4⟩ : ∃ b, treeB r h k = b := ⟨_, rfl⟩
 obtain ⟨b5, hb5⟩ : ∃ b, freeB c f n = b := ⟨_, rfl⟩
 rw [hb1, hb2, hb3, hb4, hb5]
 simp only [hb2] at HP1
 simp only [hb3] at HP2
 have H1 := Aside0.mk hb1
 have H4 := Aside0.mk hb4
 have H5 := Aside0.mk hb5
 clear hb1 hb2 hb3 hb4 hb5
 go_enter Tryz.func184, Tryz.ntmps184
 go_upto_region 1 with (fail)
 go_cut [3] (fun v3 wc => v3 = .bool b1 ∧ wc = w.alloc (.cells #[.int .i64 v, .int .i64 c, .int .i64 r, .int .i64 h, .int .i64 k, .int .i64 f, .int .i64 n] 28))
 case first =>
  by_cases c1 : 1 ≤ v
  · have dc1 : decide (1 ≤ v) = true := decide_eq_true c1
    by_cases c2 : v ≤ 4611686018427387904
    · have dc2 : decide (v ≤ 4611686018427387904) = true := decide_eq_true c2
      by_cases c3 : 2 ≤ c
      · have dc3 : decide (2 ≤ c) = true := decide_eq_true c3
        by_cases c4 : c ≤ 524287
        · have dc4 : decide (c ≤ 524287) = true := decide_eq_true c4
          have e : b1 = true := by rw [← H1.out]; unfold numB; exact decide_eq_true (by omega)
          have HE := Aside0.mk e
          clear e
          go_wp2
          go_meet
          case rel => exact ⟨by rw [HE.out]; try rfl, rfl⟩
        · have dc4 : decide (c ≤ 524287) = false := decide_eq_false c4
          have e : b1 = false := by rw [← H1.out]; unfold numB; exact decide_eq_false (by omega)
          have HE := Aside0.mk e
          clear e
          go_wp2
          go_meet
          case rel => exact ⟨by rw [HE.out]; try rfl, rfl⟩
      · have dc3 : decide (2 ≤ c) = false := decide_eq_false c3
        have e : b1 = false := by rw [← H1.out]; unfold numB; exact decide_eq_false (by omega)
        have HE := Aside0.mk e
        clear e
        go_wp2
        go_meet
        case rel => exact ⟨by rw [HE.out]; try rfl, rfl⟩
    · have dc2 : decide (v ≤ 4611686018427387904) = false := decide_eq_false c2
      have e : b1 = false := by rw [← H1.out]; unfold numB; exact decide_eq_false (by omega)
      have HE := Aside0.mk e
      clear e
      go_wp2
      go_meet
      case rel => exact ⟨by rw [HE.out]; try rfl, rfl⟩
  · have dc1 : decide (1 ≤ v) = false := decide_eq_false c1
    have e : b1 = false := by rw [← H1.out]; unfold numB; exact decide_eq_false (by omega)
    have HE := Aside0.mk e
    clear e
    go_wp2
    go_meet
    case rel => exact ⟨by rw [HE.out]; try rfl, rfl⟩
 case rest =>
  obtain ⟨rfl, rfl⟩ := hcut
  go_upto_region 2 with (fail)
  go_cut [4] (fun v4 wc => v4 = .bool (b2 && b3) ∧ ∃ m, wc = (w.alloc (.cells #[.int .i64 v, .int .i64 c, .int .i64 r, .int .i64 h, .int .i64 k, .int .i64 f, .int .i64 n] 28)).drewN m)
  case first =>
   cases b2 with
   | false =>
    go_wp2_with fail
    refine (HP1.out _).mono ?_
    rintro e w1 ⟨rfl, m, rfl⟩
    go_wp2
    go_meet
    case rel => exact ⟨rfl, m, rfl⟩
   | true =>
    go_wp2_with fail
    refine (HP1.out _).mono ?_
    rintro e w1 ⟨rfl, m, rfl⟩
    go_wp2_with fail
    refine (HP2.out _).mono ?_
    rintro e w1 ⟨rfl, m2, rfl⟩
    go_wp2
    go_meet
    case rel => exact ⟨rfl, _, rfl⟩
  case rest =>
   obtain ⟨rfl, m, rfl⟩ := hcut
   go_upto_region 3 with (fail)
   go_cut [5] (fun v5 wc => v5 = .bool b4 ∧ wc = (w.alloc (.cells #[.int .i64 v, .int .i64 c, .int .i64 r, .int .i64 h, .int .i64 k, .int .i64 f, .int .i64 n] 28)).drewN m)
   case first =>
    by_cases cr : r = 0
    · have dr : (r == 0) = true := beq_iff_eq.mpr cr
      by_cases c5 : 0 ≤ h
      · have dc5 : decide (0 ≤ h) = true := decide_eq_true c5
        by_cases c6 : h ≤ 16
        · have dc6 : decide (h ≤ 16) = true := decide_eq_true c6
          by_cases c7 : 0 ≤ k
          · have dc7 : decide (0 ≤ k) = true := decide_eq_true c7
            by_cases c8 : k ≤ 4294967295
            · have dc8 : decide (k ≤ 4294967295) = true := decide_eq_true c8
              by_cases c9 : h = 0
              · have dc9 : (h == 0) = true := beq_iff_eq.mpr c9
                by_cases c10 : k = 0
                · have dc10 : (k == 0) = true := beq_iff_eq.mpr c10
                  have e : b4 = true := by rw [← H4.out]; unfold treeB; exact decide_eq_true (by omega)
                  have HE := Aside0.mk e
                  clear e
                  clear cr c9 c10
                  go_wp2
                  go_meet
                  case rel => exact ⟨by rw [HE.out]; try rfl, rfl⟩
                · have dc10 : (k == 0) = false := beq_eq_false_iff_ne.mpr c10
                  have e : b4 = false := by rw [← H4.out]; unfold treeB; exact decide_eq_false (by omega)
                  have HE := Aside0.mk e
                  clear e
                  clear cr c9 c10
                  go_wp2
                  go_meet
                  case rel => exact ⟨by rw [HE.out]; try rfl, rfl⟩
              · have dc9 : (h == 0) = false := beq_eq_false_iff_ne.mpr c9
                have e : b4 = false := by rw [← H4.out]; unfold treeB; exact decide_eq_false (by omega)
                have HE := Aside0.mk e
                clear e
                clear cr c9
                go_wp2
                go_meet
                case rel => exact ⟨by rw [HE.out]; try rfl, rfl⟩
            · have dc8 : decide (k ≤ 4294967295) = false := decide_eq_false c8
              have e : b4 = false := by rw [← H4.out]; unfold treeB; exact decide_eq_false (by omega)
              have HE := Aside0.mk e
              clear e
              clear cr
              go_wp2
              go_meet
              case rel => exact ⟨by rw [HE.out]; try rfl, rfl⟩
          · have dc7 : decide (0 ≤ k) = false := decide_eq_false c7
            have e : b4 = false := by rw [← H4.out]; unfold treeB; exact decide_eq_false (by omega)
            have HE := Aside0.mk e
            clear e
            clear cr
            go_wp2
            go_meet
            case rel => exact ⟨by rw [HE.out]; try rfl, rfl⟩
        · have dc6 : decide (h ≤ 16) = false := decide_eq_false c6
          have e : b4 = false := by rw [← H4.out]; unfold treeB; exact decide_eq_false (by omega)
          have HE := Aside0.mk e
          clear e
          clear cr
          go_wp2
          go_meet
          case rel => exact ⟨by rw [HE.out]; try rfl, rfl⟩
      · have dc5 : decide (0 ≤ h) = false := decide_eq_false c5
        have e : b4 = false := by rw [← H4.out]; unfold treeB; exact decide_eq_false (by omega)
        have HE := Aside0.mk e
        clear e
        clear cr
        go_wp2
        go_meet
        case rel => exact ⟨by rw [HE.out]; try rfl, rfl⟩
    · have dr : (r == 0) = false := beq_eq_false_iff_ne.mpr cr
      by_cases c11 : 0 ≤ h
      · have dc11 : decide (0 ≤ h) = true := decide_eq_true c11
        by_cases c12 : h ≤ 16
        · have dc12 : decide (h ≤ 16) = true := decide_eq_true c12
          by_cases c13 : 0 ≤ k
          · have dc13 : decide (0 ≤ k) = true := decide_eq_true c13
            by_cases c14 : k ≤ 4294967295
            · have dc14 : decide (k ≤ 4294967295) = true := decide_eq_true c14
              by_cases c15 : h = 0
              · have dc15 : (h == 0) = true := beq_iff_eq.mpr c15
                have e : b4 = false := by rw [← H4.out]; unfold treeB; exact decide_eq_false (by omega)
                have HE := Aside0.mk e
                clear e
                clear cr c15
                go_wp2
                go_meet
                case rel => exact ⟨by rw [HE.out]; try rfl, rfl⟩
              · have dc15 : (h == 0) = false := beq_eq_false_iff_ne.mpr c15
                by_cases c16 : k = 0
                · have dc16 : (k == 0) = true := beq_iff_eq.mpr c16
                  have e : b4 = false := by rw [← H4.out]; unfold treeB; exact decide_eq_false (by omega)
                  have HE := Aside0.mk e
                  clear e
                  clear cr c15 c16
                  go_wp2
                  go_meet
                  case rel => exact ⟨by rw [HE.out]; try rfl, rfl⟩
                · have dc16 : (k == 0) = false := beq_eq_false_iff_ne.mpr c16
                  have e : b4 = true := by rw [← H4.out]; unfold treeB; exact decide_eq_true (by omega)
                  have HE := Aside0.mk e
                  clear e
                  clear cr c15 c16
                  go_wp2
                  go_meet
                  case rel => exact ⟨by rw [HE.out]; try rfl, rfl⟩
            · have dc14 : decide (k ≤ 4294967295) = false := decide_eq_false c14
              have e : b4 = false := by rw [← H4.out]; unfold treeB; exact decide_eq_false (by omega)
              have HE := Aside0.mk e
              clear e
              clear cr
              go_wp2
              go_meet
              case rel => exact ⟨by rw [HE.out]; try rfl, rfl⟩
          · have dc13 : decide (0 ≤ k) = false := decide_eq_false c13
            have e : b4 = false := by rw [← H4.out]; unfold treeB; exact decide_eq_false (by omega)
            have HE := Aside0.mk e
            clear e
            clear cr
            go_wp2
            go_meet
            case rel => exact ⟨by rw [HE.out]; try rfl, rfl⟩
        · have dc12 : decide (h ≤ 16) = false := decide_eq_false c12
          have e : b4 = false := by rw [← H4.out]; unfold treeB; exact decide_eq_false (by omega)
          have HE := Aside0.mk e
          clear e
          clear cr
          go_wp2
          go_meet
          case rel => exact ⟨by rw [HE.out]; try rfl, rfl⟩
      · have dc11 : decide (0 ≤ h) = false := decide_eq_false c11
        have e : b4 = false := by rw [← H4.out]; unfold treeB; exact decide_eq_false (by omega)
        have HE := Aside0.mk e
        clear e
        clear cr
        go_wp2
        go_meet
        case rel => exact ⟨by rw [HE.out]; try rfl, rfl⟩
   case rest =>
    obtain ⟨rfl, rfl⟩ := hcut
    go_upto_region 4 with (fail)
    go_cut [6] (fun v6 wc => v6 = .bool b5 ∧ wc = (w.alloc (.cells #[.int .i64 v, .int .i64 c, .int .i64 r, .int .i64 h, .int .i64 k, .int .i64 f, .int .i64 n] 28)).drewN m)
    case first =>
     by_cases c17 : 0 ≤ n
     · have dc17 : decide (0 ≤ n) = true := decide_eq_true c17
       by_cases c18 : n ≤ wrap64 (c - 2)
       · have dc18 : decide (n ≤ wrap64 (c - 2)) = true := decide_eq_true c18
         by_cases c19a : n = 0
         · have dc19a : (n == 0) = true := beq_iff_eq.mpr c19a
           by_cases c19b : f = 0
           · have dc19b : (f == 0) = true := beq_iff_eq.mpr c19b
             have e : b5 = true := by rw [← H5.out]; unfold freeB; exact decide_eq_true (by omega)
             have HE := Aside0.mk e
             clear e
             clear c19a c19b
             go_wp2
             go_meet
             case rel => exact ⟨by rw [HE.out]; try rfl, rfl⟩
           · have dc19b : (f == 0) = false := beq_eq_false_iff_ne.mpr c19b
             have e : b5 = false := by rw [← H5.out]; unfold freeB; exact decide_eq_false (by omega)
             have HE := Aside0.mk e
             clear e
             clear c19a c19b
             go_wp2
             go_meet
             case rel => exact ⟨by rw [HE.out]; try rfl, rfl⟩
         · have dc19a : (n == 0) = false := beq_eq_false_iff_ne.mpr c19a
           by_cases c19b : f = 0
           · have dc19b : (f == 0) = true := beq_iff_eq.mpr c19b
             have e : b5 = false := by rw [← H5.out]; unfold freeB; exact decide_eq_false (by omega)
             have HE := Aside0.mk e
             clear e
             clear c19a c19b
             go_wp2
             go_meet
             case rel => exact ⟨by rw [HE.out]; try rfl, rfl⟩
           · have dc19b : (f == 0) = false := beq_eq_false_iff_ne.mpr c19b
             have e : b5 = true := by rw [← H5.out]; unfold freeB; exact decide_eq_true (by omega)
             have HE := Aside0.mk e
             clear e
             clear c19a c19b
             go_wp2
             go_meet
             case rel => exact ⟨by rw [HE.out]; try rfl, rfl⟩
       · have dc18 : decide (n ≤ wrap64 (c - 2)) = false := decide_eq_false c18
         have e : b5 = false := by rw [← H5.out]; unfold freeB; exact decide_eq_false (by omega)
         have HE := Aside0.mk e
         clear e
         go_wp2
         go_meet
         case rel => exact ⟨by rw [HE.out]; try rfl, rfl⟩
     · have dc17 : decide (0 ≤ n) = false := decide_eq_false c17
       have e : b5 = false := by rw [← H5.out]; unfold freeB; exact decide_eq_false (by omega)
       have HE := Aside0.mk e
       clear e
       go_wp2
       go_meet
       case rel => exact ⟨by rw [HE.out]; try rfl, rfl⟩
    case rest =>
     obtain ⟨rfl, rfl⟩ := hcut
     clear H1 H4 H5 HP1 HP2
     cases b1 <;> cases b2 <;> cases b3 <;> cases b4 <;> cases b5
     all_goals
      go_wp2
      go_ret
      exact ⟨rfl, pw_below_drewN (below_alloc (Below.refl _ _) _) m⟩
end Go.Proofs.YtppjphghlclklaaGreatDoor.P
end
