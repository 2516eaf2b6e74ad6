/- Machine steps of the program, written by a program of this session out of the translation. -/
import Derived.Test.YteaiefkadmlabaaP0
import Derived.Test.YteaiefkadmlabaaP1
import Derived.Test.YteaiefkadmlabaaP7
namespace Go.Proofs.Yteaiefkadmlabaa.P
open Go.RowKit Go.Proofs.YteaiefkadmlabaaW.PrintWords Go.Proofs.YteaiefkadmlabaaW.PrintLast Go.Proofs.YteaiefkadmlabaaW.PrintMore
attribute [local go_sem] max2_int min2_int max_two min_two max_three min_three max_four min_four   -- for this text's walks alone
set_option linter.unusedVariables false
set_option linter.unusedSimpArgs false

/-! cut.Branch: the closure, the search, the function. -/
def cut_Branch.l0 : Nat → List (List Int) → Int → Int → Int → Option (Int)
  | 0, _, _, _, _ => none
  | k + 1, l, b, m, i => if i < (l.length : Int) + 1 then (branch_Size.f k (l.take (i - 1).toNat)).bind fun a => (branch_Size.f k (l.drop i.toNat)).bind fun c => (cut_Fits.f a).bind fun fa => (cut_Fits.f c).bind fun fc =>
      if fa = true then (if fc = true then (if b = 0 then cut_Branch.l0 k l i (mx a c) (i + 1) else (if mx a c < m then cut_Branch.l0 k l i (mx a c) (i + 1) else cut_Branch.l0 k l b m (i + 1))) else cut_Branch.l0 k l b m (i + 1)) else cut_Branch.l0 k l b m (i + 1)
    else some b
def cut_Branch.f (k : Nat) (l0 : List (List Int)) : Option (Int) := if l0.length ≤ 4611686018427387904 then cut_Branch.l0 k l0 0 0 1 else none
theorem cut_Branch.mono_l : ∀ k, (∀ y0 y1 y2 y3, LeO (cut_Branch.l0 k y0 y1 y2 y3) (cut_Branch.l0 (k + 1) y0 y1 y2 y3))
  | 0 => fun _ _ _ _ r h => by simp [cut_Branch.l0] at h
  | k + 1 => by
    have ih0 := cut_Branch.mono_l k
    intro y0 y1 y2 y3
    unfold cut_Branch.l0
    repeat' first
      | (with_reducible exact ih0 _ _ _ _)
      | (with_reducible exact branch_Size.mono _ _)
      | (with_reducible exact LeO.refl _)
      | (with_reducible refine LeO.ite ?_ ?_)
      | (with_reducible refine LeO.bind ?_ (fun _ => ?_))
theorem cut_Branch.mono : ∀ a0 k, LeO (cut_Branch.f k a0) (cut_Branch.f (k + 1) a0) := fun a0 k => LeO.ite (cut_Branch.mono_l k a0 0 0 1) (LeO.none _)
set_option maxHeartbeats 1000000 in
theorem cut_Branch_1.calls (k : Nat) (A0 : Option Addr) (c0 : Nat) (l0 : List (List Int)) (r : Int) (w : World) (hr0 : Kd.C (Kd.slice 5 (Kd.int .u8)) w A0 l0.length l0) (hc0 : l0.length ≤ c0) (h : branch_Size.f k l0 = some r) :
    Calls Try.prog 39 #[.slice A0 l0.length c0] w fun e w' => e = .returned (.int .i64 r) ∧ Below w.heap.size w w' := by
  have HC := Aside0.mk (branch_Size.calls k A0 c0 l0 r w hr0 hc0 h)
  clear hr0 hc0 h
  go_enter Try.func39, Try.ntmps39
  go_wp2_with fail
  refine HC.out.mono ?_
  rintro e w' ⟨rfl, hb⟩
  go_wp2
  go_ret
  exact ⟨rfl, hb⟩
set_option maxHeartbeats 4000000 in
set_option maxRecDepth 100000 in
theorem cut_Branch_cut.calls (k : Nat) (A0 : Option Addr) (c0 : Nat) (l0 : List (List Int)) (r : Int) (w : World) (hr0 : Kd.C (Kd.slice 5 (Kd.int .u8)) w A0 l0.length l0) (hc0 : l0.length ≤ c0) (h : cut_Branch.f k l0 = some r) :
    Calls Try.prog 38 #[.slice A0 l0.length c0, .int .i64 1, .func (Fn.func 39) #[] #[]] w fun e w' => e = .returned (.int .i64 r) ∧ Below w.heap.size w w' := by
  have hmax : l0.length ≤ 4611686018427387904 := by
    unfold cut_Branch.f at h
    split at h
    · assumption
    · cases h
  have h : cut_Branch.l0 k l0 0 0 1 = some r := by
    unfold cut_Branch.f at h
    rwa [if_pos hmax] at h
  have HR0 := Aside0.mk hr0
  have HC0 := Aside0.mk hc0
  have H' := Aside0.mk h
  clear hr0 hc0 h
  go_enter Try.func38, Try.ntmps38
  go_wp2
  go_loopg [7, 8, 9, 10, 11, 12] k (fun kq v7 v8 v9 _ _ _ w' => ∃ (b m i : Int), v7 = .int .i64 b ∧ v8 = .int .i64 m ∧ v9 = .int .i64 i ∧ Aside0 (cut_Branch.l0 kq l0 b m i = some r) ∧ 1 ≤ i ∧ i ≤ (l0.length : Int) + 1 ∧ Aside0 (kq ≤ k) ∧ Aside0 (Below w.heap.size w w'))
  case atStart => exact ⟨0, 0, 1, rfl, rfl, rfl, H', by omega, by omega, ⟨Nat.le_refl _⟩, ⟨Below.refl _ _⟩⟩
  case round =>
    clear H'
    obtain ⟨b, m, i, rfl, rfl, rfl, HA, hi1, hi2, HK, HB⟩ := hrel
    cases gk with
    | zero => exact absurd HA.out (by simp [cut_Branch.l0])
    | succ k1 =>
      have H := HA.out
      clear HA
      simp only [cut_Branch.l0] at H
      by_cases c1 : i < (l0.length : Int) + 1
      · rw [if_pos c1] at H
        obtain ⟨a, ha, H⟩ := Option.bind_eq_some_iff.mp H
        obtain ⟨c, hc, H⟩ := Option.bind_eq_some_iff.mp H
        obtain ⟨fa, hfa, H⟩ := Option.bind_eq_some_iff.mp H
        obtain ⟨fc, hfc, H⟩ := Option.bind_eq_some_iff.mp H
        have c1b : decide (i < (l0.length : Int) + 1) = true := decide_eq_true c1
        have hlo : (0 : Int) ≤ i - 1 := by omega
        have hle : i - 1 ≤ (l0.length : Int) := by omega
        have hi3 : i ≤ (l0.length : Int) := by omega
        obtain ⟨i0, hi0, _, hsz, _⟩ := info_parts info32
        obtain ⟨lt, hlt⟩ : ∃ lt, lt = l0.take (i - 1).toNat := ⟨_, rfl⟩
        obtain ⟨ld, hld⟩ : ∃ ld, ld = l0.drop i.toNat := ⟨_, rfl⟩
        obtain ⟨A1, hA1⟩ : ∃ A1, A1 = (if c0 = i.toNat then A0 else A0.map (·.add (i.toNat * 1))) := ⟨_, rfl⟩
        have hcut1 := cut_to (P := Try.prog) 28 32 .i64 Try.underlying28 hi0 A0 l0.length c0 (i - 1) (by omega) (by omega) HC0.out
        have hcut2 := cut_from (P := Try.prog) 28 32 .i64 Try.underlying28 hi0 1 hsz A0 l0.length c0 i (by omega) (by omega)
        have hl1 : lt.length = (i - 1).toNat := by rw [hlt, List.length_take]; omega
        have hl2 : ld.length = l0.length - i.toNat := by rw [hld, List.length_drop]
        rw [← hl1] at hcut1
        rw [← hA1, ← hl2] at hcut2
        have HT := Aside0.mk (show Kd.C (Kd.slice 5 (Kd.int .u8)) w A0 lt.length lt by rw [hlt]; exact Kd.C_take HR0.out (by omega))
        have HD := Aside0.mk (show Kd.C (Kd.slice 5 (Kd.int .u8)) w A1 ld.length ld by rw [hld, hA1]; exact Kd.C_drop HR0.out (by omega) HC0.out)
        have HT1 := Aside0.mk (show lt.length ≤ c0 by have := HC0.out; omega)
        have HD1 := Aside0.mk (show ld.length ≤ c0 - i.toNat by have := HC0.out; omega)
        rw [← hlt] at ha
        rw [← hld] at hc
        obtain ⟨g, hg⟩ : ∃ g, mx a c = g := ⟨_, rfl⟩
        rw [hg] at H
        have hg_ : (if a < c then c else a) = g := hg
        clear hg
        have HFA := Aside0.mk hfa
        have HFC := Aside0.mk hfc
        have HAA := Aside0.mk ha
        have HCC := Aside0.mk hc
        have H' := Aside0.mk H
        have hwr : IntKind.i64.wrap (i - 1) = i - 1 := IntWalk.i64_in _ (by omega)
        clear hlt hld hA1 hl1 hl2 ha hc hfa hfc H hi0 hsz
        go_wp2
        have HB1 := Aside0.mk (below_drew HB.out)
        go_region_with (first | (go_at_call 39; (with_reducible refine (cut_Branch_1.calls k1 A0 c0 lt a _ (Kd.C_below (Kd.C_below HT.out HB1.out) hb1) HT1.out HAA.out).mono ?_); rintro e w2 ⟨rfl, hb2⟩) | (go_at_call 39; (with_reducible refine (cut_Branch_1.calls k1 A1 (c0 - i.toNat) ld c _ (Kd.C_below (Kd.C_below HD.out HB1.out) hb1) HD1.out HCC.out).mono ?_); rintro e w2 ⟨rfl, hb2⟩) | (go_at_call 39; (with_reducible refine (cut_Branch_1.calls k1 A0 c0 lt a _ (Kd.C_below HT.out HB1.out) HT1.out HAA.out).mono ?_); rintro e w1 ⟨rfl, hb1⟩) | (go_at_call 39; (with_reducible refine (cut_Branch_1.calls k1 A1 (c0 - i.toNat) ld c _ (Kd.C_below HD.out HB1.out) HD1.out HCC.out).mono ?_); rintro e w1 ⟨rfl, hb1⟩))
        all_goals
          have HB2 := Aside0.mk (below_then (below_then HB1.out HB1.out.size hb1) (Nat.le_trans HB1.out.size hb1.size) hb2)
          clear hb1 hb2
        cases fa with
        | false =>
          have H1 := Aside0.mk (show cut_Branch.l0 k1 l0 b m (i + 1) = some r by simpa using H'.out)
          clear H'
          go_wp2_with (first | (go_at_call 12; (with_reducible refine (cut_Fits.calls a _ _ HFA.out).mono ?_); rintro e w3 ⟨rfl, ⟨n3, rfl⟩⟩) | (go_at_call 12; (with_reducible refine (cut_Fits.calls c _ _ HFC.out).mono ?_); rintro e w4 ⟨rfl, ⟨n4, rfl⟩⟩))
          go_roundg k1
          case measure => have := HK.out; omega
          case rel =>
            exact ⟨b, m, i + 1, rfl, rfl, rfl, H1, by omega, by omega, ⟨by have := HK.out; omega⟩, ⟨by repeat (first | exact HB2.out | apply pw_below_drewN)⟩⟩
        | true =>
          cases fc with
          | false =>
            have H1 := Aside0.mk (show cut_Branch.l0 k1 l0 b m (i + 1) = some r by simpa using H'.out)
            clear H'
            go_wp2_with (first | (go_at_call 12; (with_reducible refine (cut_Fits.calls a _ _ HFA.out).mono ?_); rintro e w3 ⟨rfl, ⟨n3, rfl⟩⟩) | (go_at_call 12; (with_reducible refine (cut_Fits.calls c _ _ HFC.out).mono ?_); rintro e w4 ⟨rfl, ⟨n4, rfl⟩⟩))
            go_roundg k1
            case measure => have := HK.out; omega
            case rel =>
              exact ⟨b, m, i + 1, rfl, rfl, rfl, H1, by omega, by omega, ⟨by have := HK.out; omega⟩, ⟨by repeat (first | exact HB2.out | apply pw_below_drewN)⟩⟩
          | true =>
            by_cases hb0 : b = 0
            · have H1 := Aside0.mk (show cut_Branch.l0 k1 l0 i g (i + 1) = some r by simpa [hb0] using H'.out)
              have hbb : (b == 0) = true := beq_iff_eq.mpr hb0
              clear H' hb0
              go_wp2_with (first | (go_at_call 12; (with_reducible refine (cut_Fits.calls a _ _ HFA.out).mono ?_); rintro e w3 ⟨rfl, ⟨n3, rfl⟩⟩) | (go_at_call 12; (with_reducible refine (cut_Fits.calls c _ _ HFC.out).mono ?_); rintro e w4 ⟨rfl, ⟨n4, rfl⟩⟩))
              go_roundg k1
              case measure => have := HK.out; omega
              case rel =>
                exact ⟨i, g, i + 1, rfl, rfl, rfl, H1, by omega, by omega, ⟨by have := HK.out; omega⟩, ⟨by repeat (first | exact HB2.out | apply pw_below_drewN)⟩⟩
            · have hbb : (b == 0) = false := beq_eq_false_iff_ne.mpr hb0
              by_cases hgm : g < m
              · have H1 := Aside0.mk (show cut_Branch.l0 k1 l0 i g (i + 1) = some r by simpa [hb0, hgm] using H'.out)
                have hgb : decide (g < m) = true := decide_eq_true hgm
                clear H' hb0 hgm
                go_wp2_with (first | (go_at_call 12; (with_reducible refine (cut_Fits.calls a _ _ HFA.out).mono ?_); rintro e w3 ⟨rfl, ⟨n3, rfl⟩⟩) | (go_at_call 12; (with_reducible refine (cut_Fits.calls c _ _ HFC.out).mono ?_); rintro e w4 ⟨rfl, ⟨n4, rfl⟩⟩))
                go_roundg k1
                case measure => have := HK.out; omega
                case rel =>
                  exact ⟨i, g, i + 1, rfl, rfl, rfl, H1, by omega, by omega, ⟨by have := HK.out; omega⟩, ⟨by repeat (first | exact HB2.out | apply pw_below_drewN)⟩⟩
              · have H1 := Aside0.mk (show cut_Branch.l0 k1 l0 b m (i + 1) = some r by simpa [hb0, hgm] using H'.out)
                have hgb : decide (g < m) = false := decide_eq_false hgm
                clear H' hb0 hgm
                go_wp2_with (first | (go_at_call 12; (with_reducible refine (cut_Fits.calls a _ _ HFA.out).mono ?_); rintro e w3 ⟨rfl, ⟨n3, rfl⟩⟩) | (go_at_call 12; (with_reducible refine (cut_Fits.calls c _ _ HFC.out).mono ?_); rintro e w4 ⟨rfl, ⟨n4, rfl⟩⟩))
                go_roundg k1
                case measure => have := HK.out; omega
                case rel =>
                  exact ⟨b, m, i + 1, rfl, rfl, rfl, H1, by omega, by omega, ⟨by have := HK.out; omega⟩, ⟨by repeat (first | exact HB2.out | apply pw_below_drewN)⟩⟩
      · rw [if_neg c1] at H
        have c1b : decide (i < (l0.length : Int) + 1) = false := decide_eq_false c1
        obtain rfl := Option.some.inj H
        clear H
        go_wp2
        go_ret
        exact ⟨rfl, HB.out⟩
set_option maxHeartbeats 1000000 in
theorem cut_Branch.calls (k : Nat) (A0 : Option Addr) (c0 : Nat) (l0 : List (List Int)) (r : Int) (w : World) (hr0 : Kd.C (Kd.slice 5 (Kd.int .u8)) w A0 l0.length l0) (hc0 : l0.length ≤ c0) (h : cut_Branch.f k l0 = some r) :
    Calls Try.prog 17 #[.slice A0 l0.length c0] w fun e w' => e = .returned (.int .i64 r) ∧ Below w.heap.size w w' := by
  have HC := Aside0.mk (cut_Branch_cut.calls k A0 c0 l0 r w hr0 hc0 h)
  clear hr0 hc0 h
  go_enter Try.func17, Try.ntmps17
  go_wp2_with fail
  refine HC.out.mono ?_
  rintro e w' ⟨rfl, hb⟩
  go_wp2
  go_ret
  exact ⟨rfl, hb⟩

end Go.Proofs.Yteaiefkadmlabaa.P
