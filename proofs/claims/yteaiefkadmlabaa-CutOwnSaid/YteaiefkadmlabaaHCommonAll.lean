/- Machine steps of the program, written by a program of this session out of the translation. -/
import Derived.Test.YteaiefkadmlabaaP0
import Derived.Test.YteaiefkadmlabaaP1
namespace Go.Proofs.Yteaiefkadmlabaa.P
open Go.RowKit Go.Proofs.YteaiefkadmlabaaW.PrintWords Go.Proofs.YteaiefkadmlabaaW.PrintLast Go.Proofs.YteaiefkadmlabaaW.PrintMore
attribute [local go_sem] max2_int min2_int max_two min_two max_three min_three max_four min_four   -- for this text's walks alone
set_option linter.unusedVariables false
set_option linter.unusedSimpArgs false

/-! keys.CommonAll: the closure, the fold, the function. -/
/-- How many bytes two lists have in common from their beginning on. -/
def cmn : List Int → List Int → Nat
  | x :: xs, y :: ys => if x = y then cmn xs ys + 1 else 0
  | _, _ => 0
/-- .. all of a list. -/
def cmnAll : List (List Int) → Nat
  | [] => 0
  | a :: l => l.foldl (fun n s => cmn (a.take n) s) a.length
theorem cmn_nil_right (a : List Int) : cmn a [] = 0 := by cases a <;> rfl
theorem cmn_le (a b : List Int) : cmn a b ≤ a.length := by
  induction a generalizing b with
  | nil => simp [cmn]
  | cons x xs ih =>
    cases b with
    | nil => simp [cmn]
    | cons y ys =>
      simp only [cmn]
      split
      · have := ih ys
        simp
        omega
      · simp
theorem common_l0 (a b : List Int) (m : Nat) (hm : m = min a.length b.length) (hb : m ≤ 9223372036854775807) (d : Nat) : ∀ (k i : Nat), i + d = m → d < k →
    keys_Common.l0 k a b m m i = some ((i + cmn (a.drop i) (b.drop i) : Nat) : Int) := by
  induction d with
  | zero =>
    intro k i hi hk
    obtain ⟨k, rfl⟩ : ∃ m, k = m + 1 := ⟨k - 1, by omega⟩
    simp only [keys_Common.l0]
    rw [if_neg (by omega)]
    have h0 : cmn (a.drop i) (b.drop i) = 0 := by
      rcases Nat.le_total a.length b.length with h | h
      · have e : a.drop i = [] := List.drop_eq_nil_of_le (by omega)
        rw [e]
        rfl
      · have e : b.drop i = [] := List.drop_eq_nil_of_le (by omega)
        rw [e]
        exact cmn_nil_right _
    rw [h0]
    congr 1
    omega
  | succ d ih =>
    intro k i hi hk
    obtain ⟨k, rfl⟩ : ∃ m, k = m + 1 := ⟨k - 1, by omega⟩
    have ha : i < a.length := by omega
    have hbl : i < b.length := by omega
    simp only [keys_Common.l0]
    rw [if_pos (by omega), if_pos (by omega), if_pos (by omega), if_pos (by omega)]
    rw [List.drop_eq_getElem_cons ha, List.drop_eq_getElem_cons hbl]
    simp only [rd, Int.toNat_natCast, List.getD_eq_getElem?_getD, List.getElem?_eq_getElem ha, List.getElem?_eq_getElem hbl, Option.getD_some, cmn]
    by_cases h : a[i] = b[i]
    · rw [if_pos h, if_pos h]
      have hw : wrap64 ((i : Int) + 1) = ((i + 1 : Nat) : Int) := by unfold wrap64; omega
      rw [hw, ih k (i + 1) (by omega) (by omega)]
      congr 1
      omega
    · rw [if_neg h, if_neg h]
      rfl
theorem common_any (a b : List Int) (ha : a.length ≤ 9223372036854775807) (hb : b.length ≤ 9223372036854775807) : ∃ k, keys_Common.f k a b = some (cmn a b : Int) := by
  refine ⟨min a.length b.length + 1, ?_⟩
  have h := common_l0 a b (min a.length b.length) rfl (by omega) (min a.length b.length) (min a.length b.length + 1) 0 (by omega) (by omega)
  have hm : mn (a.length : Int) (b.length : Int) = ((min a.length b.length : Nat) : Int) := by unfold mn; split <;> omega
  unfold keys_Common.f
  rw [hm]
  simpa using h
def keys_CommonAll.f (l0 : List (List Int)) : Option Int := some (cmnAll l0)
set_option maxHeartbeats 1000000 in
theorem keys_CommonAll_1.calls (B A0 : Addr) (c0 : Nat) (l0 : List (List Int)) (A1 : Option Addr) (c1 : Nat) (l1 : List Int) (n : Int) (w : World) (hb : w.cell? B = some (.slice (some A0) l0.length c0))
    (A2 : Option Addr) (c2 : Nat) (hx : w.cell? A0 = some (.slice A2 (rd_L1 l0 0).length c2)) (hl : 0 < l0.length) (hr2 : Kd.C (Kd.int .u8) w A2 (rd_L1 l0 0).length (rd_L1 l0 0)) (hc2 : (rd_L1 l0 0).length ≤ c2)
    (hr1 : Kd.C (Kd.int .u8) w A1 l1.length l1) (hc1 : l1.length ≤ c1) (h0 : 0 ≤ n) (hn : n ≤ (rd_L1 l0 0).length) :
    Calls Try.prog 56 #[.int .i64 n, .slice A1 l1.length c1, .pointer (some B)] w fun e w' => e = .returned (.int .i64 (cmn ((rd_L1 l0 0).take n.toNat) l1 : Int)) ∧ Below w.heap.size w w' := by
  obtain ⟨t, ht⟩ : ∃ t, t = (rd_L1 l0 0).take n.toNat := ⟨_, rfl⟩
  have hlt : 0 < l0.length := hl
  obtain ⟨i0, hi0, _, hsz, _⟩ := info_parts info5
  have hcut := cut_to (P := Try.prog) 32 5 .i64 Try.underlying32 hi0 A2 (rd_L1 l0 0).length c2 n h0 hn hc2
  have hr3 := Kd.C_take (m := n.toNat) hr2 (by omega)
  have hln : t.length = n.toNat := by rw [ht, List.length_take]; omega
  rw [← ht] at hr3 ⊢
  rw [← hln] at hcut
  have hc3 : t.length ≤ c2 := by omega
  obtain ⟨k, hk⟩ := common_any t l1 (Kd.C_max hr3) (Kd.C_max hr1)
  have HC := Aside0.mk (keys_Common.calls k A2 c2 t A1 c1 l1 _ w hr3 hc3 hr1 hc1 hk)
  clear hr2 hc2 hr1 hc1 hk hln hn hl ht hr3 hc3
  go_enter Try.func56, Try.ntmps56
  go_wp2_with fail
  refine HC.out.mono ?_
  rintro e w' ⟨rfl, hbl⟩
  go_wp2
  go_ret
  exact ⟨rfl, hbl⟩
/-- What CommonAll's fold comes to from n on. -/
def cmnFrom (a : List Int) (n : Nat) (l : List (List Int)) : Nat := l.foldl (fun n s => cmn (a.take n) s) n
theorem cmnFrom_le (a : List Int) (l : List (List Int)) : ∀ n, n ≤ a.length → cmnFrom a n l ≤ a.length := by
  induction l with
  | nil => intro n hn; exact hn
  | cons s l ih =>
    intro n hn
    have h := cmn_le (a.take n) s
    rw [List.length_take] at h
    exact ih (cmn (a.take n) s) (by omega)
theorem cmnFrom_snoc (a : List Int) (n : Nat) (l : List (List Int)) (s : List Int) : cmnFrom a n (l ++ [s]) = cmn (a.take (cmnFrom a n l)) s := by
  unfold cmnFrom
  rw [List.foldl_append]
  rfl
set_option maxHeartbeats 1000000 in
theorem keys_fold.calls (B A0 : Addr) (c0 : Nat) (l0 : List (List Int)) (A1 : Option Addr) (c1 : Nat) (l1 : List (List Int)) (n : Nat) (w : World) (hb : w.cell? B = some (.slice (some A0) l0.length c0))
    (A2 : Option Addr) (c2 : Nat) (hx : w.cell? A0 = some (.slice A2 (rd_L1 l0 0).length c2)) (hl : 0 < l0.length) (hr2 : Kd.C (Kd.int .u8) w A2 (rd_L1 l0 0).length (rd_L1 l0 0)) (hc2 : (rd_L1 l0 0).length ≤ c2)
    (hr1 : Kd.C (Kd.slice 5 (Kd.int .u8)) w A1 l1.length l1) (hn : n ≤ (rd_L1 l0 0).length) :
    Calls Try.prog 55 #[.slice A1 l1.length c1, .int .i64 n, .func (Fn.func 56) #[] #[.pointer (some B)]] w fun e w' => e = .returned (.int .i64 (cmnFrom (rd_L1 l0 0) n l1 : Int)) ∧ Below w.heap.size w w' := by
  have hmax := Kd.C_max hr1
  have HN := Aside0.mk hn
  have HB := Aside0.mk hb
  have HX := Aside0.mk hx
  have HR2 := Aside0.mk hr2
  have HC2 := Aside0.mk hc2
  have HR1 := Aside0.mk hr1
  have HL := Aside0.mk hl
  clear hn hb hx hr2 hc2 hr1 hl
  go_enter Try.func55, Try.ntmps55
  go_wp2
  go_loopw [1, 8, 11] (fun v1 _ v11 wr => ∃ i : Nat, i ≤ l1.length ∧ v11 = .int .i64 i ∧ v1 = .int .i64 (cmnFrom (rd_L1 l0 0) n (l1.take i)) ∧ Hid (Below w.heap.size w wr)) (fun _ _ v11 _ => l1.length - (intOf v11).toNat)
  case atStart => exact ⟨0, Nat.zero_le _, rfl, rfl, Below.refl _ _⟩
  case round =>
    obtain ⟨i, hi, rfl, rfl, hbl⟩ := hrel
    by_cases hlt : i < l1.length
    · obtain ⟨ad, A3, c3, rfl, hx3, hl3, hr3⟩ := at_L1 (Kd.C_below HR1.out hbl.out) (i : Int) (by omega) (by omega)
      simp only [Int.toNat_natCast] at hx3
      obtain ⟨s, hs⟩ : ∃ s, s = rd_L1 l1 (i : Int) := ⟨_, rfl⟩
      rw [← hs] at hx3 hl3 hr3
      have hm : cmnFrom (rd_L1 l0 0) n (l1.take i) ≤ (rd_L1 l0 0).length := cmnFrom_le _ _ _ HN.out
      have HC := Aside0.mk (keys_CommonAll_1.calls B A0 c0 l0 A3 c3 s (cmnFrom (rd_L1 l0 0) n (l1.take i) : Int) wr (pw_cell_below hbl.out HB.out) A2 c2 (pw_cell_below hbl.out HX.out) HL.out (Kd.C_below HR2.out hbl.out) HC2.out hr3 hl3 (by omega) (by omega))
      have HS := Aside0.mk (show cmnFrom (rd_L1 l0 0) n (l1.take (i + 1)) = cmn ((rd_L1 l0 0).take (cmnFrom (rd_L1 l0 0) n (l1.take i))) s by
        rw [List.take_succ_eq_append_getElem hlt, cmnFrom_snoc]
        rw [hs]
        simp [rd_L1, hlt])
      clear hs hl3 hr3 hm
      go_wp2_with fail
      refine HC.out.mono ?_
      rintro e w2 ⟨rfl, hb2⟩
      go_wp2
      go_roundw
      case rel => exact ⟨i + 1, by omega, by go_num, by rw [HS.out], below_then hbl.out hbl.out.size hb2⟩
      case measure => simp [intOf]; omega
    · have hil : i = l1.length := by omega
      subst hil
      go_wp2
      go_ret
      exact ⟨by simp, hbl.out⟩
set_option maxHeartbeats 1000000 in
theorem keys_CommonAll.calls (A0 : Option Addr) (c0 : Nat) (l0 : List (List Int)) (r : Int) (w : World) (hr0 : Kd.C (Kd.slice 5 (Kd.int .u8)) w A0 l0.length l0) (hc0 : l0.length ≤ c0) (h : keys_CommonAll.f l0 = some r) :
    Calls Try.prog 47 #[.slice A0 l0.length c0] w fun e w' => e = .returned (.int .i64 r) ∧ Below w.heap.size w w' := by
  obtain rfl := Option.some.inj h
  clear h
  have hmax := Kd.C_max hr0
  by_cases hl : l0.length = 0
  · obtain rfl := List.length_eq_zero_iff.1 hl
    clear hl hmax
    go_enter Try.func47, Try.ntmps47
    go_wp2
    go_ret
    exact ⟨rfl, below_alloc (Below.refl _ _) _⟩
  · have hpos : 0 < l0.length := by omega
    have hne : ((l0.length : Int) == 0) = false := by simpa using hl
    obtain ⟨ad, A2, c2, rfl, hx, hl2, hr2⟩ := at_L1 hr0 0 (by omega) (by omega)
    simp only [Int.toNat_zero, Addr.add_zero'] at hx
    have hx1 := fun o => pw_cell_below (below_alloc (Below.refl _ w) o) hx
    obtain ⟨i0, hi0, _, hsz, _⟩ := info_parts info32
    obtain ⟨A1, hA1⟩ : ∃ A1, A1 = (if c0 = (1 : Int).toNat then some ad else (some ad : Option Addr).map (·.add ((1 : Int).toNat * 1))) := ⟨_, rfl⟩
    have hcut := cut_from (P := Try.prog) 28 32 .i64 Try.underlying28 hi0 1 hsz (some ad) l0.length c0 1 (by omega) (by omega)
    rw [← hA1] at hcut
    have HR1 := Aside0.mk (Kd.C_drop (m := 1) (c := c0) hr0 (by omega) hc0)
    have HA1 := Aside0.mk hA1
    have hlen : (l0.drop 1).length = l0.length - 1 := List.length_drop
    have HX := Aside0.mk hx
    have HR2 := Aside0.mk hr2
    have HL2 := Aside0.mk hl2
    have HLEN := Aside0.mk hlen
    have HE := Aside0.mk (show cmnAll l0 = cmnFrom (rd_L1 l0 0) (rd_L1 l0 0).length (l0.drop 1) by
      cases l0 with
      | nil => simp at hpos
      | cons a l => rfl)
    have hb0 := below_drew (below_alloc (Below.refl w.heap.size w) (.cells #[.slice (some ad) l0.length c0] 28))
    have hc := keys_fold.calls ⟨w.heap.size, 0, none⟩ ad c0 l0 A1 (c0 - 1) (l0.drop 1) (rd_L1 l0 0).length (w.alloc (.cells #[.slice (some ad) l0.length c0] 28)).drew
      (by show (w.alloc (.cells #[.slice (some ad) l0.length c0] 28)).cell? ⟨w.heap.size, 0, none⟩ = _; simp) A2 c2 (pw_cell_below hb0 hx) hpos (Kd.C_below hr2 hb0) hl2 (by rw [hA1]; exact Kd.C_below HR1.out hb0) (Nat.le_refl _)
    rw [hlen, ← HE.out] at hc
    have HC := Aside0.mk hc
    have HB0 := Aside0.mk hb0
    clear hr0 hc0 hA1 hlen hx hr2 hl2 hmax hl hi0 hsz hb0 hc HR1 HA1 HX HR2 HL2 HLEN HE
    go_enter Try.func47, Try.ntmps47
    go_wp2
    go_region_with (go_at_call 55; refine HC.out.mono ?_; rintro e w' ⟨rfl, hb⟩)
    all_goals
      go_wp2
      go_ret
      exact ⟨rfl, below_then HB0.out HB0.out.size hb⟩

end Go.Proofs.Yteaiefkadmlabaa.P
