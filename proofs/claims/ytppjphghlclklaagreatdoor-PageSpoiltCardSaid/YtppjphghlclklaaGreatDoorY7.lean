/- Parts of a proof, laid together by a program of this session (slim.py). -/
import Derived.Test.YtppjphghlclklaaGreatDoorY0
import Derived.Laws.CopyRow
import Derived.Test.YtppjphghlclklaaGreatDoorY1
import Derived.Test.YtppjphghlclklaaGreatDoorY3
import Derived.Test.YtppjphghlclklaaGreatDoorY4
import Derived.Test.YtppjphghlclklaaGreatDoorY6
import Derived.Test.YtppjphghlclklaaGreatDoorY2
import Derived.IntWalk
import Derived.Lib.Bytealg
import Derived.Lib.BytesEntry
set_option maxHeartbeats 8000000
set_option maxRecDepth 100000
section
namespace Go.Proofs.YtppjphghlclklaaGreatDoorW.PrintWords
open Go.RowKit
set_option linter.unusedVariables false
set_option linter.unusedSimpArgs false
section
variable {P : Program}
theorem int_cells {k : IntKind} {W : World} {A : Option Addr} {ys : List Int} (hC : Kd.C (Kd.int k) W A ys.length ys) {ad : Addr} (hA : A = some ad) (h0 : 0 < ys.length) : ∀ j u, (ys.map (Value.int k))[j]? = some u → W.cell? (ad.add j) = some u := fun j u hu => by
 subst hA
 obtain ⟨ad', he, hcell⟩ := hC.2.2 h0
 obtain rfl : ad = ad' := by injection he
 rw [List.getElem?_map] at hu
 obtain ⟨p, hp, rfl⟩ := Option.map_eq_some_iff.1 hu
 obtain ⟨c1, _, rfl, h2⟩ := hcell j p hp
 have := h2 0 _ rfl
 rwa [show (Kd.int k).sz = 1 from rfl, Nat.mul_one, Nat.add_zero] at this
theorem int_some {k : IntKind} {W : World} {A : Option Addr} {ys : List Int} (hC : Kd.C (Kd.int k) W A ys.length ys) (h0 : 0 < ys.length) : ∃ ad, A = some ad := by
 obtain ⟨ad, he, _⟩ := hC.2.2 h0
 exact ⟨ad, he⟩
theorem int_R_cur {k : IntKind} {W : World} {base e g n cap : Nat} {ok : Nat → Prop} {xs : List Int} (h : Kd.R (Kd.int k) e W base ok (.slice (some ⟨g, 0, none⟩) n cap) xs) :
 ∃ cur, W.heap[g]? = some (.cells cur e (0, 0)) ∧ base ≤ g ∧ xs.length = n ∧ n ≤ cap ∧ cap ≤ maxLen ∧ cur.size = cap ∧ cur.toList.take n = xs.map (Value.int k) := by
 have ho := Kd.own_of_R h
 obtain ⟨h1, h2⟩ := ho
 rcases h2 with ⟨h2, _⟩ | ⟨g', cap', cur, he, hb, hh, hl, hm, hsz, htk⟩
 · cases h2
 · simp only [Value.slice.injEq, Option.some.injEq, Addr.mk.injEq, true_and, and_true] at he
   obtain ⟨rfl, rfl, rfl⟩ := he
   exact ⟨cur, hh, hb, rfl, hl, hm, by rw [hsz, Nat.mul_one], by rw [Nat.mul_one] at htk; exact htk⟩
theorem int_R_of {k : IntKind} {W : World} {base e g n cap : Nat} {ok : Nat → Prop} {cur : Array Value} {xs : List Int} (hok : ok g) (hb : base ≤ g) (h : W.heap[g]? = some (.cells cur e (0, 0))) (hn : xs.length = n) (hl : n ≤ cap) (hcap : cap ≤ maxLen) (hsz : cur.size = cap) (hcur : cur.toList.take n = xs.map (Value.int k)) :
 Kd.R (Kd.int k) e W base ok (.slice (some ⟨g, 0, none⟩) n cap) xs := by
 subst hn
 refine Kd.R_of_own (enc := Value.int k) ⟨by simp [encs], .inr ⟨g, cap, cur, rfl, hb, h, hl, hcap, by rw [Nat.mul_one]; exact hsz, by rw [Nat.mul_one]; exact hcur⟩⟩ (fun j hj => ?_)
 have : g = j := by simpa [Value.ownBlock] using hj
 exact this ▸ hok
theorem setRow_grown (W : World) (g : Nat) (cs : Array Value) : W.grownBy (W.setRow g cs) (some g) := ⟨rfl, rfl, rfl, by rw [setRow_size]; exact Nat.le_refl _, fun k _ hk => setRow_other W g k cs (fun e => hk (by rw [e]))⟩
theorem grown_refl (W : World) (r : Option Nat) : W.grownBy W r := ⟨rfl, rfl, rfl, Nat.le_refl _, fun _ _ _ => rfl⟩
theorem copy_into {W : World} {base e g n cap off dl dc c : Nat} {ok : Nat → Prop} {xs ys : List Int} {A : Option Addr} (k : IntKind) (t u ty : TypeId)
 (hR : Kd.R (Kd.int k) e W base ok (.slice (some ⟨g, 0, none⟩) n cap) xs) (hC : Kd.C (Kd.int k) W A ys.length ys)
 (hu : P.underlying t = some (.slice e)) (hs : (P.info? e).map (·.size) = some 1) (hfit : off + min ys.length dl ≤ xs.length) :
 ∃ W2, (Builtin.copy_ #[t, u] ty #[.slice (some ⟨g, off, none⟩) dl dc, .slice A ys.length c]).run P W = .ok (goInt (min ys.length dl : Nat)) W2
  ∧ Kd.R (Kd.int k) e W2 base ok (.slice (some ⟨g, 0, none⟩) n cap) (xs.take off ++ ys.take (min ys.length dl) ++ xs.drop (off + min ys.length dl))
  ∧ W.grownBy W2 (some g) := by
 obtain ⟨m, hm⟩ : ∃ m, m = min ys.length dl := ⟨_, rfl⟩
 rw [← hm] at hfit ⊢
 rcases Nat.eq_zero_or_pos m with h0 | h0
 · subst h0
   refine ⟨W, by simpa using run_copy_none (P := P) W t u ty e (some ⟨g, off, none⟩) A dl dc ys.length c hu hs hm.symm, ?_, grown_refl W _⟩
   rw [List.take_zero, List.append_nil, Nat.add_zero, List.take_append_drop]
   exact hR
 · have hpos : 0 < ys.length := by omega
   obtain ⟨ad, rfl⟩ := int_some hC hpos
   have hok : ok g := hR.1 g rfl
   obtain ⟨cur, hh, hb, hn, hl, hcm, hsz, htk⟩ := int_R_cur hR
   have hlen : ((ys.take m).map (Value.int k)).length = m := by rw [List.length_map, List.length_take]; omega
   have hrun := run_copy_row (P := P) W t u ty e g off dl dc ad ys.length c cur e ((ys.take m).map (Value.int k)) hu hs hh (by rw [hlen]; exact hm)
    (fun j v hj => by
     refine int_cells hC rfl hpos j v ?_
     rw [List.getElem?_map] at hj ⊢
     obtain ⟨p, hp, hpv⟩ := Option.map_eq_some_iff.1 hj
     rw [List.getElem?_take] at hp
     split at hp
     · rw [hp, ← hpv]; rfl
     · cases hp)
    (by rw [hlen]; omega) (fun v hv => by obtain ⟨x, _, rfl⟩ := List.mem_map.1 hv; rfl)
   rw [hlen] at hrun
   refine ⟨_, hrun, ?_, setRow_grown W g _⟩
   have hcl : cur.toList.length = cap := by rw [Array.length_toList]; exact hsz
   refine int_R_of hok hb (setRow_heap W g cur _ e (0, 0) hh) ?_ hl hcm ?_ ?_
   · simp only [List.length_append, List.length_take, List.length_drop]; omega
   · simp only [List.size_toArray, List.length_append, List.length_take, List.length_drop, hlen, hcl]; omega
   · have hx : ∀ a, (xs.take a).map (Value.int k) = (cur.toList.take n).take a := fun a => by rw [htk, List.map_take]
     have hy : ∀ a, (xs.drop a).map (Value.int k) = (cur.toList.take n).drop a := fun a => by rw [htk, List.map_drop]
     simp only [List.map_append, hx, hy]
     rw [List.take_take, Nat.min_eq_left (by omega), List.drop_take]
     have e1 : (cur.toList.take off ++ (ys.take m).map (Value.int k)).length = off + m := by rw [List.length_append, hlen, List.length_take, hcl]; omega
     have e2 : n = (cur.toList.take off ++ (ys.take m).map (Value.int k)).length + (n - (off + m)) := by omega
     conv => lhs; rw [e2]
     rw [List.take_length_add_append]
theorem cut_three (t e : TypeId) {i : TypeInfo} (ht : P.underlying t = some (.slice e)) (hi : P.info? e = some i) (size : Nat) (hsz : i.size = size) (A : Option Addr) (n c : Nat) (lo hi' mx : Int) (h0 : 0 ≤ lo) (h1 : lo ≤ hi') (h2 : hi' ≤ mx) (h3 : mx ≤ c) :
 ∀ W : World, (Instr.slice t (.slice A n c) (some (.int .i64 lo)) (some (.int .i64 hi')) (some (.int .i64 mx))).run P W = .ok (.slice (if mx.toNat = lo.toNat then A else A.map (·.add (lo.toNat * size))) (hi'.toNat - lo.toNat) (mx.toNat - lo.toNat)) W := by
 intro W
 have hel : P.elem t = e := by simp [Program.elem, ht]
 have hu : P.underlying t = some (.slice (P.elem t)) := by rw [hel]; exact ht
 rw [run_slice_lhm W t A n c hu .i64 .i64 .i64 lo hi' mx h0 h1 h2 h3, hel]
 simp [sizeOf, typeInfo, hi, hsz, sliced, Result.andThen]
end
end Go.Proofs.YtppjphghlclklaaGreatDoorW.PrintWords
end
section
namespace Go.Proofs.YtppjphghlclklaaGreatDoor.P
open Go.RowKit Go.Proofs.YtppjphghlclklaaGreatDoorW.PrintWords Go.Proofs.YtppjphghlclklaaGreatDoorW.PrintLast Go.Proofs.YtppjphghlclklaaGreatDoorW.PrintMore
attribute [local go_sem] max2_int min2_int max_two min_two max_three min_three max_four min_four
set_option linter.unusedVariables false
set_option linter.unusedSimpArgs false
def RowPost (w : World) (r : List Int) (e : Ending) (w' : World) : Prop := ∃ v, e = .returned v ∧ Kd.R (Kd.int .u8) 5 w' w.heap.size (fun _ => True) v r ∧ Below w.heap.size w w'
theorem slices_Grow.calls (n : Int) (w : World) (h0 : 0 ≤ n) (hn : n ≤ 70368744177664) :
 Calls Tryz.prog 275 #[.slice none 0 0, .int .i64 n] w (RowPost w []) := by
 by_cases c : n = 0
 · subst c
   go_enter Tryz.func275, Tryz.ntmps275
   go_wp2
   go_ret
   exact ⟨_, rfl, Kd.R_nil _ _ _ _ _, Below.refl _ _⟩
 · have d1 : decide (n < 0) = false := decide_eq_false (by omega)
   have d2 : decide (0 < n) = true := decide_eq_true (by omega)
   have d3 : (0 : Int) < n := by omega
   obtain ⟨i0, hi0, _, hsz, _⟩ := info_parts info5
   have hcut := cut_to (P := Tryz.prog) 25 5 .i64 Tryz.underlying25 hi0 none 0 0 0 (by omega) (by omega) (Nat.le_refl _)
   clear c
   go_enter Tryz.func275, Tryz.ntmps275
   go_wp2_with (first
    | ((with_reducible refine gate_builtin (b := .append) (xs := #[.tmp 20, .tmp 21]) rfl ?_); at_builtin; refine Kd.R_append_zeros (Kd.int .u8) (w0 := w) w.heap.size rfl (.tmp 20) (.tmp 21) 25 3 5 (.int .u8 0) 1 rfl Tryz.underlying25 Tryz.underlying3 info5 rfl (by decide) (by omega) (.slice none 0 0) [] (0 : Int) n (fun _ => True) rfl rfl rfl (fun _ _ => trivial) (Kd.R_nil _ _ _ _ _) h0 (Below.refl _ _) (Nat.le_refl _) (by simp only [List.length_nil]; omega) ?_; intro v6 w6 ho hb6 hg hat; obtain ⟨A6, c6, hv6, hl6, hC6⟩ := Kd.R_reads ho; subst hv6; have HO6 := Aside0.mk ho; have HB6 := Aside0.mk hb6; have hcut6 := cut_to (P := Tryz.prog) 25 5 .i64 Tryz.underlying25 hi0 A6 ([] ++ List.replicate n.toNat (0 : Int)).length c6 0 (by omega) (by omega) hl6; clear ho hb6 hg hat hl6 hC6))
   go_ret
   exact ⟨_, rfl, Kd.R_take (m := 0) HO6.out (Nat.zero_le _), HB6.out⟩
theorem flatten_take (l : List (List Int)) (i : Nat) (h : i < l.length) : (l.take (i + 1)).flatten = (l.take i).flatten ++ l[i] := by
 rw [List.take_succ_eq_append_getElem h, List.flatten_append]
 simp
theorem flatten_take_le (l : List (List Int)) (i : Nat) : (l.take i).flatten.length ≤ l.flatten.length := by
 conv => rhs; rw [← List.take_append_drop i l, List.flatten_append, List.length_append]
 omega
theorem slices_Concat.calls (A0 : Option Addr) (c0 : Nat) (l0 : List (List Int)) (w : World) (hr0 : Kd.C (Kd.slice 5 (Kd.int .u8)) w A0 l0.length l0) (hc0 : l0.length ≤ c0) (hm : (l0.flatten.length : Int) ≤ 70368744177664) :
 Calls Tryz.prog 249 #[.slice A0 l0.length c0] w (RowPost w l0.flatten) := by
 have HR0 := Aside0.mk hr0
 have HM := Aside0.mk hm
 have hmax := Kd.C_max hr0
 clear hr0 hc0 hm
 go_enter Tryz.func249, Tryz.ntmps249
 go_wp2
 go_loopg [3, 11] l0.length (fun kq v3 v11 w' => ∃ (i n : Nat), v3 = .int .i64 n ∧ v11 = .int .i64 i ∧ i + kq = l0.length ∧ Aside0 (n = (l0.take i).flatten.length) ∧ Drawn0 w w')
 case atStart => exact ⟨0, 0, rfl, rfl, by omega, ⟨rfl⟩, ⟨0, rfl⟩⟩
 case round =>
  obtain ⟨i, n, rfl, rfl, hk, HN, nd, rfl⟩ := hrel
  by_cases c : i < l0.length
  · have cd1 : decide ((i : Int) < (l0.length : Int)) = true := decide_eq_true (by omega)
    have cd2 : decide (i < l0.length) = true := decide_eq_true c
    obtain ⟨ad, A3, c3, rfl, hx3, hl3, hr3⟩ := at_L1 HR0.out (i : Int) (by omega) (by omega)
    simp only [Int.toNat_natCast] at hx3
    obtain ⟨s, hs⟩ : ∃ s, s = rd_L1 l0 (i : Int) := ⟨_, rfl⟩
    rw [← hs] at hx3 hl3 hr3
    have hs2 : s = l0[i] := by rw [hs]; simp [rd_L1, c]
    have hx4 : ∀ n, (w.drewN n).cell? (ad.add i) = some (.slice A3 s.length c3) := fun n => hx3
    obtain ⟨m, hm⟩ : ∃ m, m = n + s.length := ⟨_, rfl⟩
    have HN2 := Aside0.mk (show m = (l0.take (i + 1)).flatten.length by rw [flatten_take l0 i c, List.length_append, ← HN.out, ← hs2]; exact hm)
    have hmle : (m : Int) ≤ 70368744177664 := by have := flatten_take_le l0 (i + 1); have := HM.out; have := HN2.out; omega
    have e1 : (n : Int) + (s.length : Int) = (m : Int) := by omega
    have e2 : decide ((m : Int) < 0) = false := decide_eq_false (by omega)
    have p0 := eq_true (show (0 : Int) ≤ (i : Int) by omega)
    have p1 := eq_true (show (i : Int) < l0.length by omega)
    have HK := Aside0.mk hk
    clear hs hs2 hm hk hl3 hr3
    go_wp2
    go_roundg (gk - 1)
    case measure => have := HK.out; omega
    case rel =>
     have hk := HK.out
     exact ⟨i + 1, m, rfl, rfl, by omega, HN2, ⟨_, rfl⟩⟩
  · have cd1 : decide ((i : Int) < (l0.length : Int)) = false := decide_eq_false (by omega)
    have cd2 : decide (i < l0.length) = false := decide_eq_false c
    have hn : n = l0.flatten.length := by rw [HN.out, List.take_of_length_le (by omega)]
    have HN2 := Aside0.mk hn
    have HG := Aside0.mk (slices_Grow.calls n (w.drewN nd) (by omega) (by rw [hn]; exact HM.out))
    clear hn HN c hk
    go_wp2_with fail
    refine HG.out.mono ?_
    rintro e w1 ⟨v, rfl, hR, hB⟩
    have HR := Aside0.mk hR
    have HB := Aside0.mk (below_then (pw_below_drewN (Below.refl w.heap.size w) nd) (Nat.le_refl _) hB)
    clear hR hB HG
    go_wp2
    go_loopg [6, 27] l0.length (fun kq v6 v27 w' => ∃ (i : Nat), v27 = .int .i64 i ∧ i + kq = l0.length ∧ Aside0 (Kd.R (Kd.int .u8) 5 w' w.heap.size (fun _ => True) v6 (l0.take i).flatten) ∧ Aside0 (Below w.heap.size w w'))
    case atStart => exact ⟨0, rfl, by omega, HR, HB⟩
    case round =>
     clear HR HB
     obtain ⟨i, rfl, hk, HR, HB⟩ := hrel
     obtain ⟨A6, c6, hv6, hl6, hC6⟩ := Kd.R_reads HR.out
     subst hv6
     by_cases c : i < l0.length
     · have cd1 : decide ((i : Int) < (l0.length : Int)) = true := decide_eq_true (by omega)
       have cd2 : decide (i < l0.length) = true := decide_eq_true c
       obtain ⟨ad, A3, c3, rfl, hx3, hl3, hr3⟩ := at_L1 (Kd.C_below HR0.out HB.out) (i : Int) (by omega) (by omega)
       simp only [Int.toNat_natCast] at hx3
       obtain ⟨s, hs⟩ : ∃ s, s = rd_L1 l0 (i : Int) := ⟨_, rfl⟩
       rw [← hs] at hx3 hl3 hr3
       have hs2 : s = l0[i] := by rw [hs]; simp [rd_L1, c]
       have HN3 := Aside0.mk (show (l0.take (i + 1)).flatten = (l0.take i).flatten ++ s by rw [flatten_take l0 i c, ← hs2])
       have HLE := Aside0.mk (show ((l0.take i).flatten.length + s.length) * 1 ≤ 140737488355328 by have := flatten_take_le l0 (i + 1); rw [HN3.out, List.length_append] at this; have := HM.out; omega)
       have p0 := eq_true (show (0 : Int) ≤ (i : Int) by omega)
       have p1 := eq_true (show (i : Int) < l0.length by omega)
       have HK := Aside0.mk hk
       have HC3 := Aside0.mk hr3
       obtain ⟨q, hq⟩ : ∃ q, q = (l0.take i).flatten := ⟨_, rfl⟩
       rw [← hq] at HR HN3 HLE ⊢
       clear hs hs2 hk hl3 hr3 hl6 hC6 hq
       go_wp2_with (first
        | ((with_reducible refine gate_builtin (b := .append) (xs := #[.tmp 31, .tmp 32]) rfl ?_); at_builtin; refine Kd.R_append_rows (Kd.int .u8) (w0 := w) w.heap.size rfl (.tmp 31) (.tmp 32) 25 5 (.int .u8 0) 1 rfl Tryz.underlying25 info5 rfl (by decide) (by omega) (.slice A6 q.length c6) q s A3 s.length c3 (fun _ => True) (fun _ => False) rfl rfl HR.out HC3.out (fun _ _ h => h) (fun _ h => h.elim) (fun _ _ => trivial) HB.out HB.out.size HLE.out ?_; intro v6 w6 ho hb6 hg hat; have HO6 := Aside0.mk ho; have HB6 := Aside0.mk hb6; clear ho hb6 hg hat))
       go_roundg (gk - 1)
       case measure => have := HK.out; omega
       case rel =>
        have hk := HK.out
        exact ⟨i + 1, rfl, by omega, ⟨by rw [HN3.out]; exact HO6.out⟩, HB6⟩
     · have cd1 : decide ((i : Int) < (l0.length : Int)) = false := decide_eq_false (by omega)
       have cd2 : decide (i < l0.length) = false := decide_eq_false c
       have HE := Aside0.mk (show (l0.take i).flatten = l0.flatten by rw [List.take_of_length_le (by omega)])
       go_wp2
       go_ret
       exact ⟨_, rfl, by rw [← HE.out]; exact HR.out, HB.out⟩
def leB : Nat → Int → List Int
 | 0, _ => []
 | n + 1, x => x % 256 :: leB n (x / 256)
theorem leB_length : ∀ (n : Nat) (x : Int), (leB n x).length = n
 | 0, _ => rfl
 | n + 1, x => by simp [leB, leB_length n]
theorem put_uint8_l0 (d : Nat) : ∀ (k i : Nat) (acc : List Int) (x : Int), i + d = 1 → d < k → acc.length + d ≤ 140737488355328 → wire_Put_uint8.l0 k acc x 1 i = some (acc ++ leB d x) := by
 induction d with
 | zero =>
  intro k i acc x hi hk hl
  obtain ⟨k, rfl⟩ : ∃ m, k = m + 1 := ⟨k - 1, by omega⟩
  simp only [wire_Put_uint8.l0]
  rw [if_neg (by omega)]
  simp [leB]
 | succ d ih =>
  intro k i acc x hi hk hl
  obtain ⟨k, rfl⟩ : ∃ m, k = m + 1 := ⟨k - 1, by omega⟩
  simp only [wire_Put_uint8.l0]
  rw [if_pos (by omega), if_pos (by omega)]
  have hw : wrap64 ((i : Int) + 1) = ((i + 1 : Nat) : Int) := by unfold wrap64; omega
  rw [hw, ih k (i + 1) (acc ++ [x % 256]) (x / 256) (by omega) (by omega) (by simp; omega)]
  simp [leB]
theorem put_uint8 (A0 : Option Addr) (c0 : Nat) (l0 : List Int) (x : Int) (w : World) (hr0 : Kd.C (Kd.int .u8) w A0 l0.length l0) (hc0 : l0.length ≤ c0) (hl : (l0.length : Int) ≤ 70368744177664) (h0 : 0 ≤ x) (h1 : x < 256) :
 Calls Tryz.prog 186 #[.slice A0 l0.length c0, .int .u8 x] w (RowPost w (l0 ++ leB 1 x)) := by
 have hw : IntKind.u64.wrap x = x := by rw [IntKind.wrap_u64]; omega
 refine (wire_Put_uint8.calls 2 A0 c0 l0 x (l0 ++ leB 1 x) w hr0 hc0 ?_).mono fun e w' h => h
 unfold wire_Put_uint8.f wire_grown.f
 rw [if_pos (by omega), if_pos (by omega)]
 simp only [Option.bind_some, show wire_width_uint8.f = some 1 from rfl]
 rw [hw]
 exact put_uint8_l0 1 2 0 l0 x (by omega) (by omega) (by omega)
theorem put_uint16_l0 (d : Nat) : ∀ (k i : Nat) (acc : List Int) (x : Int), i + d = 2 → d < k → acc.length + d ≤ 140737488355328 → wire_Put_uint16.l0 k acc x 2 i = some (acc ++ leB d x) := by
 induction d with
 | zero =>
  intro k i acc x hi hk hl
  obtain ⟨k, rfl⟩ : ∃ m, k = m + 1 := ⟨k - 1, by omega⟩
  simp only [wire_Put_uint16.l0]
  rw [if_neg (by omega)]
  simp [leB]
 | succ d ih =>
  intro k i acc x hi hk hl
  obtain ⟨k, rfl⟩ : ∃ m, k = m + 1 := ⟨k - 1, by omega⟩
  simp only [wire_Put_uint16.l0]
  rw [if_pos (by omega), if_pos (by omega)]
  have hw : wrap64 ((i : Int) + 1) = ((i + 1 : Nat) : Int) := by unfold wrap64; omega
  rw [hw, ih k (i + 1) (acc ++ [x % 256]) (x / 256) (by omega) (by omega) (by simp; omega)]
  simp [leB]
theorem put_uint16 (A0 : Option Addr) (c0 : Nat) (l0 : List Int) (x : Int) (w : World) (hr0 : Kd.C (Kd.int .u8) w A0 l0.length l0) (hc0 : l0.length ≤ c0) (hl : (l0.length : Int) ≤ 70368744177664) (h0 : 0 ≤ x) (h1 : x < 65536) :
 Calls Tryz.prog 162 #[.slice A0 l0.length c0, .int .u16 x] w (RowPost w (l0 ++ leB 2 x)) := by
 have hw : IntKind.u64.wrap x = x := by rw [IntKind.wrap_u64]; omega
 refine (wire_Put_uint16.calls 3 A0 c0 l0 x (l0 ++ leB 2 x) w hr0 hc0 ?_).mono fun e w' h => h
 unfold wire_Put_uint16.f wire_grown.f
 rw [if_pos (by omega), if_pos (by omega)]
 simp only [Option.bind_some, show wire_width_uint16.f = some 2 from rfl]
 rw [hw]
 exact put_uint16_l0 2 3 0 l0 x (by omega) (by omega) (by omega)
theorem put_uint32_l0 (d : Nat) : ∀ (k i : Nat) (acc : List Int) (x : Int), i + d = 4 → d < k → acc.length + d ≤ 140737488355328 → wire_Put_uint32.l0 k acc x 4 i = some (acc ++ leB d x) := by
 induction d with
 | zero =>
  intro k i acc x hi hk hl
  obtain ⟨k, rfl⟩ : ∃ m, k = m + 1 := ⟨k - 1, by omega⟩
  simp only [wire_Put_uint32.l0]
  rw [if_neg (by omega)]
  simp [leB]
 | succ d ih =>
  intro k i acc x hi hk hl
  obtain ⟨k, rfl⟩ : ∃ m, k = m + 1 := ⟨k - 1, by omega⟩
  simp only [wire_Put_uint32.l0]
  rw [if_pos (by omega), if_pos (by omega)]
  have hw : wrap64 ((i : Int) + 1) = ((i + 1 : Nat) : Int) := by unfold wrap64; omega
  rw [hw, ih k (i + 1) (acc ++ [x % 256]) (x / 256) (by omega) (by omega) (by simp; omega)]
  simp [leB]
theorem put_uint32 (A0 : Option Addr) (c0 : Nat) (l0 : List Int) (x : Int) (w : World) (hr0 : Kd.C (Kd.int .u8) w A0 l0.length l0) (hc0 : l0.length ≤ c0) (hl : (l0.length : Int) ≤ 70368744177664) (h0 : 0 ≤ x) (h1 : x < 4294967296) :
 Calls Tryz.prog 182 #[.slice A0 l0.length c0, .int .u32 x] w (RowPost w (l0 ++ leB 4 x)) := by
 have hw : IntKind.u64.wrap x = x := by rw [IntKind.wrap_u64]; omega
 refine (wire_Put_uint32.calls 5 A0 c0 l0 x (l0 ++ leB 4 x) w hr0 hc0 ?_).mono fun e w' h => h
 unfold wire_Put_uint32.f wire_grown.f
 rw [if_pos (by omega), if_pos (by omega)]
 simp only [Option.bind_some, show wire_width_uint32.f = some 4 from rfl]
 rw [hw]
 exact put_uint32_l0 4 5 0 l0 x (by omega) (by omega) (by omega)
theorem put_uint64_l0 (d : Nat) : ∀ (k i : Nat) (acc : List Int) (x : Int), i + d = 8 → d < k → acc.length + d ≤ 140737488355328 → wire_Put_uint64.l0 k acc x 8 i = some (acc ++ leB d x) := by
 induction d with
 | zero =>
  intro k i acc x hi hk hl
  obtain ⟨k, rfl⟩ : ∃ m, k = m + 1 := ⟨k - 1, by omega⟩
  simp only [wire_Put_uint64.l0]
  rw [if_neg (by omega)]
  simp [leB]
 | succ d ih =>
  intro k i acc x hi hk hl
  obtain ⟨k, rfl⟩ : ∃ m, k = m + 1 := ⟨k - 1, by omega⟩
  simp only [wire_Put_uint64.l0]
  rw [if_pos (by omega), if_pos (by omega)]
  have hw : wrap64 ((i : Int) + 1) = ((i + 1 : Nat) : Int) := by unfold wrap64; omega
  rw [hw, ih k (i + 1) (acc ++ [x % 256]) (x / 256) (by omega) (by omega) (by simp; omega)]
  simp [leB]
theorem put_uint64 (A0 : Option Addr) (c0 : Nat) (l0 : List Int) (x : Int) (w : World) (hr0 : Kd.C (Kd.int .u8) w A0 l0.length l0) (hc0 : l0.length ≤ c0) (hl : (l0.length : Int) ≤ 70368744177664) (h0 : 0 ≤ x) (h1 : x < 18446744073709551616) :
 Calls Tryz.prog 185 #[.slice A0 l0.length c0, .int .u64 x] w (RowPost w (l0 ++ leB 8 x)) := by
 have hw : IntKind.u64.wrap x = x := by rw [IntKind.wrap_u64]; omega
 refine (wire_Put_uint64.calls 9 A0 c0 l0 x (l0 ++ leB 8 x) w hr0 hc0 ?_).mono fun e w' h => h
 unfold wire_Put_uint64.f wire_grown.f
 rw [if_pos (by omega), if_pos (by omega)]
 simp only [Option.bind_some, show wire_width_uint64.f = some 8 from rfl]
 exact put_uint64_l0 8 9 0 l0 x (by omega) (by omega) (by omega)
def vB : Nat → Int → List Int
 | 0, x => [x % 256]
 | d + 1, x => if x ≥ 128 then Go.bits .or .u8 (x % 256) 128 :: vB d (x / 128) else [x % 256]
theorem vB_length : ∀ (d : Nat) (x : Int), 1 ≤ (vB d x).length ∧ (vB d x).length ≤ d + 1
 | 0, _ => by simp [vB]
 | d + 1, x => by
  unfold vB
  have := vB_length d (x / 128)
  split
  · simp only [List.length_cons]; omega
  · simp
theorem putV_l0 (d : Nat) : ∀ (k : Nat) (acc : List Int) (x : Int), d < k → x < 128 ^ (d + 1) → acc.length + d + 1 ≤ 140737488355328 → wire_PutV.l0 k x acc = some (acc ++ vB d x) := by
 induction d with
 | zero =>
  intro k acc x hk hx hl
  obtain ⟨k, rfl⟩ : ∃ m, k = m + 1 := ⟨k - 1, by omega⟩
  simp only [wire_PutV.l0]
  rw [if_neg (by omega), if_pos (by omega)]
  rfl
 | succ d ih =>
  intro k acc x hk hx hl
  obtain ⟨k, rfl⟩ : ∃ m, k = m + 1 := ⟨k - 1, by omega⟩
  simp only [wire_PutV.l0, vB]
  by_cases c : x ≥ 128
  · rw [if_pos c, if_pos (by omega), if_pos c]
    have h1 : x / 128 < 128 ^ (d + 1) := by
     rw [Int.ediv_lt_iff_lt_mul (by omega), ← Int.pow_succ]
     exact hx
    rw [ih k _ _ (by omega) h1 (by simp; omega)]
    simp
  · rw [if_neg c, if_pos (by omega), if_neg c]
theorem put_V (A0 : Option Addr) (c0 : Nat) (l0 : List Int) (x : Int) (w : World) (hr0 : Kd.C (Kd.int .u8) w A0 l0.length l0) (hc0 : l0.length ≤ c0) (hl : (l0.length : Int) ≤ 70368744177664) (h0 : 0 ≤ x) (h1 : x < 18446744073709551616) :
 Calls Tryz.prog 161 #[.slice A0 l0.length c0, .int .u64 x] w (RowPost w (l0 ++ vB 9 x)) := by
 refine (wire_PutV.calls 10 A0 c0 l0 x (l0 ++ vB 9 x) w hr0 hc0 ?_).mono fun e w' h => h
 unfold wire_PutV.f wire_grown.f
 rw [if_pos (by omega), if_pos (by omega)]
 simp only [Option.bind_some]
 exact putV_l0 9 10 l0 x (by omega) (by have : (128 : Int) ^ (9 + 1) = 1180591620717411303424 := by decide
                                        omega) (by omega)
abbrev It := S77
theorem wrap_id (n : Int) (h0 : -9223372036854775808 ≤ n) (h1 : n ≤ 9223372036854775807) : wrap64 n = n := by unfold wrap64; omega
theorem u64_id (n : Int) (h0 : 0 ≤ n) (h1 : n ≤ 18446744073709551615) : IntKind.u64.wrap n = n := IntWalk.u64_in n ⟨h0, h1⟩
def vlen (x : Nat) : Nat := if _h : x < 128 then 1 else vlen (x / 128) + 1
termination_by x
decreasing_by omega
theorem vlen_small {x : Nat} (h : x < 128) : vlen x = 1 := by rw [vlen, dif_pos h]
theorem vlen_big {x : Nat} (h : ¬ x < 128) : vlen x = vlen (x / 128) + 1 := by rw [vlen, dif_neg h]
theorem vlen_pos (x : Nat) : 1 ≤ vlen x := by
 by_cases h : x < 128
 · rw [vlen_small h]; exact Nat.le_refl _
 · rw [vlen_big h]; omega
theorem vlen_le (k : Nat) : ∀ x : Nat, x < 128 ^ (k + 1) → vlen x ≤ k + 1 := by
 induction k with
 | zero => intro x hx; rw [vlen_small (by simpa using hx)]; exact Nat.le_refl _
 | succ k ih =>
  intro x hx
  by_cases h : x < 128
  · rw [vlen_small h]; omega
  · rw [vlen_big h]
    have := ih (x / 128) (by rw [Nat.pow_succ] at hx; omega)
    omega
theorem vlen_u64 {x : Nat} (h : x < 18446744073709551616) : vlen x ≤ 10 := vlen_le 9 x (by omega)
theorem vlen_prog : ∀ (x : Nat) (n : Nat), n + vlen x ≤ 4611686018427387904 → Ev (fun k => wire_VLen.l0 k x n) ((n + vlen x - 1 : Nat) : Int) := by
 intro x
 induction x using Nat.strongRecOn with
 | _ x ih =>
  intro n hn
  have hp := vlen_pos x
  by_cases h : x < 128
  · rw [vlen_small h]
    refine Ev.step (f := fun _ => some (n : Int)) (fun k => ?_) (Ev.now _)
    simp only [wire_VLen.l0]
    rw [if_neg (by omega)]
  · rw [vlen_big h] at hn ⊢
    refine Ev.step (f := fun k => wire_VLen.l0 k ((x / 128 : Nat) : Int) ((n + 1 : Nat) : Int)) (fun k => ?_) ?_
    · simp only [wire_VLen.l0]
      rw [if_pos (by omega), wrap_id _ (by omega) (by omega)]
      rfl
    · have := ih (x / 128) (by omega) (n + 1) (by omega)
      rwa [show n + 1 + vlen (x / 128) - 1 = n + (vlen (x / 128) + 1) - 1 by omega] at this
theorem vlen_f (x : Nat) (hx : x < 18446744073709551616) : Ev (fun k => wire_VLen.f k x) (vlen x : Int) := by
 have h := vlen_prog x 1 (by have := vlen_u64 hx; omega)
 rwa [show 1 + vlen x - 1 = vlen x by omega] at h
theorem cmn_le_right (a b : List Int) : cmn a b ≤ b.length := by
 induction a generalizing b with
 | nil => simp [cmn]
 | cons x xs ih =>
  cases b with
  | nil => simp [cmn]
  | cons y ys =>
   simp only [cmn]
   split
   · have := ih ys
     simp
     omega
   · simp
theorem cmn_take_le (a : List Int) (n : Nat) (s : List Int) : cmn (a.take n) s ≤ n := Nat.le_trans (cmn_le _ _) (by rw [List.length_take]; omega)
theorem cmnFrom_le_n (a : List Int) (l : List (List Int)) : ∀ n, cmnFrom a n l ≤ n := by
 induction l with
 | nil => intro n; exact Nat.le_refl _
 | cons s l ih => intro n; exact Nat.le_trans (ih (cmn (a.take n) s)) (cmn_take_le a n s)
theorem cmnFrom_le_mem (a : List Int) (l : List (List Int)) : ∀ n, ∀ s ∈ l, cmnFrom a n l ≤ s.length := by
 induction l with
 | nil => intro n s hs; cases hs
 | cons s0 l ih =>
  intro n s hs
  rcases List.mem_cons.1 hs with rfl | h
  · exact Nat.le_trans (cmnFrom_le_n a l _) (cmn_le_right _ _)
  · exact ih (cmn (a.take n) s0) s h
theorem cmnAll_le (l : List (List Int)) : ∀ s ∈ l, cmnAll l ≤ s.length := by
 cases l with
 | nil => intro s hs; cases hs
 | cons a l =>
  intro s hs
  rcases List.mem_cons.1 hs with rfl | h
  · exact cmnFrom_le_n _ l _
  · exact cmnFrom_le_mem _ l _ s h
def cl (s : Int) : Nat := (mn (mx s 0) 262144).toNat
theorem cl_le (s : Int) : cl s ≤ 262144 := by unfold cl mn mx; split <;> split <;> omega
theorem cl_mn (s : Int) : mn (mx s 0) 262144 = (cl s : Int) := by unfold cl mn mx; split <;> split <;> omega
def tagOf (s : Int) : Nat := if cl s > 512 then 2 * cl s + 1 else 2 * cl s
theorem tagOf_le (s : Int) : tagOf s ≤ 524289 := by have := cl_le s; unfold tagOf; split <;> omega
def inl (s : Int) : Nat := if cl s > 512 then 4 else cl s
theorem inl_le (s : Int) : inl s ≤ 512 := by unfold inl; split <;> omega
def cellL (p : Nat) (x : It) : Nat := 2 + vlen (x.f0.length - p) + (x.f0.length - p) + vlen (tagOf x.f2) + inl x.f2
theorem cellL_le (p : Nat) (x : It) (h : x.f0.length ≤ 1000000) : cellL p x ≤ 2000000 := by
 have h1 := vlen_u64 (x := x.f0.length - p) (by omega)
 have h2 := vlen_u64 (x := tagOf x.f2) (by have := tagOf_le x.f2; omega)
 have h3 := inl_le x.f2
 unfold cellL
 omega
def pre (l : List It) : Nat := cmnAll (l.map (·.f0))
def sizeL (l : List It) : Nat := 3 + vlen (pre l) + pre l + (l.map (cellL (pre l))).sum
def Small (l : List It) : Prop := l.length ≤ 70000 ∧ ∀ x ∈ l, x.f0.length ≤ 1000000
theorem tag_f (s : Int) : leaf_tag.f (cl s) = some (tagOf s : Int) := by
 have := cl_le s
 unfold leaf_tag.f leaf_chained.f tagOf
 simp only [Option.bind_some]
 rw [u64_id (cl s : Int) (by omega) (by omega), u64_id (2 * (cl s : Int)) (by omega) (by omega)]
 by_cases h : cl s > 512
 · rw [if_pos (decide_eq_true (by omega)), if_pos h, u64_id _ (by omega) (by omega)]
   rfl
 · rw [if_neg (by simp; omega), if_neg h]
   rfl
theorem rd_item (l : List It) (i : Nat) (h : i < l.length) : rd_T77 l (i : Int) = l[i] := by
 simp [rd_T77, h]
theorem drop_sum (f : It → Nat) (l : List It) (i : Nat) (h : i < l.length) : ((l.drop i).map f).sum = f l[i] + ((l.drop (i + 1)).map f).sum := by
 rw [List.drop_eq_getElem_cons h, List.map_cons, List.sum_cons]
theorem size_loop (p : Nat) (l : List It) (hs : Small l) (hp : ∀ x ∈ l, p ≤ x.f0.length) (d : Nat) : ∀ (i n : Nat), i + d = l.length → n ≤ (i + 2) * 2000000 →
 Ev (fun k => leaf_Size.l0 k p n l l.length i) ((n + ((l.drop i).map (cellL p)).sum : Nat) : Int) := by
 have hlen := hs.1
 induction d with
 | zero =>
  intro i n hi hn
  refine Ev.step (f := fun _ => some (n : Int)) (fun k => ?_) ?_
  · simp only [leaf_Size.l0]
    rw [if_neg (by omega)]
  · rw [List.drop_eq_nil_of_le (by omega)]
    exact Ev.now _
 | succ d ih =>
  intro i n hi hn
  have hlt : i < l.length := by omega
  have hkey := hs.2 l[i] (List.getElem_mem hlt)
  have hpk := hp l[i] (List.getElem_mem hlt)
  have hc := cellL_le p l[i] hkey
  have hv1 := vlen_u64 (x := l[i].f0.length - p) (by omega)
  have htag := tagOf_le l[i].f2
  have hv2 := vlen_u64 (x := tagOf l[i].f2) (by omega)
  have hinl := inl_le l[i].f2
  have hcl := cl_le l[i].f2
  have hrec := ih (i + 1) (n + cellL p l[i]) (by omega) (by omega)
  rw [drop_sum _ _ _ hlt, ← Nat.add_assoc]
  obtain ⟨K1, h1⟩ := vlen_f (l[i].f0.length - p) (by omega)
  obtain ⟨K2, h2⟩ := vlen_f (tagOf l[i].f2) (by omega)
  obtain ⟨K3, h3⟩ := hrec
  refine ⟨K1 + K2 + K3 + 1, fun k hk => ?_⟩
  obtain ⟨k, rfl⟩ : ∃ m, k = m + 1 := ⟨k - 1, by omega⟩
  have g1 : wire_VLen.f k ((l[i].f0.length - p : Nat) : Int) = some (vlen (l[i].f0.length - p) : Int) := h1 k (by omega)
  have g2 : wire_VLen.f k ((tagOf l[i].f2 : Nat) : Int) = some (vlen (tagOf l[i].f2) : Int) := h2 k (by omega)
  have e1 : (l[i].f0.length : Int) - p = ((l[i].f0.length - p : Nat) : Int) := by omega
  have e2 : ((l[i].f0.length - p : Nat) : Int) ≤ 1000000 := by omega
  simp only [leaf_Size.l0]
  rw [if_pos (by omega), if_pos (by omega), if_pos (by omega), rd_item l i hlt, cl_mn, tag_f, wrap_id ((l[i].f0.length : Int) - p) (by omega) (by omega), e1, u64_id _ (by omega) (by omega), g1]
  simp only [Option.bind_some]
  rw [g2]
  unfold leaf_chained.f
  simp only [Option.bind_some]
  rw [wrap_id (2 + (vlen (l[i].f0.length - p) : Int)) (by omega) (by omega), wrap_id (2 + (vlen (l[i].f0.length - p) : Int) + ((l[i].f0.length - p : Nat) : Int)) (by omega) (by omega),
   wrap_id (2 + (vlen (l[i].f0.length - p) : Int) + ((l[i].f0.length - p : Nat) : Int) + (vlen (tagOf l[i].f2) : Int)) (by omega) (by omega),
   wrap_id ((n : Int) + (2 + (vlen (l[i].f0.length - p) : Int) + ((l[i].f0.length - p : Nat) : Int) + (vlen (tagOf l[i].f2) : Int))) (by omega) (by omega), wrap_id ((i : Int) + 1) (by omega) (by omega)]
  have h4 := h3 k (by omega)
  by_cases h : cl l[i].f2 > 512
  · rw [if_pos (decide_eq_true (by omega)), wrap_id _ (by omega) (by omega)]
    rw [← h4]
    congr 1
    unfold cellL inl
    rw [if_pos h]
    omega
  · rw [if_neg (by simp; omega), wrap_id _ (by omega) (by omega)]
    rw [← h4]
    congr 1
    unfold cellL inl
    rw [if_neg h]
    omega
theorem prefix_loop (l : List It) (hs : Small l) (d : Nat) : ∀ (i : Nat) (acc : List (List Int)), i + d = l.length → acc = (l.take i).map (·.f0) → Ev (fun k => leaf_prefix.l0 k acc l l.length i) (pre l : Int) := by
 have hlen := hs.1
 induction d with
 | zero =>
  intro i acc hi hacc
  refine Ev.step (f := fun _ => some (pre l : Int)) (fun k => ?_) (Ev.now _)
  simp only [leaf_prefix.l0]
  rw [if_neg (by omega), hacc, List.take_of_length_le (by omega)]
  rfl
 | succ d ih =>
  intro i acc hi hacc
  have hlt : i < l.length := by omega
  have hal : acc.length = i := by rw [hacc, List.length_map, List.length_take]; omega
  refine Ev.step (f := fun k => leaf_prefix.l0 k (acc ++ [l[i].f0]) l l.length ((i + 1 : Nat) : Int)) (fun k => ?_) (ih (i + 1) _ (by omega) ?_)
  · simp only [leaf_prefix.l0]
    rw [if_pos (by omega), if_pos (by omega), if_pos (by omega), if_pos (by omega), rd_item l i hlt, wrap_id _ (by omega) (by omega)]
    rfl
  · rw [hacc, List.take_succ_eq_append_getElem hlt, List.map_append]
    rfl
theorem prefix_f (l : List It) (hs : Small l) : Ev (fun k => leaf_prefix.f k l) (pre l : Int) := prefix_loop l hs l.length 0 [] (by omega) rfl
theorem pre_le (l : List It) : ∀ x ∈ l, pre l ≤ x.f0.length := fun x hx => cmnAll_le _ _ (List.mem_map.2 ⟨x, hx, rfl⟩)
theorem pre_small (l : List It) (hs : Small l) : pre l ≤ 1000000 := by
 cases l with
 | nil => exact Nat.zero_le _
 | cons x l => exact Nat.le_trans (pre_le (x :: l) x (List.mem_cons_self ..)) (hs.2 x (List.mem_cons_self ..))
theorem size_f (l : List It) (hs : Small l) : Ev (fun k => leaf_Size.f k l) (sizeL l : Int) := by
 have hp := pre_small l hs
 have hv := vlen_u64 (x := pre l) (by omega)
 obtain ⟨K1, h1⟩ := prefix_f l hs
 obtain ⟨K2, h2⟩ := vlen_f (pre l) (by omega)
 obtain ⟨K3, h3⟩ := size_loop (pre l) l hs (pre_le l) l.length 0 (3 + vlen (pre l) + pre l) (by omega) (by omega)
 refine ⟨K1 + K2 + K3, fun k hk => ?_⟩
 have g1 : leaf_prefix.f k l = some (pre l : Int) := h1 k (by omega)
 have g2 : wire_VLen.f k (pre l : Int) = some (vlen (pre l) : Int) := h2 k (by omega)
 have g3 := h3 k (by omega)
 show leaf_Size.f k l = _
 unfold leaf_Size.f
 rw [g1]
 simp only [Option.bind_some]
 rw [u64_id _ (by omega) (by omega), g2]
 simp only [Option.bind_some]
 rw [wrap_id (3 + (vlen (pre l) : Int)) (by omega) (by omega), wrap_id _ (by omega) (by omega)]
 exact g3
theorem run_bytesOf {P : Program} {w : World} {A : Option Addr} {n c : Nat} {xs : List Int} (h : (Kd.int .u8).C w A n xs) : (Extern.Bytes.bytesOf (.slice A n c)).run P w = .ok (strOfNums xs) w := by
 have h := Kd.reads_of_C (enc := Value.int .u8) (d := (0 : Int)) (h1 := fun _ => rfl) h
 have hn : xs.length = n := h.1
 rcases A with _ | ad
 · have h0 : n = 0 := by
    rcases Nat.eq_zero_or_pos n with h0 | h0
    · exact h0
    · obtain ⟨ad, h', _⟩ := h.2.2 h0
      cases h'
   subst h0
   obtain rfl : xs = [] := List.eq_nil_of_length_eq_zero hn
   rfl
 · have hl := Lib.run_loadBytesX (P := P) w xs ad .empty (fun j x hj => by
    have hjl : j < xs.length := (List.getElem?_eq_some_iff.1 hj).1
    obtain ⟨ad', he', hc⟩ := h.2.2 (by omega)
    injection he' with he'
    subst he'
    rw [hc j (by omega), List.getD_eq_getElem?_getD, hj]
    rfl)
   rw [hn] at hl
   have he : (⟨ByteArray.empty.data ++ (Lib.bytesOf xs).toArray⟩ : ByteArray) = strOfNums xs := by
    apply ByteArray.ext
    simp [strOfNums, Lib.bytesOf, ByteArray.empty, ByteArray.emptyWithCapacity]
    try rfl
   rw [he] at hl
   exact hl
def keys_Compare.f (l0 l1 : List Int) : Option Int := some (Lib.compareBytes (strOfNums l0).data.toList (strOfNums l1).data.toList)
theorem keys_Compare.calls (A0 : Option Addr) (c0 : Nat) (l0 : List Int) (A1 : Option Addr) (c1 : Nat) (l1 : List Int) (r : Int) (w : World) (hr0 : Kd.C (Kd.int .u8) w A0 l0.length l0) (hc0 : l0.length ≤ c0) (hr1 : Kd.C (Kd.int .u8) w A1 l1.length l1) (hc1 : l1.length ≤ c1) (h : keys_Compare.f l0 l1 = some r) :
 Calls Tryz.prog 243 #[.slice A0 l0.length c0, .slice A1 l1.length c1] w fun e w' => e = .returned (.int .i64 r) ∧ Drawn0 w w' := by
 have hb : Calls Tryz.prog 274 #[.slice A0 l0.length c0, .slice A1 l1.length c1] w fun e w' => e = .returned (.int .i64 r) ∧ w' = w := by
  obtain rfl := Option.some.inj h
  have hx : (Extern.BytealgCompare.compare #[.slice A0 l0.length c0, .slice A1 l1.length c1]).run Tryz.prog w = .ok (.int .i64 (Lib.compareBytes (strOfNums l0).data.toList (strOfNums l1).data.toList)) w := by
   change Sem.run Tryz.prog (do pure (goInt (Extern.BytealgCompare.cmp (← Extern.Bytes.bytesOf (.slice A0 l0.length c0)) (← Extern.Bytes.bytesOf (.slice A1 l1.length c1))))) w = _
   simp only [Sem.run_bind, Sem.run_pure, Result.andThen, run_bytesOf hr0, run_bytesOf hr1]
   rw [Lib.cmp_eq]
   rfl
  clear hr0 hr1 hc0 hc1 h
  go_enter Tryz.func274, Tryz.ntmps274
  go_wp2
  rw [run_callFunc_extern Tryz.func278 (by kernel_rfl) (by kernel_rfl) (by kernel_rfl) (e := Extern.BytealgCompare.compare) (by kernel_rfl), hx]
  simp only [Result.andThen]
  rw [Oper.upon_value]
  go_wp2
  go_ret
  exact ⟨rfl, rfl⟩
 have HC := Aside0.mk hb
 clear hb hr0 hr1 hc0 hc1 h
 go_enter Tryz.func243, Tryz.ntmps243
 go_wp2_with fail
 refine HC.out.mono ?_
 rintro e w' ⟨rfl, rfl⟩
 go_wp2
 go_ret
 exact ⟨rfl, 0, rfl⟩
end Go.Proofs.YtppjphghlclklaaGreatDoor.P
end
