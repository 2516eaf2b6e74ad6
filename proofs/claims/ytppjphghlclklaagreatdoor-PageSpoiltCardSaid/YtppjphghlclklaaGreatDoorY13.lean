/- Parts of a proof, laid together by a program of this session (slim.py). -/
import Derived.Test.YtppjphghlclklaaGreatDoorY12
import Derived.Test.YtppjphghlclklaaGreatDoorY7
import Derived.Test.YtppjphghlclklaaGreatDoorY11
import Derived.Test.YtppjphghlclklaaGreatDoorY1
import Derived.Test.YtppjphghlclklaaGreatDoorY3
set_option maxHeartbeats 8000000
set_option maxRecDepth 100000
section
namespace Go.Proofs.YtppjphghlclklaaGreatDoor.P
open Go.RowKit Go.Proofs.YtppjphghlclklaaGreatDoorW.PrintWords Go.Proofs.YtppjphghlclklaaGreatDoorW.PrintLast Go.Proofs.YtppjphghlclklaaGreatDoorW.PrintMore
attribute [local go_sem] max2_int min2_int max_two min_two max_three min_three max_four min_four
set_option linter.unusedVariables false
set_option linter.unusedSimpArgs false
def nextB (x : Int) : Bool := decide (x = 0 ∨ (2 ≤ x ∧ x < 524287))
def dataB (next n : Int) : Bool := decide (1 ≤ n ∧ n ≤ 4085 ∧ (next = 0 ∨ n = 4085))
def risesB : Int → List Int → Bool
 | _, [] => true
 | last, x :: xs => decide (last < x ∧ x < 524287) && risesB x xs
def listB (next : Int) (l : List Int) : Bool := risesB 1 l && decide ((l.length : Int) ≤ 1021 ∧ (next = 0 ∨ (l.length : Int) = 1021))
def zerosB (l : List Int) : Bool := l.all (· == 0)
theorem isNext_f (x : Int) : chain_isNext.f x = some (nextB x) := by
 unfold chain_isNext.f nextB
 by_cases h : x = 0
 · rw [if_pos h]; simp [h]
 · rw [if_neg h]
   by_cases h2 : x ≥ 2
   · rw [if_pos h2]
     simp only [Option.some.injEq, decide_eq_decide]
     omega
   · rw [if_neg h2]
     simp only [Option.some.injEq, Bool.false_eq, decide_eq_false_iff_not]
     omega
theorem isData_f (x n : Int) : chain_isData.f x n = some (dataB x n) := by
 unfold chain_isData.f dataB
 by_cases h : n ≥ 1
 · rw [if_pos h]
   by_cases h2 : n ≤ 4085
   · rw [if_pos h2]
     by_cases h3 : x = 0
     · rw [if_pos h3]
       simp only [Option.some.injEq, Bool.true_eq, decide_eq_true_eq]
       omega
     · rw [if_neg h3]
       simp only [Option.some.injEq]
       rw [Bool.eq_iff_iff]
       simp only [beq_iff_eq, decide_eq_true_eq]
       omega
   · rw [if_neg h2]
     simp only [Option.some.injEq, Bool.false_eq, decide_eq_false_iff_not]
     omega
 · rw [if_neg h]
   simp only [Option.some.injEq, Bool.false_eq, decide_eq_false_iff_not]
   omega
theorem isList_l0 (next : Int) (l : List Int) (hl : l.length ≤ 9223372036854775806) (d : Nat) : ∀ (k i : Nat) (last : Int), i + d = l.length → d < k →
 chain_isList.l0 k next l last l l.length i = some (risesB last (l.drop i) && decide ((l.length : Int) ≤ 1021 ∧ (next = 0 ∨ (l.length : Int) = 1021))) := by
 induction d with
 | zero =>
  intro k i last hi hk
  obtain ⟨k, rfl⟩ : ∃ m, k = m + 1 := ⟨k - 1, by omega⟩
  simp only [chain_isList.l0]
  rw [if_neg (by omega), List.drop_eq_nil_of_le (by omega)]
  simp only [risesB, Bool.true_and]
  by_cases h : (l.length : Int) ≤ 1021
  · rw [if_pos h]
    by_cases h2 : next = 0
    · rw [if_pos h2]
      simp [h, h2]
    · rw [if_neg h2]
      simp only [Option.some.injEq]
      rw [Bool.eq_iff_iff]
      simp only [beq_iff_eq, decide_eq_true_eq]
      omega
  · rw [if_neg h]
    simp [h]
 | succ d ih =>
  intro k i last hi hk
  obtain ⟨k, rfl⟩ : ∃ m, k = m + 1 := ⟨k - 1, by omega⟩
  have hil : i < l.length := by omega
  simp only [chain_isList.l0]
  rw [if_pos (by omega), if_pos (by omega), if_pos (by omega), List.drop_eq_getElem_cons hil]
  have hr : rd l (i : Int) = l[i] := by simp [rd, List.getD_eq_getElem?_getD, hil]
  rw [hr]
  simp only [risesB]
  have hw : wrap64 ((i : Int) + 1) = ((i + 1 : Nat) : Int) := by unfold wrap64; omega
  by_cases h : l[i] ≤ last
  · rw [if_pos h, show decide (last < l[i] ∧ l[i] < 524287) = false from decide_eq_false (by omega)]
    simp
  · rw [if_neg h]
    by_cases h2 : l[i] ≥ 524287
    · rw [if_pos h2, show decide (last < l[i] ∧ l[i] < 524287) = false from decide_eq_false (by omega)]
      simp
    · rw [if_neg h2, show decide (last < l[i] ∧ l[i] < 524287) = true from decide_eq_true (by omega), hw, ih k (i + 1) _ (by omega) (by omega)]
      simp
theorem isList_f (next : Int) (l : List Int) (hl : l.length ≤ 9223372036854775806) : chain_isList.f (l.length + 1) next l = some (listB next l) := by
 unfold chain_isList.f listB
 have h := isList_l0 next l hl l.length (l.length + 1) 0 1 (by omega) (by omega)
 simpa using h
theorem zeros_l0 (l : List Int) (hl : l.length ≤ 9223372036854775806) (d : Nat) : ∀ (k i : Nat), i + d = l.length → d < k → chain_zeros.l0 k l l.length i = some (zerosB (l.drop i)) := by
 induction d with
 | zero =>
  intro k i hi hk
  obtain ⟨k, rfl⟩ : ∃ m, k = m + 1 := ⟨k - 1, by omega⟩
  simp only [chain_zeros.l0]
  rw [if_neg (by omega), List.drop_eq_nil_of_le (by omega)]
  rfl
 | succ d ih =>
  intro k i hi hk
  obtain ⟨k, rfl⟩ : ∃ m, k = m + 1 := ⟨k - 1, by omega⟩
  have hil : i < l.length := by omega
  simp only [chain_zeros.l0]
  rw [if_pos (by omega), if_pos (by omega), if_pos (by omega), List.drop_eq_getElem_cons hil]
  have hr : rd l (i : Int) = l[i] := by simp [rd, List.getD_eq_getElem?_getD, hil]
  have hw : wrap64 ((i : Int) + 1) = ((i + 1 : Nat) : Int) := by unfold wrap64; omega
  rw [hr]
  unfold zerosB
  rw [List.all_cons]
  by_cases h : l[i] = 0
  · rw [if_pos h, hw, ih k (i + 1) (by omega) (by omega), h]
    rfl
  · rw [if_neg h, show (l[i] == 0) = false from beq_eq_false_iff_ne.mpr h]
    rfl
theorem zeros_f (l : List Int) (hl : l.length ≤ 9223372036854775806) : chain_zeros.f (l.length + 1) l = some (zerosB l) := by
 unfold chain_zeros.f
 have h := zeros_l0 l hl l.length (l.length + 1) 0 (by omega) (by omega)
 simpa using h
def chainHead (kind next n : Int) : List Int := [kind] ++ leB 4 (next % 4294967296) ++ leB 2 (n % 65536)
theorem chainHead_length (kind next n : Int) : (chainHead kind next n).length = 7 := by simp [chainHead, leB_length]
def BegunPost (w : World) (B : List Int) (e : Ending) (w' : World) : Prop := ∃ g, e = .returned (.slice (some ⟨g, 0, none⟩) 7 4092) ∧ w.heap.size ≤ g ∧ Full 5 w' g B ∧ Below w.heap.size w w'
theorem begun_full (kind next n : Int) (w : World) :
 Calls Tryz.prog 178 #[.int .u8 kind, .int .i64 next, .int .i64 n] w (BegunPost w (chainHead kind next n ++ zs 4085)) := by
 have HP4 := Aside0.mk (fun W => put_uint32 none 0 [] (next % 4294967296) W (Kd.C_nil _ _) (Nat.le_refl _) (by decide) (by omega) (by omega))
 have HP2 := Aside0.mk (fun W => put_uint16 none 0 [] (n % 65536) W (Kd.C_nil _ _) (Nat.le_refl _) (by decide) (by omega) (by omega))
 have hw16 : IntKind.u16.wrap n = n % 65536 := by rw [IntKind.wrap_u16]
 go_enter Tryz.func178, Tryz.ntmps178
 go_wp2_with (first
  | ((with_reducible refine gate_dst (N := 8) rfl ?_); refine make_full (w0 := w) (base := w.heap.size) rfl (N := 8) rfl 25 _ _ rfl 0 4092 rfl rfl Tryz.underlying25 info5 (by decide) (by decide) (by decide) (Below.refl _ _) (Nat.le_refl _) ?_; intro w1 hF hb hg; rw [show (4092 : Int).toNat = 4092 from rfl] at hF; have HF1 := Aside0.mk hF; have HB1 := Aside0.mk hb; clear hF hb hg)
  | ((with_reducible refine gate_builtin (b := .append) (xs := #[.tmp 9, .tmp 11]) rfl ?_); at_builtin; refine append_full (w0 := w) (base := w.heap.size) rfl (.tmp 9) (.tmp 11) 25 rfl Tryz.underlying25 info5 (zs 4092) [kind] (some ⟨w1.heap.size, 0, none⟩) 1 1 rfl rfl (HF1.out.alloc _) (by rw [zs_length]) (lit_C _ _ _) (by decide) (by decide) (below_alloc HB1.out _) (Nat.le_refl _) ?_; intro w2 hF hb hg; replace hF := (splice_zero [] [kind] 0 1 4092 rfl rfl (by decide)) ▸ hF; have HF2 := Aside0.mk hF; have HB2 := Aside0.mk hb; clear hF hb hg HF1 HB1))
 refine (HP4.out _).mono ?_
 rintro e w3 ⟨v, rfl, hR, hB⟩
 obtain ⟨A3, c3, rfl, hl3, hC3⟩ := Kd.R_reads hR
 have HF3 := Aside0.mk (HF2.out.below hB)
 have HB3 := Aside0.mk (below_step HB2.out hB)
 simp only [List.nil_append, leB_length] at hC3 hl3 ⊢
 have HC3 := Aside0.mk hC3
 have HG3 := Aside0.mk (show w.heap.size < w3.heap.size from HF3.out.lt)
 clear hR hB hl3 hC3 HF2 HB2
 go_wp2_with (first
  | ((with_reducible refine gate_builtin (b := .append) (xs := #[.tmp 13, .tmp 16]) rfl ?_); at_builtin; refine append_full (w0 := w) (base := w.heap.size) rfl (.tmp 13) (.tmp 16) 25 rfl Tryz.underlying25 info5 ([kind] ++ zs 4091) (leB 4 (next % 4294967296)) A3 4 c3 rfl rfl HF3.out (by simp [zs_length]) HC3.out (by decide) (by decide) HB3.out (Nat.le_refl _) ?_; intro w4 hF hb hg; replace hF := (splice_zero [kind] (leB 4 (next % 4294967296)) 1 4 4091 rfl (leB_length _ _) (by decide)) ▸ hF; have HF4 := Aside0.mk hF; have HB4 := Aside0.mk hb; clear hF hb hg HF3 HB3))
 refine (HP2.out _).mono ?_
 rintro e w5 ⟨v, rfl, hR, hB⟩
 obtain ⟨A5, c5, rfl, hl5, hC5⟩ := Kd.R_reads hR
 have HF5 := Aside0.mk (HF4.out.below hB)
 have HB5 := Aside0.mk (below_step HB4.out hB)
 simp only [List.nil_append, leB_length] at hC5 hl5 ⊢
 have HC5 := Aside0.mk hC5
 clear hR hB hl5 hC5 HF4 HB4
 go_wp2_with (first
  | ((with_reducible refine gate_builtin (b := .append) (xs := #[.tmp 18, .tmp 21]) rfl ?_); at_builtin; refine append_full (w0 := w) (base := w.heap.size) rfl (.tmp 18) (.tmp 21) 25 rfl Tryz.underlying25 info5 (([kind] ++ leB 4 (next % 4294967296)) ++ zs 4087) (leB 2 (n % 65536)) A5 2 c5 rfl rfl HF5.out (by simp [zs_length, leB_length]) HC5.out (by decide) (by decide) HB5.out (Nat.le_refl _) ?_; intro w6 hF hb hg; replace hF := (splice_zero ([kind] ++ leB 4 (next % 4294967296)) (leB 2 (n % 65536)) 5 2 4087 (by simp [leB_length]) (leB_length _ _) (by decide)) ▸ hF; have HF6 := Aside0.mk hF; have HB6 := Aside0.mk hb; clear hF hb hg HF5 HB5))
 go_ret
 exact ⟨_, rfl, Nat.le_refl _, HF6.out, HB6.out⟩
def encDataR (next : Int) (data : List Int) : List Int × Int := if nextB next = true then (if dataB next data.length = true then (chainHead 3 next data.length ++ data ++ zs (4085 - data.length), 0) else ([], 62)) else ([], 51)
def EncPost (w : World) (r : List Int × Int) (e : Ending) (w' : World) : Prop := ∃ v, e = .returned (.tuple #[v, .int .i64 r.2]) ∧ Kd.R (Kd.int .u8) 5 w' w.heap.size (fun _ => True) v r.1 ∧ Below w.heap.size w w'
theorem chain_EncodeData.calls (next : Int) (A0 : Option Addr) (c0 : Nat) (l0 : List Int) (w : World) (hr0 : Kd.C (Kd.int .u8) w A0 l0.length l0) (hc0 : l0.length ≤ c0) :
 Calls Tryz.prog 77 #[.int .i64 next, .slice A0 l0.length c0] w (EncPost w (encDataR next l0)) := by
 have HN := Aside0.mk (chain_isNext.calls next _ w (isNext_f next))
 have HD := Aside0.mk (fun m => chain_isData.calls next l0.length _ (w.drewN m) (isData_f next l0.length))
 unfold encDataR
 obtain ⟨b, hb⟩ : ∃ b, nextB next = b := ⟨_, rfl⟩
 rw [hb] at HN ⊢
 have HR0 := Aside0.mk hr0
 clear hb hr0
 cases b with
 | false =>
  rw [if_neg (by decide)]
  clear HD HR0 hc0
  go_enter Tryz.func77, Tryz.ntmps77
  go_wp2_with fail
  refine HN.out.mono ?_
  rintro e w1 ⟨rfl, m, rfl⟩
  go_wp2
  go_ret2
  exact ⟨_, rfl, Kd.R_nil _ _ _ _ _, pw_below_drewN (Below.refl _ _) m⟩
 | true =>
  rw [if_pos rfl]
  obtain ⟨b, hb⟩ : ∃ b, dataB next l0.length = b := ⟨_, rfl⟩
  rw [hb] at HD ⊢
  cases b with
  | false =>
   rw [if_neg (by decide)]
   clear HR0 hc0 hb
   go_enter Tryz.func77, Tryz.ntmps77
   go_wp2_with fail
   refine HN.out.mono ?_
   rintro e w1 ⟨rfl, m, rfl⟩
   go_wp2_with fail
   refine (HD.out _).mono ?_
   rintro e w1 ⟨rfl, m2, rfl⟩
   go_wp2
   go_ret2
   exact ⟨_, rfl, Kd.R_nil _ _ _ _ _, pw_below_drewN (Below.refl _ _) _⟩
  | true =>
   rw [if_pos rfl]
   have hdb : 1 ≤ l0.length ∧ l0.length ≤ 4085 := by
    have := of_decide_eq_true hb
    omega
   have HLE := Aside0.mk hdb
   have HB := Aside0.mk (fun W => begun_full 3 next l0.length W)
   clear hb
   go_enter Tryz.func77, Tryz.ntmps77
   go_wp2_with fail
   refine HN.out.mono ?_
   rintro e w1 ⟨rfl, m, rfl⟩
   go_wp2_with fail
   refine (HD.out _).mono ?_
   rintro e w1 ⟨rfl, m2, rfl⟩
   go_wp2_with fail
   refine (HB.out _).mono ?_
   rintro e w1 ⟨g, rfl, hg, hF, hB⟩
   have HF1 := Aside0.mk hF
   have HB1 := Aside0.mk (below_then (pw_below_drewN (Below.refl w.heap.size w) _) (Nat.le_refl _) hB)
   have HG := Aside0.mk (show w.heap.size ≤ g from hg)
   have HR1 := Aside0.mk (Kd.C_below HR0.out HB1.out)
   obtain ⟨i0, hi0, _, hsz, _⟩ := info_parts info5
   obtain ⟨n, hn⟩ : ∃ n, n = l0.length := ⟨_, rfl⟩
   have hcut := cut_three (P := Tryz.prog) 25 5 Tryz.underlying25 hi0 1 hsz (some ⟨g, 0, none⟩) 4092 4092 7 (7 + (l0.length : Int)) (7 + (l0.length : Int)) (by omega) (by omega) (by omega) (by omega)
   rw [show (7 + (l0.length : Int)).toNat = 7 + l0.length by omega, show (7 : Int).toNat = 7 from rfl, if_neg (by omega), show (7 + l0.length) - 7 = l0.length by omega] at hcut
   have hcut : ∀ W : World, (Instr.slice 25 (.slice (some ⟨g, 0, none⟩) 4092 4092) (some (.int .i64 7)) (some (.int .i64 (7 + (l0.length : Int)))) (some (.int .i64 (7 + (l0.length : Int))))).run Tryz.prog W = .ok (.slice (some ⟨g, 7, none⟩) l0.length l0.length) W := hcut
   clear hF hB hg HN HD HB hi0 hsz HR0 hn hc0
   go_wp2_with (first
    | ((with_reducible refine gate_builtin (b := .copy) (xs := #[.tmp 27, .tmp 28]) rfl ?_); refine copy_full (w0 := w) (base := w.heap.size) rfl (.tmp 27) (.tmp 28) 25 25 rfl Tryz.underlying25 info5 (chainHead 3 next l0.length ++ zs 4085) l0 A0 l0.length c0 rfl rfl HF1.out (by rw [List.length_append, zs_length, chainHead_length]; decide) HR1.out (by have := HLE.out; rw [List.length_append, zs_length, chainHead_length]; omega) HB1.out HG.out ?_; intro w2 hF hb hg; have HF2 := Aside0.mk hF; have HB2 := Aside0.mk hb; clear hF hb hg HF1 HB1))
   go_ret2
   have hF := HF2.out
   rw [Nat.min_self, List.take_length, splice_zero _ l0 7 l0.length 4085 (chainHead_length _ _ _) rfl HLE.out.2] at hF
   have hlen : (chainHead 3 next l0.length ++ l0 ++ zs (4085 - l0.length)).length = 4092 := by have := HLE.out; simp only [List.length_append, zs_length, chainHead_length]; omega
   have hR := hF.R (base := w.heap.size) (ok := fun _ => True) HG.out trivial 4092 (by omega) (by rw [hlen]; decide)
   rw [List.take_of_length_le (by omega), hlen] at hR
   exact ⟨_, rfl, hR, HB2.out⟩
def IsRd (w0 W : World) (g : Nat) (l : List Int) (p : Nat) (e : Int) : Prop := ∃ A c, W.heap[g]? = some (.cells #[.slice A l.length c, .int .i64 p, .int .i64 e] 254 (0, 0)) ∧ w0.heap.size ≤ g ∧ l.length ≤ c ∧ p ≤ l.length ∧ Kd.C (Kd.int .u8) w0 A l.length l
section
variable {w0 W W1 : World} {g : Nat} {l : List Int} {p : Nat} {e : Int}
theorem IsRd.grown {row : Option Nat} (h : IsRd w0 W g l p e) (hw : W.grownBy W1 row) (hne : some g ≠ row) : IsRd w0 W1 g l p e := by
 obtain ⟨A, c, hb, r⟩ := h
 exact ⟨A, c, blk_grown hb hw hne, r⟩
theorem IsRd.below (h : IsRd w0 W g l p e) (hw : Below W.heap.size W W1) : IsRd w0 W1 g l p e := h.grown (grown_of_below hw none) (by simp)
theorem IsRd.alloc (h : IsRd w0 W g l p e) (o : Obj) : IsRd w0 (W.alloc o) g l p e := h.below (below_alloc (Below.refl _ _) o)
theorem IsRd.drewN (h : IsRd w0 W g l p e) (m : Nat) : IsRd w0 (W.drewN m) g l p e := h
theorem IsRd.drew (h : IsRd w0 W g l p e) : IsRd w0 W.drew g l p e := h
theorem IsRd.lt (h : IsRd w0 W g l p e) : g < W.heap.size := by
 obtain ⟨A, c, hb, r⟩ := h
 exact blk_lt hb
theorem IsRd.ge (h : IsRd w0 W g l p e) : w0.heap.size ≤ g := by
 obtain ⟨A, c, hb, hg, r⟩ := h
 exact hg
theorem IsRd.le (h : IsRd w0 W g l p e) : p ≤ l.length := by
 obtain ⟨A, c, hb, hg, _, hp, _⟩ := h
 exact hp
theorem IsRd.far {q : Addr} (h : IsRd w0 W g l p e) (hne : g ≠ q.block) (u : Value) : IsRd w0 (W.setCell q u) g l p e := by
 obtain ⟨A, c, hb, r⟩ := h
 exact ⟨A, c, blk_far hb hne u, r⟩
theorem IsRd.set_at (h : IsRd w0 W g l p e) (x : Nat) (hx : x ≤ l.length) : IsRd w0 (W.setCell ⟨g, 1, none⟩ (.int .i64 x)) g l x e := by
 obtain ⟨A, c, hb, hg, hc, hp, hr⟩ := h
 exact ⟨A, c, by simpa using blk_set hb 1 (.int .i64 x), hg, hc, hx, hr⟩
theorem IsRd.set_err (h : IsRd w0 W g l p e) (x : Int) : IsRd w0 (W.setCell ⟨g, 2, none⟩ (.int .i64 x)) g l p x := by
 obtain ⟨A, c, hb, hg, hc, hp, hr⟩ := h
 exact ⟨A, c, by simpa using blk_set hb 2 (.int .i64 x), hg, hc, hp, hr⟩
end
theorem cellRd {W : World} {g : Nat} {A : Option Addr} {c : Nat} {l : List Int} {p e : Int} (h : W.heap[g]? = some (.cells #[.slice A l.length c, .int .i64 p, .int .i64 e] 254 (0, 0))) :
 W.cell? ⟨g, 0, none⟩ = some (.slice A l.length c) ∧ W.cell? ⟨g, 1, none⟩ = some (.int .i64 p) ∧ W.cell? ⟨g, 2, none⟩ = some (.int .i64 e) ∧ W.frozen? ⟨g, 1, none⟩ = false ∧ W.frozen? ⟨g, 2, none⟩ = false :=
 ⟨(blk_cell h 0).trans rfl, (blk_cell h 1).trans rfl, (blk_cell h 2).trans rfl, blk_frozen h 1, blk_frozen h 2⟩
def NewRd (w : World) (l : List Int) (e : Ending) (w' : World) : Prop := ∃ g w1, e = .returned (.pointer (some ⟨g, 0, none⟩)) ∧ Below w.heap.size w w1 ∧ IsRd w1 w' g l 0 0 ∧ Below w1.heap.size w1 w'
theorem wire_NewReader.calls (A0 : Option Addr) (c0 : Nat) (l0 : List Int) (w : World) (hr0 : Kd.C (Kd.int .u8) w A0 l0.length l0) (hc0 : l0.length ≤ c0) (hm : (l0.length : Int) ≤ 140737488355328) :
 Calls Tryz.prog 164 #[.slice A0 l0.length c0] w (NewRd w l0) := by
 have HC := Aside0.mk (wire_grown.calls A0 c0 l0 0 l0 w hr0 hc0 (by unfold wire_grown.f; rw [if_pos (by omega), if_pos (by omega)]))
 clear hr0 hc0 hm
 go_enter Tryz.func164, Tryz.ntmps164
 go_wp2_with fail
 refine HC.out.mono ?_
 rintro e w1 ⟨v, rfl, hR, hB⟩
 obtain ⟨A, c, rfl, hc, hC⟩ := Kd.R_reads hR
 have HB := Aside0.mk hB
 have HR := Aside0.mk hC
 have HCC := Aside0.mk hc
 clear hR hB hC hc HC
 go_wp2
 go_ret
 exact ⟨_, w1, rfl, HB.out, ⟨A, c, by simpa using heap_alloc_new w1 _, Nat.le_refl _, HCC.out, Nat.zero_le _, HR.out⟩, below_alloc (Below.refl _ _) _⟩
def takeR (l : List Int) (p : Nat) (e n : Int) : List Int × Nat × Int := if e = 0 then (if n < 0 ∨ (l.length : Int) - p < n then ([], p, 10) else ((l.take (p + n.toNat)).drop p, p + n.toNat, 0)) else ([], p, e)
def TakePost (w0 w : World) (g : Nat) (l : List Int) (r : List Int × Nat × Int) (e : Ending) (w' : World) : Prop := ∃ A c, e = .returned (.slice A r.1.length c) ∧ r.1.length ≤ c ∧ Kd.C (Kd.int .u8) w0 A r.1.length r.1 ∧ IsRd w0 w' g l r.2.1 r.2.2 ∧ Below w0.heap.size w0 w' ∧ KeepBut w w' g none
theorem wire_take.calls (g : Nat) (l : List Int) (p : Nat) (er n : Int) (w0 w : World) (hI : IsRd w0 w g l p er) (hB : Below w0.heap.size w0 w) :
 Calls Tryz.prog 248 #[.pointer (some ⟨g, 0, none⟩), .int .i64 n] w (TakePost w0 w g l (takeR l p er n)) := by
 obtain ⟨A0, c0, hb, hg, hcap, hp, hr⟩ := hI
 have HI := Aside0.mk (show IsRd w0 w g l p er from ⟨A0, c0, hb, hg, hcap, hp, hr⟩)
 have HB := Aside0.mk hB
 have HG := Aside0.mk hg
 have HR := Aside0.mk hr
 have hmax := hr.2.1
 obtain ⟨z0, z1, z2, f1, f2⟩ := cellRd hb
 clear hB hr hb hg
 obtain ⟨r, hrr⟩ : ∃ r, r = takeR l p er n := ⟨_, rfl⟩
 rw [← hrr]
 unfold takeR at hrr
 by_cases c1 : er = 0
 · subst c1
   rw [if_pos rfl] at hrr
   by_cases c2 : n < 0 ∨ (l.length : Int) - p < n
   · rw [if_pos c2] at hrr
     subst hrr
     by_cases c3 : n < 0
     · have d3 : decide (n < 0) = true := decide_eq_true c3
       clear c2
       go_enter Tryz.func248, Tryz.ntmps248
       go_wp2
       repeat (go_quiet (fail); try go_wp2)
       go_ret
       exact ⟨none, 0, rfl, Nat.le_refl _, Kd.C_nil _ _, by repeat (first | (with_reducible first | exact HI.out | apply IsRd.drewN | apply IsRd.drew | apply IsRd.set_err) | exact HI.out), by repeat (first | (with_reducible first | exact HB.out | apply pw_below_drewN | apply below_drew1 | refine below_set ?_ HG.out) | exact HB.out), by repeat (first | (with_reducible first | exact KeepBut.refl _ _ _ | apply KeepBut.set_ | apply keep_drewN | apply keep_drew) | exact KeepBut.refl _ _ _)⟩
     · have c4 : (l.length : Int) - p < n := by omega
       have d3 : decide (n < 0) = false := decide_eq_false c3
       have d4 : decide ((l.length : Int) - p < n) = true := decide_eq_true c4
       clear c2
       go_enter Tryz.func248, Tryz.ntmps248
       go_wp2
       repeat (go_quiet (fail); try go_wp2)
       go_ret
       exact ⟨none, 0, rfl, Nat.le_refl _, Kd.C_nil _ _, by repeat (first | (with_reducible first | exact HI.out | apply IsRd.drewN | apply IsRd.drew | apply IsRd.set_err) | exact HI.out), by repeat (first | (with_reducible first | exact HB.out | apply pw_below_drewN | apply below_drew1 | refine below_set ?_ HG.out) | exact HB.out), by repeat (first | (with_reducible first | exact KeepBut.refl _ _ _ | apply KeepBut.set_ | apply keep_drewN | apply keep_drew) | exact KeepBut.refl _ _ _)⟩
   · rw [if_neg c2] at hrr
     have c3 : ¬ n < 0 := fun h => c2 (.inl h)
     have c4 : ¬ (l.length : Int) - p < n := fun h => c2 (.inr h)
     have d3 : decide (n < 0) = false := decide_eq_false c3
     have d4 : decide ((l.length : Int) - p < n) = false := decide_eq_false c4
     obtain ⟨m, rfl⟩ : ∃ m : Nat, n = m := ⟨n.toNat, by omega⟩
     simp only [Int.toNat_natCast] at hrr
     subst hrr
     have e1 : (p : Int) + m = ((p + m : Nat) : Int) := by omega
     have e2 : ((p + m : Nat) : Int) ≤ l.length := by omega
     have hle : p + m ≤ l.length := by omega
     have hm2 : p + m ≤ c0 := by omega
     obtain ⟨q, hq⟩ : ∃ q, q = p + m := ⟨_, rfl⟩
     rw [← hq] at e1 e2 hle hm2
     obtain ⟨i0, hi0, _, hsz, _⟩ := info_parts info5
     have hcut := cut_three (P := Tryz.prog) 25 5 Tryz.underlying25 hi0 1 hsz A0 l.length c0 p q q (by omega) (by omega) (by omega) (by omega)
     have hdrop := Kd.C_drop (m := p) (c := q) (Kd.C_take (m := q) HR.out hle) (by rw [List.length_take]; omega) (by rw [List.length_take]; omega)
     have hlen : ((l.take q).drop p).length = m := by rw [List.length_drop, List.length_take]; omega
     simp only [Int.toNat_natCast, show (Kd.int IntKind.u8).sz = 1 from rfl] at hcut hdrop
     rw [show q - p = m by omega] at hcut
     obtain ⟨A1, hA1⟩ : ∃ A1, A1 = (if q = p then A0 else A0.map (·.add (p * 1))) := ⟨_, rfl⟩
     rw [← hA1] at hcut hdrop
     have HD := Aside0.mk hdrop
     have HL := Aside0.mk hlen
     have HLE := Aside0.mk hle
     have HE := Aside0.mk hq
     clear c2 c3 c4 hA1 hdrop hlen hi0 hsz hq hle
     go_enter Tryz.func248, Tryz.ntmps248
     go_wp2
     repeat (go_quiet (fail); try go_wp2)
     go_ret
     have hle := HLE.out
     obtain rfl := HE.out
     exact ⟨A1, m, by rw [HL.out]; rfl, by rw [HL.out]; exact Nat.le_refl _, HD.out, (HI.out.drewN _).set_at _ hle, by repeat (first | (with_reducible first | exact HB.out | apply pw_below_drewN | apply below_drew1 | refine below_set ?_ HG.out) | exact HB.out), by repeat (first | (with_reducible first | exact KeepBut.refl _ _ _ | apply KeepBut.set_ | apply keep_drewN | apply keep_drew) | exact KeepBut.refl _ _ _)⟩
 · rw [if_neg c1] at hrr
   subst hrr
   have d1 : (er == 0) = false := beq_eq_false_iff_ne.mpr c1
   have d2 : (er != 0) = true := bne_iff_ne.mpr c1
   clear c1
   go_enter Tryz.func248, Tryz.ntmps248
   go_wp2
   repeat (go_quiet (fail); try go_wp2)
   go_ret
   exact ⟨none, 0, rfl, Nat.le_refl _, Kd.C_nil _ _, by repeat (first | (with_reducible first | exact HI.out | apply IsRd.drewN | apply IsRd.drew | apply IsRd.set_err) | exact HI.out), by repeat (first | (with_reducible first | exact HB.out | apply pw_below_drewN | apply below_drew1 | refine below_set ?_ HG.out) | exact HB.out), by repeat (first | (with_reducible first | exact KeepBut.refl _ _ _ | apply KeepBut.set_ | apply keep_drewN | apply keep_drew) | exact KeepBut.refl _ _ _)⟩
def BytesPost (w0 w : World) (g : Nat) (l : List Int) (r : List Int × Nat × Int) (e : Ending) (w' : World) : Prop := ∃ v, e = .returned v ∧ Kd.R (Kd.int .u8) 5 w' w.heap.size (fun _ => True) v r.1 ∧ IsRd w0 w' g l r.2.1 r.2.2 ∧ Below w0.heap.size w0 w' ∧ KeepBut w w' g none
theorem takeR_le (l : List Int) (p : Nat) (e n : Int) (hp : p ≤ l.length) : (takeR l p e n).1.length ≤ l.length ∧ (takeR l p e n).2.1 ≤ l.length := by
 unfold takeR
 split
 · split
   · exact ⟨Nat.zero_le _, hp⟩
   · refine ⟨?_, by simp only []; omega⟩
     simp only [List.length_drop, List.length_take]
     omega
 · exact ⟨Nat.zero_le _, hp⟩
theorem keep_below {a b c : World} {g : Nat} (h : KeepBut a b g none) (hb : Below b.heap.size b c) : KeepBut a c g none := ⟨Nat.le_trans h.1 hb.size, fun i hi hne hr => (hb.block i (Nat.lt_of_lt_of_le hi h.1)).trans (h.2 i hi hne hr)⟩
theorem IsRd.len {w0 W : World} {g : Nat} {l : List Int} {p : Nat} {e : Int} (h : IsRd w0 W g l p e) : l.length ≤ 9223372036854775807 := by
 obtain ⟨A, c, hb, hg, hc, hp, hr⟩ := h
 exact hr.2.1
theorem wire_Bytes.calls (g : Nat) (l : List Int) (p : Nat) (er n : Int) (w0 w : World) (hI : IsRd w0 w g l p er) (hB : Below w0.heap.size w0 w) (hm : (l.length : Int) ≤ 140737488355328) :
 Calls Tryz.prog 165 #[.pointer (some ⟨g, 0, none⟩), .int .i64 n] w (BytesPost w0 w g l (takeR l p er n)) := by
 have HI := Aside0.mk hI
 have HB := Aside0.mk hB
 have HLE := Aside0.mk (takeR_le l p er n hI.le)
 have HC := Aside0.mk (wire_take.calls g l p er n w0 w hI hB)
 have HM := Aside0.mk hm
 obtain ⟨r, hr⟩ : ∃ r, takeR l p er n = r := ⟨_, rfl⟩
 rw [hr] at HC HLE ⊢
 clear hI hB hm hr
 go_enter Tryz.func165, Tryz.ntmps165
 go_wp2_with fail
 refine HC.out.mono ?_
 rintro e w1 ⟨A, c, rfl, hc, hC, hI, hB, hK⟩
 have HI1 := Aside0.mk hI
 have HB1 := Aside0.mk hB
 have HK1 := Aside0.mk hK
 have HG := Aside0.mk (wire_grown.calls A c r.1 0 r.1 w1 (Kd.C_below hC hB) hc (by have := HM.out; have := HLE.out.1; unfold wire_grown.f; rw [if_pos (by omega), if_pos (by omega)]))
 clear hI hB hK hc hC HC
 go_wp2_with fail
 refine HG.out.mono ?_
 rintro e w2 ⟨v, rfl, hR, hb⟩
 have HR := Aside0.mk hR
 have HB2 := Aside0.mk hb
 clear hR hb
 go_wp2
 go_ret
 exact ⟨v, rfl, Kd.R_lower HR.out HK1.out.1, HI1.out.below HB2.out, below_then HB1.out HB1.out.size HB2.out, keep_below HK1.out HB2.out⟩
def leGo : Nat → Int → List Int → Int
 | _, v, [] => v
 | i, v, x :: xs => leGo (i + 1) (Go.bits .or .u64 v (IntKind.u64.wrap (IntKind.u64.wrap x * 2 ^ (8 * (i : Int)).toNat))) xs
def NumPost (w0 w : World) (g : Nat) (l : List Int) (x : Value) (q : Nat) (er : Int) (e : Ending) (w' : World) : Prop := e = .returned x ∧ IsRd w0 w' g l q er ∧ Below w0.heap.size w0 w' ∧ KeepBut w w' g none
theorem wire_Get_uint8.calls (g : Nat) (l : List Int) (p : Nat) (er : Int) (w0 w : World) (hI : IsRd w0 w g l p er) (hB : Below w0.heap.size w0 w) :
 Calls Tryz.prog 188 #[.pointer (some ⟨g, 0, none⟩)] w (NumPost w0 w g l (.int .u8 ((leGo 0 0 (takeR l p er 1).1) % 256)) (takeR l p er 1).2.1 (takeR l p er 1).2.2) := by
 have HC := Aside0.mk (show ∀ m, Calls Tryz.prog 248 #[.pointer (some ⟨g, 0, none⟩), .int .i64 1] (w.drewN m) (TakePost w0 (w.drewN m) g l (takeR l p er 1)) from fun m => wire_take.calls g l p er 1 w0 (w.drewN m) (hI.drewN m) (pw_below_drewN hB m))
 obtain ⟨r, hr⟩ : ∃ r, takeR l p er 1 = r := ⟨_, rfl⟩
 have HLEN := Aside0.mk (show r.1.length ≤ 1 by
  rw [← hr]
  unfold takeR
  split
  · split
    · exact Nat.zero_le _
    · simp only [List.length_drop, List.length_take]; omega
  · exact Nat.zero_le _)
 simp only [hr] at HC ⊢
 clear hI hB hr
 go_enter Tryz.func188, Tryz.ntmps188
 go_wp2_with fail
 refine (wire_width_uint8.calls _ _ rfl).mono ?_
 rintro e w1 ⟨rfl, m, rfl⟩
 go_wp2_with fail
 refine (HC.out _).mono ?_
 rintro e w1 ⟨A, c, rfl, hc, hC, hI, hB, hK⟩
 have HI1 := Aside0.mk hI
 have HB1 := Aside0.mk hB
 have HK1 := Aside0.mk hK
 have HR := Aside0.mk (Kd.C_below hC hB)
 clear hI hB hK hc hC HC
 go_wp2
 go_loopg [3, 10] r.1.length (fun kq v3 v10 w' => ∃ (x : Int) (i : Nat), v3 = .int .u64 x ∧ v10 = .int .i64 i ∧ i + kq = r.1.length ∧ leGo i x (r.1.drop i) = leGo 0 0 r.1 ∧ Drawn0 w1 w')
 case atStart => exact ⟨_, 0, rfl, rfl, by omega, rfl, ⟨0, rfl⟩⟩
 case round =>
  obtain ⟨x, i, rfl, rfl, hk, hx0, nd, rfl⟩ := hrel
  have hlen := HLEN.out
  by_cases c : (i : Int) < r.1.length
  · have cd1 : decide ((i : Int) < (r.1.length : Int)) = true := decide_eq_true c
    have hil : i < r.1.length := by omega
    have cd2 : decide (i < r.1.length) = true := decide_eq_true hil
    obtain ⟨ad, rfl⟩ := int_some HR.out (by omega)
    obtain ⟨b, hb⟩ : ∃ b, b = r.1[i] := ⟨_, rfl⟩
    have hx := int_cells HR.out rfl (by omega) i (.int .u8 b) (by simp [hil, hb])
    have hx2 : ∀ n, (w1.drewN n).cell? (ad.add i) = some (.int .u8 b) := fun n => hx
    have hrun : leGo (i + 1) (Go.bits .or .u64 x (IntKind.u64.wrap (IntKind.u64.wrap b * 2 ^ (8 * (i : Int)).toNat))) (r.1.drop (i + 1)) = leGo 0 0 r.1 := by
     rw [← hx0, List.drop_eq_getElem_cons hil, ← hb]
     rfl
    have p0 := eq_true (show (0 : Int) ≤ (i : Int) by omega)
    have p1 := eq_true c
    have p2 := eq_true hil
    have hi8 : (i : Int) < 8 := by omega
    have HRUN := Aside0.mk hrun
    have HK := Aside0.mk hk
    clear hrun hk hx0 hb
    go_wp2
    go_roundg (gk - 1)
    case measure => have := HK.out; omega
    case rel =>
     have hk := HK.out
     exact ⟨_, i + 1, rfl, rfl, by omega, HRUN.out, ⟨_, rfl⟩⟩
  · have cd1 : decide ((i : Int) < (r.1.length : Int)) = false := decide_eq_false c
    have cd2 : decide (i < r.1.length) = false := decide_eq_false (by omega)
    have hx1 : x = leGo 0 0 r.1 := by rw [← hx0, List.drop_eq_nil_of_le (by omega)]; rfl
    clear hx0
    go_wp2
    go_ret
    exact ⟨by first | rfl | rw [hx1], HI1.out.drewN nd, pw_below_drewN HB1.out nd, keep_drewN HK1.out nd⟩
theorem wire_Get_uint16.calls (g : Nat) (l : List Int) (p : Nat) (er : Int) (w0 w : World) (hI : IsRd w0 w g l p er) (hB : Below w0.heap.size w0 w) :
 Calls Tryz.prog 166 #[.pointer (some ⟨g, 0, none⟩)] w (NumPost w0 w g l (.int .u16 (IntKind.u16.wrap (leGo 0 0 (takeR l p er 2).1))) (takeR l p er 2).2.1 (takeR l p er 2).2.2) := by
 have HC := Aside0.mk (show ∀ m, Calls Tryz.prog 248 #[.pointer (some ⟨g, 0, none⟩), .int .i64 2] (w.drewN m) (TakePost w0 (w.drewN m) g l (takeR l p er 2)) from fun m => wire_take.calls g l p er 2 w0 (w.drewN m) (hI.drewN m) (pw_below_drewN hB m))
 obtain ⟨r, hr⟩ : ∃ r, takeR l p er 2 = r := ⟨_, rfl⟩
 have HLEN := Aside0.mk (show r.1.length ≤ 2 by
  rw [← hr]
  unfold takeR
  split
  · split
    · exact Nat.zero_le _
    · simp only [List.length_drop, List.length_take]; omega
  · exact Nat.zero_le _)
 simp only [hr] at HC ⊢
 clear hI hB hr
 go_enter Tryz.func166, Tryz.ntmps166
 go_wp2_with fail
 refine (wire_width_uint16.calls _ _ rfl).mono ?_
 rintro e w1 ⟨rfl, m, rfl⟩
 go_wp2_with fail
 refine (HC.out _).mono ?_
 rintro e w1 ⟨A, c, rfl, hc, hC, hI, hB, hK⟩
 have HI1 := Aside0.mk hI
 have HB1 := Aside0.mk hB
 have HK1 := Aside0.mk hK
 have HR := Aside0.mk (Kd.C_below hC hB)
 clear hI hB hK hc hC HC
 go_wp2
 go_loopg [3, 10] r.1.length (fun kq v3 v10 w' => ∃ (x : Int) (i : Nat), v3 = .int .u64 x ∧ v10 = .int .i64 i ∧ i + kq = r.1.length ∧ leGo i x (r.1.drop i) = leGo 0 0 r.1 ∧ Drawn0 w1 w')
 case atStart => exact ⟨_, 0, rfl, rfl, by omega, rfl, ⟨0, rfl⟩⟩
 case round =>
  obtain ⟨x, i, rfl, rfl, hk, hx0, nd, rfl⟩ := hrel
  have hlen := HLEN.out
  by_cases c : (i : Int) < r.1.length
  · have cd1 : decide ((i : Int) < (r.1.length : Int)) = true := decide_eq_true c
    have hil : i < r.1.length := by omega
    have cd2 : decide (i < r.1.length) = true := decide_eq_true hil
    obtain ⟨ad, rfl⟩ := int_some HR.out (by omega)
    obtain ⟨b, hb⟩ : ∃ b, b = r.1[i] := ⟨_, rfl⟩
    have hx := int_cells HR.out rfl (by omega) i (.int .u8 b) (by simp [hil, hb])
    have hx2 : ∀ n, (w1.drewN n).cell? (ad.add i) = some (.int .u8 b) := fun n => hx
    have hrun : leGo (i + 1) (Go.bits .or .u64 x (IntKind.u64.wrap (IntKind.u64.wrap b * 2 ^ (8 * (i : Int)).toNat))) (r.1.drop (i + 1)) = leGo 0 0 r.1 := by
     rw [← hx0, List.drop_eq_getElem_cons hil, ← hb]
     rfl
    have p0 := eq_true (show (0 : Int) ≤ (i : Int) by omega)
    have p1 := eq_true c
    have p2 := eq_true hil
    have hi8 : (i : Int) < 8 := by omega
    have HRUN := Aside0.mk hrun
    have HK := Aside0.mk hk
    clear hrun hk hx0 hb
    go_wp2
    go_roundg (gk - 1)
    case measure => have := HK.out; omega
    case rel =>
     have hk := HK.out
     exact ⟨_, i + 1, rfl, rfl, by omega, HRUN.out, ⟨_, rfl⟩⟩
  · have cd1 : decide ((i : Int) < (r.1.length : Int)) = false := decide_eq_false c
    have cd2 : decide (i < r.1.length) = false := decide_eq_false (by omega)
    have hx1 : x = leGo 0 0 r.1 := by rw [← hx0, List.drop_eq_nil_of_le (by omega)]; rfl
    clear hx0
    go_wp2
    go_ret
    exact ⟨by first | rfl | rw [hx1], HI1.out.drewN nd, pw_below_drewN HB1.out nd, keep_drewN HK1.out nd⟩
theorem wire_Get_uint32.calls (g : Nat) (l : List Int) (p : Nat) (er : Int) (w0 w : World) (hI : IsRd w0 w g l p er) (hB : Below w0.heap.size w0 w) :
 Calls Tryz.prog 183 #[.pointer (some ⟨g, 0, none⟩)] w (NumPost w0 w g l (.int .u32 ((leGo 0 0 (takeR l p er 4).1) % 4294967296)) (takeR l p er 4).2.1 (takeR l p er 4).2.2) := by
 have HC := Aside0.mk (show ∀ m, Calls Tryz.prog 248 #[.pointer (some ⟨g, 0, none⟩), .int .i64 4] (w.drewN m) (TakePost w0 (w.drewN m) g l (takeR l p er 4)) from fun m => wire_take.calls g l p er 4 w0 (w.drewN m) (hI.drewN m) (pw_below_drewN hB m))
 obtain ⟨r, hr⟩ : ∃ r, takeR l p er 4 = r := ⟨_, rfl⟩
 have HLEN := Aside0.mk (show r.1.length ≤ 4 by
  rw [← hr]
  unfold takeR
  split
  · split
    · exact Nat.zero_le _
    · simp only [List.length_drop, List.length_take]; omega
  · exact Nat.zero_le _)
 simp only [hr] at HC ⊢
 clear hI hB hr
 go_enter Tryz.func183, Tryz.ntmps183
 go_wp2_with fail
 refine (wire_width_uint32.calls _ _ rfl).mono ?_
 rintro e w1 ⟨rfl, m, rfl⟩
 go_wp2_with fail
 refine (HC.out _).mono ?_
 rintro e w1 ⟨A, c, rfl, hc, hC, hI, hB, hK⟩
 have HI1 := Aside0.mk hI
 have HB1 := Aside0.mk hB
 have HK1 := Aside0.mk hK
 have HR := Aside0.mk (Kd.C_below hC hB)
 clear hI hB hK hc hC HC
 go_wp2
 go_loopg [3, 10] r.1.length (fun kq v3 v10 w' => ∃ (x : Int) (i : Nat), v3 = .int .u64 x ∧ v10 = .int .i64 i ∧ i + kq = r.1.length ∧ leGo i x (r.1.drop i) = leGo 0 0 r.1 ∧ Drawn0 w1 w')
 case atStart => exact ⟨_, 0, rfl, rfl, by omega, rfl, ⟨0, rfl⟩⟩
 case round =>
  obtain ⟨x, i, rfl, rfl, hk, hx0, nd, rfl⟩ := hrel
  have hlen := HLEN.out
  by_cases c : (i : Int) < r.1.length
  · have cd1 : decide ((i : Int) < (r.1.length : Int)) = true := decide_eq_true c
    have hil : i < r.1.length := by omega
    have cd2 : decide (i < r.1.length) = true := decide_eq_true hil
    obtain ⟨ad, rfl⟩ := int_some HR.out (by omega)
    obtain ⟨b, hb⟩ : ∃ b, b = r.1[i] := ⟨_, rfl⟩
    have hx := int_cells HR.out rfl (by omega) i (.int .u8 b) (by simp [hil, hb])
    have hx2 : ∀ n, (w1.drewN n).cell? (ad.add i) = some (.int .u8 b) := fun n => hx
    have hrun : leGo (i + 1) (Go.bits .or .u64 x (IntKind.u64.wrap (IntKind.u64.wrap b * 2 ^ (8 * (i : Int)).toNat))) (r.1.drop (i + 1)) = leGo 0 0 r.1 := by
     rw [← hx0, List.drop_eq_getElem_cons hil, ← hb]
     rfl
    have p0 := eq_true (show (0 : Int) ≤ (i : Int) by omega)
    have p1 := eq_true c
    have p2 := eq_true hil
    have hi8 : (i : Int) < 8 := by omega
    have HRUN := Aside0.mk hrun
    have HK := Aside0.mk hk
    clear hrun hk hx0 hb
    go_wp2
    go_roundg (gk - 1)
    case measure => have := HK.out; omega
    case rel =>
     have hk := HK.out
     exact ⟨_, i + 1, rfl, rfl, by omega, HRUN.out, ⟨_, rfl⟩⟩
  · have cd1 : decide ((i : Int) < (r.1.length : Int)) = false := decide_eq_false c
    have cd2 : decide (i < r.1.length) = false := decide_eq_false (by omega)
    have hx1 : x = leGo 0 0 r.1 := by rw [← hx0, List.drop_eq_nil_of_le (by omega)]; rfl
    clear hx0
    go_wp2
    go_ret
    exact ⟨by first | rfl | rw [hx1], HI1.out.drewN nd, pw_below_drewN HB1.out nd, keep_drewN HK1.out nd⟩
theorem wire_Get_uint64.calls (g : Nat) (l : List Int) (p : Nat) (er : Int) (w0 w : World) (hI : IsRd w0 w g l p er) (hB : Below w0.heap.size w0 w) :
 Calls Tryz.prog 187 #[.pointer (some ⟨g, 0, none⟩)] w (NumPost w0 w g l (.int .u64 (leGo 0 0 (takeR l p er 8).1)) (takeR l p er 8).2.1 (takeR l p er 8).2.2) := by
 have HC := Aside0.mk (show ∀ m, Calls Tryz.prog 248 #[.pointer (some ⟨g, 0, none⟩), .int .i64 8] (w.drewN m) (TakePost w0 (w.drewN m) g l (takeR l p er 8)) from fun m => wire_take.calls g l p er 8 w0 (w.drewN m) (hI.drewN m) (pw_below_drewN hB m))
 obtain ⟨r, hr⟩ : ∃ r, takeR l p er 8 = r := ⟨_, rfl⟩
 have HLEN := Aside0.mk (show r.1.length ≤ 8 by
  rw [← hr]
  unfold takeR
  split
  · split
    · exact Nat.zero_le _
    · simp only [List.length_drop, List.length_take]; omega
  · exact Nat.zero_le _)
 simp only [hr] at HC ⊢
 clear hI hB hr
 go_enter Tryz.func187, Tryz.ntmps187
 go_wp2_with fail
 refine (wire_width_uint64.calls _ _ rfl).mono ?_
 rintro e w1 ⟨rfl, m, rfl⟩
 go_wp2_with fail
 refine (HC.out _).mono ?_
 rintro e w1 ⟨A, c, rfl, hc, hC, hI, hB, hK⟩
 have HI1 := Aside0.mk hI
 have HB1 := Aside0.mk hB
 have HK1 := Aside0.mk hK
 have HR := Aside0.mk (Kd.C_below hC hB)
 clear hI hB hK hc hC HC
 go_wp2
 go_loopg [3, 10] r.1.length (fun kq v3 v10 w' => ∃ (x : Int) (i : Nat), v3 = .int .u64 x ∧ v10 = .int .i64 i ∧ i + kq = r.1.length ∧ leGo i x (r.1.drop i) = leGo 0 0 r.1 ∧ Drawn0 w1 w')
 case atStart => exact ⟨_, 0, rfl, rfl, by omega, rfl, ⟨0, rfl⟩⟩
 case round =>
  obtain ⟨x, i, rfl, rfl, hk, hx0, nd, rfl⟩ := hrel
  have hlen := HLEN.out
  by_cases c : (i : Int) < r.1.length
  · have cd1 : decide ((i : Int) < (r.1.length : Int)) = true := decide_eq_true c
    have hil : i < r.1.length := by omega
    have cd2 : decide (i < r.1.length) = true := decide_eq_true hil
    obtain ⟨ad, rfl⟩ := int_some HR.out (by omega)
    obtain ⟨b, hb⟩ : ∃ b, b = r.1[i] := ⟨_, rfl⟩
    have hx := int_cells HR.out rfl (by omega) i (.int .u8 b) (by simp [hil, hb])
    have hx2 : ∀ n, (w1.drewN n).cell? (ad.add i) = some (.int .u8 b) := fun n => hx
    have hrun : leGo (i + 1) (Go.bits .or .u64 x (IntKind.u64.wrap (IntKind.u64.wrap b * 2 ^ (8 * (i : Int)).toNat))) (r.1.drop (i + 1)) = leGo 0 0 r.1 := by
     rw [← hx0, List.drop_eq_getElem_cons hil, ← hb]
     rfl
    have p0 := eq_true (show (0 : Int) ≤ (i : Int) by omega)
    have p1 := eq_true c
    have p2 := eq_true hil
    have hi8 : (i : Int) < 8 := by omega
    have HRUN := Aside0.mk hrun
    have HK := Aside0.mk hk
    clear hrun hk hx0 hb
    go_wp2
    go_roundg (gk - 1)
    case measure => have := HK.out; omega
    case rel =>
     have hk := HK.out
     exact ⟨_, i + 1, rfl, rfl, by omega, HRUN.out, ⟨_, rfl⟩⟩
  · have cd1 : decide ((i : Int) < (r.1.length : Int)) = false := decide_eq_false c
    have cd2 : decide (i < r.1.length) = false := decide_eq_false (by omega)
    have hx1 : x = leGo 0 0 r.1 := by rw [← hx0, List.drop_eq_nil_of_le (by omega)]; rfl
    clear hx0
    go_wp2
    go_ret
    exact ⟨by first | rfl | rw [hx1], HI1.out.drewN nd, pw_below_drewN HB1.out nd, keep_drewN HK1.out nd⟩
def vAdd (v x : Int) (i : Nat) : Int := Go.bits .or .u64 v (IntKind.u64.wrap (IntKind.u64.wrap (Go.bits .and .u8 x 127) * 2 ^ (7 * (i : Int)).toNat))
def vGo (l : List Int) (p : Nat) : Nat → Nat → Int → Int × Nat × Int
 | _, 0, _ => (0, p, 12)
 | i, d + 1, v =>
  if p + i = l.length then (0, p, 10)
  else if i = 9 ∧ 1 < l.getD (p + i) 0 then (0, p, 12)
  else if 128 ≤ l.getD (p + i) 0 then vGo l p (i + 1) d (vAdd v (l.getD (p + i) 0) i)
  else if l.getD (p + i) 0 = 0 ∧ 0 < i then (0, p, 11)
  else (vAdd v (l.getD (p + i) 0) i, p + i + 1, 0)
def vR (l : List Int) (p : Nat) (e : Int) : Int × Nat × Int := if e = 0 then vGo l p 0 10 0 else (0, p, e)
theorem wire_V.calls (g : Nat) (l : List Int) (p : Nat) (er : Int) (w0 w : World) (hI : IsRd w0 w g l p er) (hB : Below w0.heap.size w0 w) :
 Calls Tryz.prog 167 #[.pointer (some ⟨g, 0, none⟩)] w (NumPost w0 w g l (.int .u64 (vR l p er).1) (vR l p er).2.1 (vR l p er).2.2) := by
 obtain ⟨A0, c0, hb, hg, hcap, hp, hr⟩ := hI
 have HI := Aside0.mk (show IsRd w0 w g l p er from ⟨A0, c0, hb, hg, hcap, hp, hr⟩)
 have HB := Aside0.mk hB
 have HG := Aside0.mk hg
 have HR := Aside0.mk hr
 have hmax := hr.2.1
 obtain ⟨z0, z1, z2, f1, f2⟩ := cellRd hb
 clear hB hr hb hg
 obtain ⟨r, hrr⟩ : ∃ r, r = vR l p er := ⟨_, rfl⟩
 rw [← hrr]
 unfold vR at hrr
 by_cases c1 : er = 0
 · subst c1
   rw [if_pos rfl] at hrr
   have HRR := Aside0.mk hrr
   clear hrr
   go_enter Tryz.func167, Tryz.ntmps167
   go_wp2
   go_loopg [3, 11] 10 (fun kq v3 v11 w' => ∃ (v : Int) (i : Nat), v3 = .int .u64 v ∧ v11 = .int .i64 i ∧ i + kq = 10 ∧ p + i ≤ l.length ∧ Aside0 (r = vGo l p i kq v) ∧ Drawn0 w w')
   case atStart => exact ⟨_, 0, rfl, rfl, rfl, hp, HRR, ⟨0, rfl⟩⟩
   case round =>
    clear HRR
    obtain ⟨v, i, rfl, rfl, hk, hpi, HRR, nd, rfl⟩ := hrel
    cases gk with
    | zero =>
     obtain rfl : i = 10 := by omega
     obtain rfl : r = (0, p, 12) := HRR.out.trans rfl
     clear hk
     go_wp2
     repeat (go_quiet (fail); try go_wp2)
     go_ret
     exact ⟨by first | rfl | (simp; done), by (try dsimp only); repeat (first | (with_reducible first | exact HI.out | apply IsRd.drewN | apply IsRd.drew | apply IsRd.set_err | refine IsRd.set_at ?_ _ HLE.out) | exact HI.out), by repeat (first | (with_reducible first | exact HB.out | apply pw_below_drewN | apply below_drew1 | refine below_set ?_ HG.out) | exact HB.out), by repeat (first | (with_reducible first | exact KeepBut.refl _ _ _ | apply KeepBut.set_ | apply keep_drewN | apply keep_drew) | exact KeepBut.refl _ _ _)⟩
    | succ k1 =>
     have hi : (i : Int) < 10 := by omega
     have hi' : i < 10 := by omega
     have d0 : decide ((i : Int) < 10) = true := decide_eq_true hi
     obtain ⟨q, hq⟩ : ∃ q, q = p + i := ⟨_, rfl⟩
     have e1 : (p : Int) + i = (q : Int) := by omega
     have hrun := HRR.out
     rw [vGo, ← hq] at hrun
     rw [← hq] at hpi
     by_cases c2 : q = l.length
     · rw [if_pos c2] at hrun
       subst hrun
       have d2 : ((q : Int) == (l.length : Int)) = true := by rw [c2]; exact beq_self_eq_true _
       have HQ := Aside0.mk hq
       clear c2 hk hq HRR
       go_wp2
       repeat (go_quiet (fail); try go_wp2)
       go_ret
       exact ⟨by first | rfl | (simp; done), by (try dsimp only); repeat (first | (with_reducible first | exact HI.out | apply IsRd.drewN | apply IsRd.drew | apply IsRd.set_err | refine IsRd.set_at ?_ _ HLE.out) | exact HI.out), by repeat (first | (with_reducible first | exact HB.out | apply pw_below_drewN | apply below_drew1 | refine below_set ?_ HG.out) | exact HB.out), by repeat (first | (with_reducible first | exact KeepBut.refl _ _ _ | apply KeepBut.set_ | apply keep_drewN | apply keep_drew) | exact KeepBut.refl _ _ _)⟩
     · rw [if_neg c2] at hrun
       have hql : q < l.length := by omega
       have d2 : ((q : Int) == (l.length : Int)) = false := beq_eq_false_iff_ne.mpr (by omega)
       obtain ⟨ad, rfl⟩ := int_some HR.out (by omega)
       obtain ⟨b, hb⟩ : ∃ b, b = l.getD q 0 := ⟨_, rfl⟩
       rw [← hb] at hrun
       have hx := pw_cell_below HB.out (int_cells HR.out rfl (by omega) q (.int .u8 b) (by simp [hql, hb]))
       have hx2 : ∀ n, (w.drewN n).cell? (ad.add q) = some (.int .u8 b) := fun n => hx
       have HQ := Aside0.mk hq
       have HK := Aside0.mk hk
       have p1 := eq_true (show (0 : Int) ≤ (q : Int) by omega)
       have p2 := eq_true (show (q : Int) < (l.length : Int) by omega)
       have p3 := eq_true hql
       clear hb c2 hk hq HRR
       by_cases c3 : i = 9 ∧ 1 < b
       · rw [if_pos c3] at hrun
         subst hrun
         obtain ⟨hi9, c3⟩ := c3
         have d3 : decide (1 < b) = true := decide_eq_true c3
         have d9 : ((i : Int) == 9) = true := beq_iff_eq.mpr (by omega)
         clear c3 hi9
         go_wp2
         repeat (go_quiet (fail); try go_wp2)
         go_ret
         exact ⟨by first | rfl | (simp; done), by (try dsimp only); repeat (first | (with_reducible first | exact HI.out | apply IsRd.drewN | apply IsRd.drew | apply IsRd.set_err | refine IsRd.set_at ?_ _ HLE.out) | exact HI.out), by repeat (first | (with_reducible first | exact HB.out | apply pw_below_drewN | apply below_drew1 | refine below_set ?_ HG.out) | exact HB.out), by repeat (first | (with_reducible first | exact KeepBut.refl _ _ _ | apply KeepBut.set_ | apply keep_drewN | apply keep_drew) | exact KeepBut.refl _ _ _)⟩
       · rw [if_neg c3] at hrun
         have HS := Aside0.mk (show ∃ t, ((i : Int) == 9) = t ∧ (t = true → decide (1 < b) = false) from ⟨_, rfl, fun h => decide_eq_false fun hh => c3 ⟨by have := beq_iff_eq.mp h; omega, hh⟩⟩)
         clear c3
         obtain ⟨t, ht, hs⟩ := HS.out
         clear HS
         by_cases c4 : 128 ≤ b
         · rw [if_pos c4] at hrun
           have d4 : decide (128 ≤ b) = true := decide_eq_true c4
           have HRUN := Aside0.mk hrun
           clear hrun c4
           cases t with
           | true =>
            have d5 := hs rfl
            clear hs
            go_wp2
            repeat (go_quiet (fail); try go_wp2)
            go_roundg k1
            case measure => have := HK.out; omega
            case rel =>
             have hk := HK.out
             have hq := HQ.out
             exact ⟨_, i + 1, rfl, rfl, by omega, by omega, HRUN, ⟨_, rfl⟩⟩
           | false =>
            clear hs
            go_wp2
            repeat (go_quiet (fail); try go_wp2)
            go_roundg k1
            case measure => have := HK.out; omega
            case rel =>
             have hk := HK.out
             have hq := HQ.out
             exact ⟨_, i + 1, rfl, rfl, by omega, by omega, HRUN, ⟨_, rfl⟩⟩
         · rw [if_neg c4] at hrun
           have d4 : decide (128 ≤ b) = false := decide_eq_false c4
           clear c4
           by_cases c5 : b = 0 ∧ 0 < i
           · rw [if_pos c5] at hrun
             subst hrun
             obtain ⟨rfl, c5⟩ := c5
             have d6 : decide ((0 : Int) < (i : Int)) = true := decide_eq_true (by omega)
             have d7 : decide (0 < i) = true := decide_eq_true c5
             have d8 := eq_true c5
             clear c5 hs
             cases t with
             | true =>
              go_wp2
              repeat (go_quiet (fail); try go_wp2)
              go_ret
              exact ⟨by first | rfl | (simp; done), by (try dsimp only); repeat (first | (with_reducible first | exact HI.out | apply IsRd.drewN | apply IsRd.drew | apply IsRd.set_err | refine IsRd.set_at ?_ _ HLE.out) | exact HI.out), by repeat (first | (with_reducible first | exact HB.out | apply pw_below_drewN | apply below_drew1 | refine below_set ?_ HG.out) | exact HB.out), by repeat (first | (with_reducible first | exact KeepBut.refl _ _ _ | apply KeepBut.set_ | apply keep_drewN | apply keep_drew) | exact KeepBut.refl _ _ _)⟩
             | false =>
              go_wp2
              repeat (go_quiet (fail); try go_wp2)
              go_ret
              exact ⟨by first | rfl | (simp; done), by (try dsimp only); repeat (first | (with_reducible first | exact HI.out | apply IsRd.drewN | apply IsRd.drew | apply IsRd.set_err | refine IsRd.set_at ?_ _ HLE.out) | exact HI.out), by repeat (first | (with_reducible first | exact HB.out | apply pw_below_drewN | apply below_drew1 | refine below_set ?_ HG.out) | exact HB.out), by repeat (first | (with_reducible first | exact KeepBut.refl _ _ _ | apply KeepBut.set_ | apply keep_drewN | apply keep_drew) | exact KeepBut.refl _ _ _)⟩
           · rw [if_neg c5] at hrun
             obtain ⟨y, hy⟩ : ∃ y, vAdd v b i = y := ⟨_, rfl⟩
             rw [hy] at hrun
             unfold vAdd at hy
             subst hrun
             have hq := HQ.out
             have HLE := Aside0.mk (show q + 1 ≤ l.length by omega)
             obtain ⟨q2, hq2⟩ : ∃ q2, q2 = q + 1 := ⟨_, rfl⟩
             have e2 : (p : Int) + ((i : Int) + 1) = (q2 : Int) := by omega
             have HQ2 := Aside0.mk hq2
             clear hq2
             have HY := Aside0.mk hy
             clear hq hy
             have HS : ∃ t2, (b == 0) = t2 ∧ (t2 = true → decide ((0 : Int) < (i : Int)) = false ∧ decide (0 < i) = false ∧ ((0 < i) = False)) := ⟨_, rfl, fun h => by
              have hb0 : b = 0 := beq_iff_eq.mp h
              have hi0 : ¬ 0 < i := fun hh => c5 ⟨hb0, hh⟩
              exact ⟨decide_eq_false (by omega), decide_eq_false hi0, eq_false hi0⟩⟩
             clear c5
             obtain ⟨t2, ht2, hs2⟩ := HS
             cases t2 with
             | true =>
              obtain ⟨g1, g2, g3⟩ := hs2 rfl
              clear hs2
              cases t with
              | true =>
               have d5 := hs rfl
               clear hs
               go_wp2
               repeat (go_quiet (fail); try go_wp2)
               go_ret
               obtain rfl := HQ2.out
               exact ⟨by rw [← HY.out]; rfl, (HI.out.drewN _).set_at _ HLE.out, by repeat (first | (with_reducible first | exact HB.out | apply pw_below_drewN | apply below_drew1 | refine below_set ?_ HG.out) | exact HB.out), by repeat (first | (with_reducible first | exact KeepBut.refl _ _ _ | apply KeepBut.set_ | apply keep_drewN | apply keep_drew) | exact KeepBut.refl _ _ _)⟩
              | false =>
               clear hs
               go_wp2
               repeat (go_quiet (fail); try go_wp2)
               go_ret
               obtain rfl := HQ2.out
               exact ⟨by rw [← HY.out]; rfl, (HI.out.drewN _).set_at _ HLE.out, by repeat (first | (with_reducible first | exact HB.out | apply pw_below_drewN | apply below_drew1 | refine below_set ?_ HG.out) | exact HB.out), by repeat (first | (with_reducible first | exact KeepBut.refl _ _ _ | apply KeepBut.set_ | apply keep_drewN | apply keep_drew) | exact KeepBut.refl _ _ _)⟩
             | false =>
              clear hs2
              cases t with
              | true =>
               have d5 := hs rfl
               clear hs
               go_wp2
               repeat (go_quiet (fail); try go_wp2)
               go_ret
               obtain rfl := HQ2.out
               exact ⟨by rw [← HY.out]; rfl, (HI.out.drewN _).set_at _ HLE.out, by repeat (first | (with_reducible first | exact HB.out | apply pw_below_drewN | apply below_drew1 | refine below_set ?_ HG.out) | exact HB.out), by repeat (first | (with_reducible first | exact KeepBut.refl _ _ _ | apply KeepBut.set_ | apply keep_drewN | apply keep_drew) | exact KeepBut.refl _ _ _)⟩
              | false =>
               clear hs
               go_wp2
               repeat (go_quiet (fail); try go_wp2)
               go_ret
               obtain rfl := HQ2.out
               exact ⟨by rw [← HY.out]; rfl, (HI.out.drewN _).set_at _ HLE.out, by repeat (first | (with_reducible first | exact HB.out | apply pw_below_drewN | apply below_drew1 | refine below_set ?_ HG.out) | exact HB.out), by repeat (first | (with_reducible first | exact KeepBut.refl _ _ _ | apply KeepBut.set_ | apply keep_drewN | apply keep_drew) | exact KeepBut.refl _ _ _)⟩
 · rw [if_neg c1] at hrr
   subst hrr
   have d1 : (er == 0) = false := beq_eq_false_iff_ne.mpr c1
   have d2 : (er != 0) = true := bne_iff_ne.mpr c1
   clear c1
   go_enter Tryz.func167, Tryz.ntmps167
   go_wp2
   repeat (go_quiet (fail); try go_wp2)
   go_ret
   exact ⟨by first | rfl | (simp; done), by (try dsimp only); repeat (first | (with_reducible first | exact HI.out | apply IsRd.drewN | apply IsRd.drew | apply IsRd.set_err | refine IsRd.set_at ?_ _ HLE.out) | exact HI.out), by repeat (first | (with_reducible first | exact HB.out | apply pw_below_drewN | apply below_drew1 | refine below_set ?_ HG.out) | exact HB.out), by repeat (first | (with_reducible first | exact KeepBut.refl _ _ _ | apply KeepBut.set_ | apply keep_drewN | apply keep_drew) | exact KeepBut.refl _ _ _)⟩
def leftR (l : List Int) (p : Nat) (e : Int) : Int := if e = 0 then (l.length : Int) - p else 0
theorem wire_Left.calls (g : Nat) (l : List Int) (p : Nat) (er : Int) (w0 w : World) (hI : IsRd w0 w g l p er) :
 Calls Tryz.prog 256 #[.pointer (some ⟨g, 0, none⟩)] w fun e w' => e = .returned (.int .i64 (leftR l p er)) ∧ Drawn0 w w' := by
 obtain ⟨A0, c0, hb, hg, hcap, hp, hr⟩ := hI
 have hmax := hr.2.1
 obtain ⟨z0, z1, z2, f1, f2⟩ := cellRd hb
 clear hr hb hg
 by_cases c1 : er = 0
 · subst c1
   go_enter Tryz.func256, Tryz.ntmps256
   go_wp2
   repeat (go_quiet (fail); try go_wp2)
   go_ret
   exact ⟨rfl, by first | exact Drawn0.refl _ | exact ⟨_, rfl⟩⟩
 · have d1 : (er == 0) = false := beq_eq_false_iff_ne.mpr c1
   have d2 : (er != 0) = true := bne_iff_ne.mpr c1
   have HE := Aside0.mk (show leftR l p er = 0 from if_neg c1)
   clear c1
   go_enter Tryz.func256, Tryz.ntmps256
   go_wp2
   repeat (go_quiet (fail); try go_wp2)
   go_ret
   exact ⟨by rw [HE.out]; rfl, by first | exact Drawn0.refl _ | exact ⟨_, rfl⟩⟩
theorem wire_Err.calls (g : Nat) (l : List Int) (p : Nat) (er : Int) (w0 w : World) (hI : IsRd w0 w g l p er) :
 Calls Tryz.prog 169 #[.pointer (some ⟨g, 0, none⟩)] w fun e w' => e = .returned (.tuple #[.int .i64 er, .int .i64 p]) ∧ Drawn0 w w' := by
 obtain ⟨A0, c0, hb, hg, hcap, hp, hr⟩ := hI
 obtain ⟨z0, z1, z2, f1, f2⟩ := cellRd hb
 clear hr hb hg
 go_enter Tryz.func169, Tryz.ntmps169
 go_wp2
 repeat (go_quiet (fail); try go_wp2)
 go_ret2
 exact ⟨rfl, by first | exact Drawn0.refl _ | exact ⟨_, rfl⟩⟩
def getR (n : Int) (l : List Int) (p : Nat) (e : Int) : Int × Nat × Int := (leGo 0 0 (takeR l p e n).1, (takeR l p e n).2.1, (takeR l p e n).2.2)
theorem bits_or_range (x y : Int) : 0 ≤ Go.bits .or .u64 x y ∧ Go.bits .or .u64 x y ≤ 18446744073709551615 := by
 have e : Go.bits .or .u64 x y = IntKind.u64.wrap (((BitVec.ofInt 64 x) ||| (BitVec.ofInt 64 y)).toNat : Int) := rfl
 rw [e, IntKind.wrap_u64]
 omega
theorem vGo_range (l : List Int) (p : Nat) : ∀ (d i : Nat) (v : Int), 0 ≤ (vGo l p i d v).1 ∧ (vGo l p i d v).1 ≤ 18446744073709551615
 | 0, i, v => by simp [vGo]
 | d + 1, i, v => by
  unfold vGo
  repeat' split
  · simp
  · simp
  · exact vGo_range l p d _ _
  · simp
  · exact bits_or_range _ _
theorem vR_range (l : List Int) (p : Nat) (e : Int) : 0 ≤ (vR l p e).1 ∧ (vR l p e).1 ≤ 18446744073709551615 := by
 unfold vR
 split
 · exact vGo_range _ _ _ _ _
 · simp
def kidR (l : List Int) (p : Nat) (e : Int) : S82 × Nat × Int :=
 (⟨(getR 4 l p e).1 % 4294967296, (getR 4 l (getR 4 l p e).2.1 (getR 4 l p e).2.2).1 % 4294967296⟩, (getR 4 l (getR 4 l p e).2.1 (getR 4 l p e).2.2).2.1, (getR 4 l (getR 4 l p e).2.1 (getR 4 l p e).2.2).2.2)
theorem branch_getKid.calls (g : Nat) (l : List Int) (p : Nat) (er : Int) (w0 w : World) (hI : IsRd w0 w g l p er) (hB : Below w0.heap.size w0 w) :
 Calls Tryz.prog 255 #[.pointer (some ⟨g, 0, none⟩)] w (NumPost w0 w g l (.agg #[.int .i64 (kidR l p er).1.f0, .int .i64 (kidR l p er).1.f1]) (kidR l p er).2.1 (kidR l p er).2.2) := by
 have hlt := hI.lt
 have hge := hI.ge
 have HC := Aside0.mk (fun o => wire_Get_uint32.calls g l p er w0 (w.alloc o) (hI.alloc o) (below_alloc hB o))
 have HB := Aside0.mk hB
 unfold kidR getR
 obtain ⟨r1, h1⟩ : ∃ r, takeR l p er 4 = r := ⟨_, rfl⟩
 simp only [h1] at HC ⊢
 obtain ⟨r2, h2⟩ : ∃ r, takeR l r1.2.1 r1.2.2 4 = r := ⟨_, rfl⟩
 rw [h2]
 have H2 := Aside0.mk h2
 clear h1 h2 hI hB
 go_enter Tryz.func255, Tryz.ntmps255
 go_wp2_with fail
 refine (HC.out _).mono ?_
 rintro e w1 ⟨rfl, hI1, hB1, hK1⟩
 have hC2 := wire_Get_uint32.calls g l r1.2.1 r1.2.2 w0 w1 hI1 hB1
 rw [H2.out] at hC2
 have HC2 := Aside0.mk hC2
 have HK1 := Aside0.mk hK1
 clear hC2 HC hI1 hB1 hK1
 go_wp2_with fail
 refine HC2.out.mono ?_
 rintro e w2 ⟨rfl, hI2, hB2, hK2⟩
 have hb := hK2.blk (HK1.out.blk (heap_alloc_new w (.cells #[.int .i64 0, .int .i64 0] 82)) (by omega) (by simp)) (by omega) (by simp)
 have z0 := blk_cell hb 0
 have z1 := blk_cell hb 1
 have f0 := blk_frozen hb 0
 have f1 := blk_frozen hb 1
 have HBK := Aside0.mk hb
 have HI2 := Aside0.mk hI2
 have HB2 := Aside0.mk hB2
 have HK2 := Aside0.mk (KeepBut.trans (keep_alloc (KeepBut.refl w g none) _) (KeepBut.trans HK1.out hK2 (.inl rfl)) (.inl rfl))
 simp only [List.getElem?_toArray] at z0 z1
 clear hb hI2 hB2 hK2 HC2 HK1
 go_wp2
 have hb1 := blk_set (blk_set HBK.out 0 (.int .i64 (leGo 0 0 r1.1 % 4294967296))) 1 (.int .i64 (leGo 0 0 r2.1 % 4294967296))
 refine bodyPost_ret (results_cell_row rfl _ _ w.heap.size 82 #[.int .i64 (leGo 0 0 r1.1 % 4294967296), .int .i64 (leGo 0 0 r2.1 % 4294967296)] (0, 0) _ rfl hb1 Tryz.underlying82 rfl (by kernel_rfl)) rfl ?_
 exact ⟨rfl, (HI2.out.far (by simp; omega) _).far (by simp; omega) _, below_set (below_set HB2.out (by omega)) (by omega), keep_far (keep_far HK2.out (Nat.le_refl _) _) (Nat.le_refl _) _⟩
def listBytes (l : List Int) : List Int := l.flatMap fun x => leB 4 (x % 4294967296)
theorem listBytes_length (l : List Int) : (listBytes l).length = 4 * l.length := by
 induction l with
 | nil => rfl
 | cons x l ih =>
  have : listBytes (x :: l) = leB 4 (x % 4294967296) ++ listBytes l := rfl
  rw [this, List.length_append, leB_length, ih, List.length_cons]
  omega
theorem listBytes_take (l : List Int) (i : Nat) (h : i < l.length) : listBytes (l.take (i + 1)) = listBytes (l.take i) ++ leB 4 (l[i] % 4294967296) := by
 unfold listBytes
 rw [List.take_succ_eq_append_getElem h, List.flatMap_append]
 simp
def encListR (next : Int) (l : List Int) : List Int × Int := if nextB next = true then (if listB next l = true then (chainHead 4 next l.length ++ listBytes l ++ zs (4085 - 4 * l.length), 0) else ([], 63)) else ([], 51)
theorem chain_EncodeList_.calls (next : Int) (A0 : Option Addr) (c0 : Nat) (l0 : List Int) (w : World) (hr0 : Kd.C (Kd.int .i64) w A0 l0.length l0) (hc0 : l0.length ≤ c0) (hl : l0.length ≤ 9223372036854775806) :
 Calls Tryz.prog 82 #[.int .i64 next, .slice A0 l0.length c0] w (EncPost w (encListR next l0)) := by
 have HN := Aside0.mk (chain_isNext.calls next _ w (isNext_f next))
 have HD := Aside0.mk (fun m => chain_isList.calls (l0.length + 1) next A0 c0 l0 _ (w.drewN m) (Kd.C_drewN hr0 m) hc0 (isList_f next l0 hl))
 unfold encListR
 obtain ⟨b, hb⟩ : ∃ b, nextB next = b := ⟨_, rfl⟩
 rw [hb] at HN ⊢
 have HR0 := Aside0.mk hr0
 clear hb hr0
 cases b with
 | false =>
  rw [if_neg (by decide)]
  clear HD HR0 hc0
  go_enter Tryz.func82, Tryz.ntmps82
  go_wp2_with fail
  refine HN.out.mono ?_
  rintro e w1 ⟨rfl, m, rfl⟩
  go_wp2
  go_ret2
  exact ⟨_, rfl, Kd.R_nil _ _ _ _ _, pw_below_drewN (Below.refl _ _) m⟩
 | true =>
  rw [if_pos rfl]
  obtain ⟨b, hb⟩ : ∃ b, listB next l0 = b := ⟨_, rfl⟩
  rw [hb] at HD ⊢
  cases b with
  | false =>
   rw [if_neg (by decide)]
   clear HR0 hc0 hb
   go_enter Tryz.func82, Tryz.ntmps82
   go_wp2_with fail
   refine HN.out.mono ?_
   rintro e w1 ⟨rfl, m, rfl⟩
   go_wp2_with fail
   refine (HD.out _).mono ?_
   rintro e w1 ⟨rfl, m2, rfl⟩
   go_wp2
   go_ret2
   exact ⟨_, rfl, Kd.R_nil _ _ _ _ _, pw_below_drewN (Below.refl _ _) _⟩
  | true =>
   rw [if_pos rfl]
   have hdb : l0.length ≤ 1021 := by
    have := of_decide_eq_true (Bool.and_eq_true_iff.mp hb).2
    omega
   have HLE := Aside0.mk hdb
   have HB := Aside0.mk (fun W => begun_full 4 next l0.length W)
   clear hb hl
   go_enter Tryz.func82, Tryz.ntmps82
   go_wp2_with fail
   refine HN.out.mono ?_
   rintro e w1 ⟨rfl, m, rfl⟩
   go_wp2_with fail
   refine (HD.out _).mono ?_
   rintro e w1 ⟨rfl, m2, rfl⟩
   go_wp2_with fail
   refine (HB.out _).mono ?_
   rintro e w1 ⟨g, rfl, hg, hF, hB⟩
   have HF1 := Aside0.mk hF
   have HB1 := Aside0.mk (below_then (pw_below_drewN (Below.refl w.heap.size w) _) (Nat.le_refl _) hB)
   have HG := Aside0.mk (show w.heap.size ≤ g from hg)
   clear hF hB hg HN HD HB hc0
   go_wp2
   go_loopg [6, 22] l0.length (fun kq v6 v22 w' => ∃ (i n : Nat), v22 = .int .i64 i ∧ v6 = .slice (some ⟨g, 0, none⟩) n 4092 ∧ i + kq = l0.length ∧ Aside0 (n = 7 + 4 * i) ∧ Aside0 (Full 5 w' g ((chainHead 4 next l0.length ++ listBytes (l0.take i)) ++ zs (4085 - 4 * i))) ∧ Aside0 (Below w.heap.size w w'))
   case atStart => exact ⟨0, 7, rfl, rfl, by omega, ⟨rfl⟩, ⟨by have h : (chainHead 4 next l0.length ++ listBytes (l0.take 0)) = chainHead 4 next l0.length := List.append_nil _; rw [h]; exact HF1.out⟩, HB1⟩
   case round =>
    clear HF1 HB1
    obtain ⟨i, n, rfl, rfl, hk, HN, HF, HB⟩ := hrel
    by_cases c : i < l0.length
    · have cd1 : decide ((i : Int) < (l0.length : Int)) = true := decide_eq_true (by omega)
      have cd2 : decide (i < l0.length) = true := decide_eq_true c
      have hr := Kd.C_below HR0.out HB.out
      obtain ⟨ad, rfl⟩ := int_some hr (by omega)
      obtain ⟨x, hx⟩ : ∃ x, x = l0[i] := ⟨_, rfl⟩
      have hx1 := int_cells hr rfl (by omega) i (.int .i64 x) (by simp [c, hx])
      have HX := Aside0.mk (show listBytes (l0.take (i + 1)) = listBytes (l0.take i) ++ leB 4 (x % 4294967296) by rw [listBytes_take l0 i c, hx])
      have HP4 := Aside0.mk (fun W => put_uint32 none 0 [] (x % 4294967296) W (Kd.C_nil _ _) (Nat.le_refl _) (by decide) (by omega) (by omega))
      have HLN := Aside0.mk (show (chainHead 4 next l0.length ++ listBytes (l0.take i)).length = n by rw [List.length_append, chainHead_length, listBytes_length, List.length_take, HN.out, Nat.min_eq_left (by omega)])
      have HNL := Aside0.mk (show n + 4 ≤ 4092 by have := HN.out; have := HLE.out; omega)
      have p0 := eq_true (show (0 : Int) ≤ (i : Int) by omega)
      have p1 := eq_true (show (i : Int) < l0.length by omega)
      have HK := Aside0.mk hk
      obtain ⟨X, hX⟩ : ∃ X, X = chainHead 4 next l0.length ++ listBytes (l0.take i) := ⟨_, rfl⟩
      have HXX := Aside0.mk hX
      rw [← hX] at HF HLN
      clear hx hk hr hX
      go_wp2_with fail
      refine (HP4.out _).mono ?_
      rintro e w3 ⟨v, rfl, hR, hB⟩
      obtain ⟨A3, c3, rfl, hl3, hC3⟩ := Kd.R_reads hR
      have HF3 := Aside0.mk (HF.out.below hB)
      have HB3 := Aside0.mk (below_step HB.out hB)
      simp only [List.nil_append, leB_length] at hC3 hl3 ⊢
      have HC3 := Aside0.mk hC3
      clear hR hB hl3 hC3 HF HB
      go_wp2_with (first
       | ((with_reducible refine gate_builtin (b := .append) (xs := #[.tmp 26, .tmp 29]) rfl ?_); at_builtin; refine append_full (w0 := w) (base := w.heap.size) rfl (.tmp 26) (.tmp 29) 25 rfl Tryz.underlying25 info5 (X ++ zs (4085 - 4 * i)) (leB 4 (x % 4294967296)) A3 4 c3 rfl rfl HF3.out (by rw [List.length_append, zs_length, HLN.out]; have := HN.out; have := HNL.out; omega) HC3.out (by decide) HNL.out HB3.out HG.out ?_; intro w4 hF hb hg; have HF4 := Aside0.mk hF; have HB4 := Aside0.mk hb; clear hF hb hg HF3 HB3))
      go_roundg (gk - 1)
      case measure => have := HK.out; omega
      case rel =>
       have hk := HK.out
       have hF := HF4.out
       have hn := HN.out
       have hle := HLE.out
       rw [splice_zero X (leB 4 (x % 4294967296)) n 4 (4085 - 4 * i) HLN.out (leB_length _ _) (by omega), HXX.out, List.append_assoc (chainHead 4 next l0.length) (listBytes (l0.take i)) (leB 4 (x % 4294967296)), ← HX.out, show 4085 - 4 * i - 4 = 4085 - 4 * (i + 1) by omega] at hF
       exact ⟨i + 1, n + 4, rfl, rfl, by omega, ⟨by omega⟩, ⟨hF⟩, HB4⟩
    · have cd1 : decide ((i : Int) < (l0.length : Int)) = false := decide_eq_false (by omega)
      have cd2 : decide (i < l0.length) = false := decide_eq_false c
      obtain rfl : i = l0.length := by omega
      clear c hk
      go_wp2
      go_ret2
      have hF := HF.out
      rw [List.take_length] at hF
      have hlen : (chainHead 4 next l0.length ++ listBytes l0 ++ zs (4085 - 4 * l0.length)).length = 4092 := by have := HLE.out; simp only [List.length_append, zs_length, chainHead_length, listBytes_length]; omega
      have hR := hF.R (base := w.heap.size) (ok := fun _ => True) HG.out trivial 4092 (by omega) (by rw [hlen]; decide)
      rw [List.take_of_length_le (by omega), hlen] at hR
      exact ⟨_, rfl, hR, HB.out⟩
def readR (kind : Int) (body : List Int) : Int × Int × Bool :=
 if body.length = 4092 ∧ body.getD 0 0 = kind then
  ((getR 4 ((body.take 7).drop 1) 0 0).1 % 4294967296,
   (getR 2 ((body.take 7).drop 1) (getR 4 ((body.take 7).drop 1) 0 0).2.1 (getR 4 ((body.take 7).drop 1) 0 0).2.2).1 % 65536,
   nextB ((getR 4 ((body.take 7).drop 1) 0 0).1 % 4294967296))
 else (0, 0, false)
theorem chain_read.calls (kind : Int) (A0 : Option Addr) (c0 : Nat) (l0 : List Int) (w : World) (hr0 : Kd.C (Kd.int .u8) w A0 l0.length l0) (hc0 : l0.length ≤ c0) :
 Calls Tryz.prog 179 #[.int .u8 kind, .slice A0 l0.length c0] w fun e w' => e = .returned (.tuple #[.int .i64 (readR kind l0).1, .int .i64 (readR kind l0).2.1, .bool (readR kind l0).2.2]) ∧ Below w.heap.size w w' := by
 unfold readR
 by_cases c : l0.length = 4092
 · have d1 : ((l0.length : Int) == 4092) = true := beq_iff_eq.mpr (by omega)
   have d2 : ((l0.length : Int) != 4092) = false := bne_eq_false_iff_eq.mpr (by omega)
   have d3 : (l0.length : Int) = 4092 := by omega
   obtain ⟨ad, rfl⟩ := int_some hr0 (by omega)
   obtain ⟨k0, hk0⟩ : ∃ k, k = l0.getD 0 0 := ⟨_, rfl⟩
   have hx := int_cells hr0 rfl (by omega) 0 (.int .u8 k0) (by rw [List.getElem?_map, hk0, List.getD_eq_getElem?_getD, List.getElem?_eq_getElem (by omega)]; rfl)
   rw [Addr.add_zero'] at hx
   rw [← hk0]
   by_cases c2 : k0 = kind
   · rw [if_pos ⟨c, c2⟩]
     have d4 : (k0 == kind) = true := beq_iff_eq.mpr c2
     have d5 : (k0 != kind) = false := bne_eq_false_iff_eq.mpr c2
     obtain ⟨i0, hi0, _, hsz, _⟩ := info_parts info5
     obtain ⟨h, hh⟩ : ∃ h, h = (l0.take 7).drop 1 := ⟨_, rfl⟩
     have hlen : h.length = 6 := by rw [hh, List.length_drop, List.length_take]; omega
     have hcut := cut_three (P := Tryz.prog) 25 5 Tryz.underlying25 hi0 1 hsz (some ad) l0.length c0 1 7 7 (by omega) (by omega) (by omega) (by omega)
     obtain ⟨A1, hA1⟩ : ∃ A1, A1 = (if (7 : Int).toNat = (1 : Int).toNat then some ad else (some ad : Option Addr).map (·.add ((1 : Int).toNat * 1))) := ⟨_, rfl⟩
     rw [← hA1, show (7 : Int).toNat - (1 : Int).toNat = 6 from rfl, ← hlen] at hcut
     have hC := Kd.C_drop (m := 1) (c := 7) (Kd.C_take (m := 7) hr0 (by omega)) (by rw [List.length_take]; omega) (by rw [List.length_take]; omega)
     rw [← hh] at hC ⊢
     have hC : Kd.C (Kd.int .u8) w A1 h.length h := by rw [hA1]; exact hC
     have HN := Aside0.mk (fun m => wire_NewReader.calls A1 h.length h (w.drewN m) (Kd.C_drewN hC m) (Nat.le_refl _) (by omega))
     obtain ⟨r1, h1⟩ : ∃ r, takeR h 0 0 4 = r := ⟨_, rfl⟩
     obtain ⟨r2, h2⟩ : ∃ r, takeR h r1.2.1 r1.2.2 2 = r := ⟨_, rfl⟩
     unfold getR
     simp only [h1, h2]
     have HH1 := Aside0.mk h1
     have HH2 := Aside0.mk h2
     have HX := Aside0.mk (fun W => chain_isNext.calls (leGo 0 0 r1.1 % 4294967296) _ W (isNext_f _))
     clear hr0 hc0 hC hA1 hh hi0 hsz h1 h2 c c2 hlen hk0
     go_enter Tryz.func179, Tryz.ntmps179
     go_wp2_with fail
     refine (HN.out 0).mono ?_
     rintro e w1 ⟨g, wA, rfl, hb1, hI, hb2⟩
     have hC4 := wire_Get_uint32.calls g h 0 0 wA w1 hI hb2
     rw [HH1.out] at hC4
     have HC4 := Aside0.mk hC4
     have HB1 := Aside0.mk (below_then (pw_below_drewN (Below.refl w.heap.size w) 0) (Nat.le_refl _) hb1)
     clear hC4 hI hb1 hb2 HN
     go_wp2_with fail
     refine HC4.out.mono ?_
     rintro e w2 ⟨rfl, hI, hb2, hK⟩
     have hC2 := wire_Get_uint16.calls g h r1.2.1 r1.2.2 wA w2 hI hb2
     rw [HH2.out, IntKind.wrap_u16] at hC2
     have HC2 := Aside0.mk hC2
     clear hC2 hI hb2 hK HC4
     go_wp2_with fail
     refine HC2.out.mono ?_
     rintro e w3 ⟨rfl, hI, hb2, hK⟩
     have HB3 := Aside0.mk (below_step HB1.out (hb2.mono (Nat.le_refl _)))
     clear hI hb2 hK HC2
     go_wp2_with fail
     refine (HX.out _).mono ?_
     rintro e w4 ⟨rfl, m, rfl⟩
     go_wp2
     go_ret3
     exact ⟨rfl, pw_below_drewN HB3.out m⟩
   · rw [if_neg (fun h => c2 h.2)]
     have d4 : (k0 == kind) = false := beq_eq_false_iff_ne.mpr c2
     have d5 : (k0 != kind) = true := bne_iff_ne.mpr c2
     clear hr0 hc0 c c2 hk0
     go_enter Tryz.func179, Tryz.ntmps179
     go_wp2
     repeat (go_quiet (fail); try go_wp2)
     go_ret3
     exact ⟨rfl, by first | exact Below.refl _ _ | exact pw_below_drewN (Below.refl _ _) _⟩
 · rw [if_neg (fun h => c h.1)]
   have d1 : ((l0.length : Int) == 4092) = false := beq_eq_false_iff_ne.mpr (by omega)
   have d2 : ((l0.length : Int) != 4092) = true := bne_iff_ne.mpr (by omega)
   clear hr0 hc0 c
   go_enter Tryz.func179, Tryz.ntmps179
   go_wp2
   repeat (go_quiet (fail); try go_wp2)
   go_ret3
   exact ⟨rfl, by first | exact Below.refl _ _ | exact pw_below_drewN (Below.refl _ _) _⟩
theorem splice_whole (n : Nat) (y : List Int) (hy : y.length = n) : (zs n).take 0 ++ y.take (min n n) ++ (zs n).drop (0 + min n n) = y := by
 subst hy
 rw [Nat.min_self, List.take_zero, List.nil_append, List.take_length, List.drop_of_length_le (by rw [zs_length]; omega), List.append_nil]
theorem readR_true (kind : Int) (l : List Int) (h : (readR kind l).2.2 = true) : l.length = 4092 := by
 unfold readR at h
 split at h
 · rename_i h1
   exact h1.1
 · cases h
theorem readR_range (kind : Int) (l : List Int) : 0 ≤ (readR kind l).2.1 ∧ (readR kind l).2.1 ≤ 65535 ∧ 0 ≤ (readR kind l).1 ∧ (readR kind l).1 ≤ 4294967295 := by
 unfold readR
 split
 · simp only []
   omega
 · simp
def decDataR (body : List Int) : Int × List Int × Int :=
 if (readR 3 body).2.2 = true then
  (if dataB (readR 3 body).1 (readR 3 body).2.1 = true then
   (if zerosB (body.drop (7 + (readR 3 body).2.1.toNat)) = true then ((readR 3 body).1, (body.take (7 + (readR 3 body).2.1.toNat)).drop 7, 0) else (0, [], 60))
   else (0, [], 60))
 else (0, [], 60)
def DataPost (w : World) (r : Int × List Int × Int) (e : Ending) (w' : World) : Prop := ∃ v, e = .returned (.tuple #[.int .i64 r.1, v, .int .i64 r.2.2]) ∧ Kd.R (Kd.int .u8) 5 w' w.heap.size (fun _ => True) v r.2.1 ∧ Below w.heap.size w w'
theorem chain_DecodeData.calls (A0 : Option Addr) (c0 : Nat) (l0 : List Int) (w : World) (hr0 : Kd.C (Kd.int .u8) w A0 l0.length l0) (hc0 : l0.length ≤ c0) :
 Calls Tryz.prog 79 #[.slice A0 l0.length c0] w (DataPost w (decDataR l0)) := by
 have HC := Aside0.mk (chain_read.calls 3 A0 c0 l0 w hr0 hc0)
 have hrg := readR_range 3 l0
 have htr := readR_true 3 l0
 unfold decDataR
 obtain ⟨r, hr⟩ : ∃ r, readR 3 l0 = r := ⟨_, rfl⟩
 rw [hr] at HC hrg htr ⊢
 clear hr
 obtain ⟨next, n, ok⟩ := r
 simp only [] at hrg htr HC ⊢
 cases ok with
 | false =>
  rw [if_neg (by decide)]
  clear hrg htr hr0 hc0
  go_enter Tryz.func79, Tryz.ntmps79
  go_wp2_with fail
  refine HC.out.mono ?_
  rintro e w1 ⟨rfl, hB⟩
  have HB := Aside0.mk hB
  clear hB HC
  go_wp2
  go_ret3
  exact ⟨_, rfl, Kd.R_nil _ _ _ _ _, HB.out⟩
 | true =>
  rw [if_pos rfl]
  have hlen := htr rfl
  have HX := Aside0.mk (fun W => chain_isData.calls next n _ W (isData_f next n))
  obtain ⟨b, hb⟩ : ∃ b, dataB next n = b := ⟨_, rfl⟩
  simp only [hb] at HX ⊢
  cases b with
  | false =>
   rw [if_neg (by decide)]
   clear hrg htr hr0 hc0 hb hlen
   go_enter Tryz.func79, Tryz.ntmps79
   go_wp2_with fail
   refine HC.out.mono ?_
   rintro e w1 ⟨rfl, hB⟩
   have HB := Aside0.mk hB
   clear hB HC
   go_wp2_with fail
   refine (HX.out _).mono ?_
   rintro e w2 ⟨rfl, m, rfl⟩
   go_wp2
   go_ret3
   exact ⟨_, rfl, Kd.R_nil _ _ _ _ _, pw_below_drewN HB.out m⟩
  | true =>
   rw [if_pos rfl]
   obtain ⟨n, rfl⟩ : ∃ m : Nat, n = m := ⟨n.toNat, by omega⟩
   have hn : n ≤ 4085 := by have := of_decide_eq_true hb; omega
   have hn1 : 1 ≤ n := by have := of_decide_eq_true hb; omega
   obtain ⟨i0, hi0, _, hsz, _⟩ := info_parts info5
   have hcut := cut_from (P := Tryz.prog) 25 5 .i64 Tryz.underlying25 hi0 1 hsz A0 l0.length c0 (7 + (n : Int)) (by omega) (by omega)
   rw [show (7 + (n : Int)).toNat = 7 + n by omega] at hcut
   obtain ⟨A1, hA1⟩ : ∃ A1, A1 = (if c0 = 7 + n then A0 else A0.map (·.add ((7 + n) * 1))) := ⟨_, rfl⟩
   have hCz : Kd.C (Kd.int .u8) w A1 (l0.drop (7 + n)).length (l0.drop (7 + n)) := by rw [hA1]; exact Kd.C_drop (m := 7 + n) (c := c0) hr0 (by omega) hc0
   rw [← hA1] at hcut
   obtain ⟨z, hz⟩ : ∃ z, z = l0.drop (7 + n) := ⟨_, rfl⟩
   have hzl : z.length = l0.length - (7 + n) := by rw [hz, List.length_drop]
   simp only [Int.toNat_natCast]
   rw [← hz] at hCz ⊢
   rw [← hzl] at hcut
   have HZ := Aside0.mk (fun (W : World) (hW : Below w.heap.size w W) => chain_zeros.calls (z.length + 1) A1 (c0 - (7 + n)) z _ W (Kd.C_below hCz hW) (by omega) (zeros_f z (by omega)))
   obtain ⟨b2, hb2⟩ : ∃ b, zerosB z = b := ⟨_, rfl⟩
   simp only [hb2] at HZ ⊢
   have hd70 := Kd.C_drop (m := 7) (c := 7 + n) (Kd.C_take (m := 7 + n) hr0 (by omega)) (by rw [List.length_take]; omega) (by rw [List.length_take]; omega)
   have hcut3 := cut_three (P := Tryz.prog) 25 5 Tryz.underlying25 hi0 1 hsz A0 l0.length c0 7 (7 + (n : Int)) (7 + (n : Int)) (by omega) (by omega) (by omega) (by omega)
   rw [show (7 + (n : Int)).toNat = 7 + n by omega, show (7 : Int).toNat = 7 from rfl, show 7 + n - 7 = n by omega] at hcut3
   obtain ⟨A2, hA2⟩ : ∃ A2, A2 = (if 7 + n = 7 then A0 else A0.map (·.add (7 * 1))) := ⟨_, rfl⟩
   have hd7 : Kd.C (Kd.int .u8) w A2 ((l0.take (7 + n)).drop 7).length ((l0.take (7 + n)).drop 7) := by rw [hA2]; exact hd70
   clear hd70
   rw [← hA2] at hcut3
   obtain ⟨y, hy⟩ : ∃ y, y = (l0.take (7 + n)).drop 7 := ⟨_, rfl⟩
   have hyl : y.length = n := by rw [hy, List.length_drop, List.length_take]; omega
   rw [← hy] at hd7 ⊢
   rw [hyl] at hd7
   have HD := Aside0.mk hd7
   have HYL := Aside0.mk hyl
   have HN := Aside0.mk hn
   have d1 : (0 : Int) ≤ 7 + (n : Int) := by omega
   have d2 : 7 + (n : Int) ≤ l0.length := by omega
   clear hrg htr hr0 hb hA1 hCz hz hzl hb2 hd7 hA2 hy hyl hi0 hsz hlen
   cases b2 with
   | false =>
    rw [if_neg (by decide)]
    go_enter Tryz.func79, Tryz.ntmps79
    go_wp2_with fail
    refine HC.out.mono ?_
    rintro e w1 ⟨rfl, hB⟩
    have HB := Aside0.mk hB
    clear hB HC
    go_wp2_with fail
    refine (HX.out _).mono ?_
    rintro e w2 ⟨rfl, m, rfl⟩
    go_wp2_with fail
    refine (HZ.out _ (pw_below_drewN HB.out m)).mono ?_
    rintro e w2 ⟨rfl, m2, rfl⟩
    clear HX HZ
    go_wp2
    go_ret3
    exact ⟨_, rfl, Kd.R_nil _ _ _ _ _, pw_below_drewN HB.out _⟩
   | true =>
    rw [if_pos rfl]
    go_enter Tryz.func79, Tryz.ntmps79
    go_wp2_with fail
    refine HC.out.mono ?_
    rintro e w1 ⟨rfl, hB⟩
    have HB := Aside0.mk hB
    clear hB HC
    go_wp2_with fail
    refine (HX.out _).mono ?_
    rintro e w2 ⟨rfl, m, rfl⟩
    go_wp2_with fail
    refine (HZ.out _ (pw_below_drewN HB.out m)).mono ?_
    rintro e w2 ⟨rfl, m2, rfl⟩
    clear HX HZ
    go_wp2_with (first
     | ((with_reducible refine gate_dst (N := 32) rfl ?_); refine make_full (w0 := w) (base := w.heap.size) rfl (N := 32) rfl 25 _ _ rfl (n : Int) (n : Int) rfl rfl Tryz.underlying25 info5 (by omega) (Int.le_refl _) (by have := HN.out; omega) (pw_below_drewN HB.out _) (pw_below_drewN HB.out _).size ?_; intro w5 hF hb hg; rw [Int.toNat_natCast] at hF; have HF5 := Aside0.mk hF; have HB5 := Aside0.mk hb; clear hF hb hg)
     | ((with_reducible refine gate_builtin (b := .copy) (xs := #[.tmp 33, .tmp 39]) rfl ?_); refine copy_full (w0 := w) (base := w.heap.size) rfl (.tmp 33) (.tmp 39) 25 25 rfl Tryz.underlying25 info5 (zs n) y A2 n n rfl rfl HF5.out (by rw [zs_length]; have := HN.out; unfold maxLen; omega) (Kd.C_below HD.out HB5.out) (by rw [zs_length]; omega) HB5.out HB.out.size ?_; intro w6 hF hb hg; have HF6 := Aside0.mk hF; have HB6 := Aside0.mk hb; clear hF hb hg HF5 HB5))
    go_ret3
    have hF := HF6.out
    rw [splice_whole n y HYL.out] at hF
    have hR := hF.R (base := w.heap.size) (ok := fun _ => True) HB.out.size trivial n (by rw [HYL.out]; exact Nat.le_refl _) (by rw [HYL.out]; have := HN.out; unfold maxLen; omega)
    rw [List.take_of_length_le (by rw [HYL.out]; exact Nat.le_refl _), HYL.out] at hR
    exact ⟨_, rfl, hR, HB6.out⟩
def rdNums (h : List Int) : Nat → Nat → Int → List Int
 | 0, _, _ => []
 | n + 1, p, e => ((getR 4 h p e).1 % 4294967296) :: rdNums h n (getR 4 h p e).2.1 (getR 4 h p e).2.2
theorem rdNums_length (h : List Int) : ∀ (n p : Nat) (e : Int), (rdNums h n p e).length = n
 | 0, _, _ => rfl
 | n + 1, p, e => by simp [rdNums, rdNums_length h n]
def decListR (body : List Int) : Int × List Int × Int :=
 if (readR 4 body).2.2 = true then
  (if (readR 4 body).2.1 ≤ 1021 then
   (if listB (readR 4 body).1 (rdNums ((body.take (7 + 4 * (readR 4 body).2.1.toNat)).drop 7) (readR 4 body).2.1.toNat 0 0) = true then
    (if zerosB (body.drop (7 + 4 * (readR 4 body).2.1.toNat)) = true then ((readR 4 body).1, rdNums ((body.take (7 + 4 * (readR 4 body).2.1.toNat)).drop 7) (readR 4 body).2.1.toNat 0 0, 0) else (0, [], 61))
    else (0, [], 61))
   else (0, [], 61))
 else (0, [], 61)
def ListPost (w : World) (r : Int × List Int × Int) (e : Ending) (w' : World) : Prop := ∃ v, e = .returned (.tuple #[.int .i64 r.1, v, .int .i64 r.2.2]) ∧ Kd.R (Kd.int .i64) 3 w' w.heap.size (fun _ => True) v r.2.1 ∧ Below w.heap.size w w'
theorem chain_DecodeList.calls (A0 : Option Addr) (c0 : Nat) (l0 : List Int) (w : World) (hr0 : Kd.C (Kd.int .u8) w A0 l0.length l0) (hc0 : l0.length ≤ c0) :
 Calls Tryz.prog 84 #[.slice A0 l0.length c0] w (ListPost w (decListR l0)) := by
 have HC := Aside0.mk (chain_read.calls 4 A0 c0 l0 w hr0 hc0)
 have hrg := readR_range 4 l0
 have htr := readR_true 4 l0
 unfold decListR
 obtain ⟨r, hr⟩ : ∃ r, readR 4 l0 = r := ⟨_, rfl⟩
 rw [hr] at HC hrg htr ⊢
 clear hr
 obtain ⟨next, n, ok⟩ := r
 simp only [] at hrg htr HC ⊢
 cases ok with
 | false =>
  rw [if_neg (by decide)]
  clear hrg htr hr0 hc0
  go_enter Tryz.func84, Tryz.ntmps84
  go_wp2_with fail
  refine HC.out.mono ?_
  rintro e w1 ⟨rfl, hB⟩
  have HB := Aside0.mk hB
  clear hB HC
  go_wp2
  go_ret3
  exact ⟨_, rfl, Kd.R_nil _ _ _ _ _, HB.out⟩
 | true =>
  rw [if_pos rfl]
  have hlen := htr rfl
  by_cases c : n ≤ 1021
  · rw [if_pos c]
    obtain ⟨n, rfl⟩ : ∃ m : Nat, n = m := ⟨n.toNat, by omega⟩
    have hn : n ≤ 1021 := by omega
    have dn : decide ((1021 : Int) < (n : Int)) = false := decide_eq_false (by omega)
    simp only [Int.toNat_natCast]
    obtain ⟨i0, hi0, _, hsz, _⟩ := info_parts info5
    obtain ⟨q, hq⟩ : ∃ q, q = 7 + 4 * n := ⟨_, rfl⟩
    rw [← hq]
    have eq1 : 7 + 4 * (n : Int) = (q : Int) := by omega
    have hcut := cut_from (P := Tryz.prog) 25 5 .i64 Tryz.underlying25 hi0 1 hsz A0 l0.length c0 (q : Int) (by omega) (by omega)
    rw [Int.toNat_natCast] at hcut
    obtain ⟨A1, hA1⟩ : ∃ A1, A1 = (if c0 = q then A0 else A0.map (·.add (q * 1))) := ⟨_, rfl⟩
    have hCz : Kd.C (Kd.int .u8) w A1 (l0.drop q).length (l0.drop q) := by rw [hA1]; exact Kd.C_drop (m := q) (c := c0) hr0 (by omega) hc0
    rw [← hA1] at hcut
    obtain ⟨z, hz⟩ : ∃ z, z = l0.drop q := ⟨_, rfl⟩
    have hzl : z.length = l0.length - q := by rw [hz, List.length_drop]
    rw [← hz] at hCz ⊢
    rw [← hzl] at hcut
    have HZ := Aside0.mk (fun (W : World) (hW : Below w.heap.size w W) => chain_zeros.calls (z.length + 1) A1 (c0 - q) z _ W (Kd.C_below hCz hW) (by omega) (zeros_f z (by omega)))
    have hcut3 := cut_three (P := Tryz.prog) 25 5 Tryz.underlying25 hi0 1 hsz A0 l0.length c0 7 (q : Int) (q : Int) (by omega) (by omega) (by omega) (by omega)
    rw [Int.toNat_natCast, show (7 : Int).toNat = 7 from rfl] at hcut3
    obtain ⟨A2, hA2⟩ : ∃ A2, A2 = (if q = 7 then A0 else A0.map (·.add (7 * 1))) := ⟨_, rfl⟩
    have hd7 : Kd.C (Kd.int .u8) w A2 ((l0.take q).drop 7).length ((l0.take q).drop 7) := by rw [hA2]; exact Kd.C_drop (m := 7) (c := q) (Kd.C_take (m := q) hr0 (by omega)) (by rw [List.length_take]; omega) (by rw [List.length_take]; omega)
    rw [← hA2] at hcut3
    obtain ⟨h, hh⟩ : ∃ h, h = (l0.take q).drop 7 := ⟨_, rfl⟩
    have hhl : h.length = q - 7 := by rw [hh, List.length_drop, List.length_take]; omega
    rw [← hh] at hd7 ⊢
    rw [← hhl] at hcut3
    have HNR := Aside0.mk (fun (W : World) (hW : Below w.heap.size w W) => wire_NewReader.calls A2 h.length h W (Kd.C_below hd7 hW) (Nat.le_refl _) (by omega))
    have d1 : (0 : Int) ≤ (q : Int) := by omega
    have d2 : (q : Int) ≤ l0.length := by omega
    have HLEN := Aside0.mk (rdNums_length h n 0 0)
    obtain ⟨L, hL⟩ : ∃ L, rdNums h n 0 0 = L := ⟨_, rfl⟩
    rw [hL] at HLEN ⊢
    have HL := Aside0.mk hL
    have HN := Aside0.mk hn
    clear hrg htr hr0 hA1 hCz hz hzl hd7 hA2 hh hhl hi0 hsz hlen hq hL c
    obtain ⟨b, hb⟩ : ∃ b, listB next L = b := ⟨_, rfl⟩
    obtain ⟨b2, hb2⟩ : ∃ b, zerosB z = b := ⟨_, rfl⟩
    rw [hb, hb2]
    simp only [hb2] at HZ
    have HLB := Aside0.mk hb
    obtain ⟨RR, hRR⟩ : ∃ RR : Int × List Int × Int, (if b = true then (if b2 = true then (next, L, (0 : Int)) else (0, [], 61)) else (0, [], 61)) = RR := ⟨_, rfl⟩
    rw [hRR]
    have HRR := Aside0.mk hRR
    clear hb hb2 hRR
    go_enter Tryz.func84, Tryz.ntmps84
    go_wp2_with fail
    refine HC.out.mono ?_
    rintro e w1 ⟨rfl, hB⟩
    have HB := Aside0.mk hB
    clear hB HC
    go_wp2_with fail
    refine (HNR.out _ HB.out).mono ?_
    rintro e w2 ⟨g, wA, rfl, hb1, hI, hb2⟩
    have HI2 := Aside0.mk hI
    have HBA := Aside0.mk hb2
    have HWA := Aside0.mk (below_step HB.out hb1)
    clear hI hb1 hb2 HNR HB
    go_wp2
    go_loopg [10, 32] n (fun kq v10 v32 w' => ∃ (i : Nat) (xs : List Int) (p : Nat) (er : Int), v32 = .int .i64 i ∧ i + kq = n ∧ Aside0 (xs ++ rdNums h kq p er = L ∧ xs.length = i) ∧ Aside0 (IsRd wA w' g h p er) ∧ Aside0 (Below wA.heap.size wA w') ∧ Aside0 (Kd.R (Kd.int .i64) 3 w' wA.heap.size (fun k => k ≠ g) v10 xs))
    case atStart => exact ⟨0, [], 0, 0, rfl, by omega, ⟨HL.out, rfl⟩, HI2, HBA, ⟨Kd.R_nil _ _ _ _ _⟩⟩
    case round =>
     clear HI2 HBA
     obtain ⟨i, xs, p, er, rfl, hk, HX, HI, HBA, HR⟩ := hrel
     have HB := Aside0.mk (below_step HWA.out HBA.out)
     cases gk with
     | zero =>
      obtain rfl : i = n := by omega
      have hx : xs = L := by have := HX.out.1; rw [rdNums, List.append_nil] at this; exact this
      subst hx
      obtain ⟨A5, c5, hv, hl5, hC5⟩ := Kd.R_reads HR.out
      subst hv
      have HLI := Aside0.mk (chain_isList.calls (xs.length + 1) next A5 c5 xs _ wr hC5 hl5 (isList_f next xs (by have := HLEN.out; have := HN.out; omega)))
      have hb := HLB.out
      rw [hb] at HLI
      have cd1 : decide ((i : Int) < (i : Int)) = false := decide_eq_false (by omega)
      have cd2 : decide (i < i) = false := decide_eq_false (by omega)
      clear hk hb hl5 hC5 HX
      cases b with
      | false =>
       obtain rfl : ((0 : Int), ([] : List Int), (61 : Int)) = RR := HRR.out
       go_wp2_with fail
       refine HLI.out.mono ?_
       rintro e w4 ⟨rfl, m, rfl⟩
       go_wp2
       go_ret3
       exact ⟨_, rfl, Kd.R_nil _ _ _ _ _, pw_below_drewN HB.out m⟩
      | true =>
       cases b2 with
       | false =>
        obtain rfl : ((0 : Int), ([] : List Int), (61 : Int)) = RR := HRR.out
        go_wp2_with fail
        refine HLI.out.mono ?_
        rintro e w4 ⟨rfl, m, rfl⟩
        go_wp2_with fail
        refine (HZ.out _ (pw_below_drewN HB.out m)).mono ?_
        rintro e w5 ⟨rfl, m2, rfl⟩
        go_wp2
        go_ret3
        exact ⟨_, rfl, Kd.R_nil _ _ _ _ _, pw_below_drewN HB.out _⟩
       | true =>
        obtain rfl : (next, xs, (0 : Int)) = RR := HRR.out
        go_wp2_with fail
        refine HLI.out.mono ?_
        rintro e w4 ⟨rfl, m, rfl⟩
        go_wp2_with fail
        refine (HZ.out _ (pw_below_drewN HB.out m)).mono ?_
        rintro e w5 ⟨rfl, m2, rfl⟩
        go_wp2
        go_ret3
        exact ⟨_, rfl, Kd.R_drewN (Kd.R_lower (Kd.R_mono HR.out (fun _ _ => trivial)) HWA.out.size) _, pw_below_drewN HB.out _⟩
     | succ k1 =>
      have cd1 : decide ((i : Int) < (n : Int)) = true := decide_eq_true (by omega)
      have cd2 : decide (i < n) = true := decide_eq_true (by omega)
      have hi9 : (i : Int) < 1021 := by omega
      have hC := wire_Get_uint32.calls g h p er wA wr HI.out HBA.out
      obtain ⟨r, hr⟩ : ∃ r, takeR h p er 4 = r := ⟨_, rfl⟩
      have hX := HX.out
      rw [rdNums] at hX
      unfold getR at hX
      simp only [hr] at hC hX
      have HG := Aside0.mk hC
      obtain ⟨x, hx⟩ : ∃ x, x = leGo 0 0 r.1 % 4294967296 := ⟨_, rfl⟩
      have hx0 : 0 ≤ x ∧ x < 4294967296 := by omega
      rw [← hx] at hX HG
      have HX2 := Aside0.mk (show (xs ++ [x]) ++ rdNums h k1 r.2.1 r.2.2 = L ∧ (xs ++ [x]).length = i + 1 from ⟨by rw [List.append_assoc]; exact hX.1, by rw [List.length_append, hX.2]; rfl⟩)
      have HLX := Aside0.mk (show (xs.length + 1) * 8 ≤ 140737488355328 by have := HN.out; omega)
      have HK := Aside0.mk hk
      have x0 := hx0.1
      have x1 := hx0.2
      clear hC hX hr hx HX hk hx0
      go_wp2_with fail
      refine HG.out.mono ?_
      rintro e w3 ⟨rfl, hI, hb2, hK⟩
      have HI3 := Aside0.mk hI
      have HBA3 := Aside0.mk hb2
      have HR3 := Aside0.mk (Kd.R_keep HR.out hK (fun _ h => h))
      clear hI hb2 hK HI HBA HB HR HG
      go_wp2_with (first
       | ((with_reducible refine gate_builtin (b := .append) (xs := #[.tmp 34, .tmp 38]) rfl ?_); at_builtin; refine Kd.R_append (Kd.int .i64) (w0 := wA) wA.heap.size rfl (.tmp 34) (.tmp 38) 26 3 (.int .i64 0) 8 rfl Tryz.underlying26 info3 rfl (by decide) (by omega) u10 xs x [.int .i64 x] (fun k => k ≠ g) (fun _ => False) rfl rfl rfl (fun _ h => h.elim) (fun k hk => Nat.ne_of_gt (Nat.lt_of_lt_of_le HI3.out.lt hk)) HR3.out HBA3.out HBA3.out.size HLX.out ?_; intro v6 w6 ho hb6 hg hat; have HI6 := Aside0.mk (HI3.out.grown hg (Kd.R_away HR3.out (fun _ h => h))); have HO6 := Aside0.mk ho; have HB6 := Aside0.mk hb6; clear ho hb6 hg hat))
      go_roundg k1
      case measure => have := HK.out; omega
      case rel =>
       have hk := HK.out
       exact ⟨i + 1, xs ++ [x], r.2.1, r.2.2, rfl, by omega, HX2, HI6, HB6, HO6⟩
  · rw [if_neg c]
    have dn : decide ((1021 : Int) < n) = true := decide_eq_true (by omega)
    clear hrg htr hr0 hc0 hlen c
    go_enter Tryz.func84, Tryz.ntmps84
    go_wp2_with fail
    refine HC.out.mono ?_
    rintro e w1 ⟨rfl, hB⟩
    have HB := Aside0.mk hB
    clear hB HC
    go_wp2
    go_ret3
    exact ⟨_, rfl, Kd.R_nil _ _ _ _ _, HB.out⟩
end Go.Proofs.YtppjphghlclklaaGreatDoor.P
end
