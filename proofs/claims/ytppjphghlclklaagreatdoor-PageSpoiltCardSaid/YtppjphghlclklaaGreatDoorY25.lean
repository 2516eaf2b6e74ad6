/- Parts of a proof, laid together by a program of this session (slim.py). -/
import Derived.Test.YtppjphghlclklaaGreatDoorY23
import Derived.Test.YtppjphghlclklaaGreatDoorY1
import Derived.Test.YtppjphghlclklaaGreatDoorY0
import Derived.Test.YtppjphghlclklaaGreatDoorY7
import Derived.Test.YtppjphghlclklaaGreatDoorY19
import Derived.Laws.BitsAllLaws
set_option maxHeartbeats 8000000
set_option maxRecDepth 100000
section
namespace Go.Proofs.YtppjphghlclklaaGreatDoor.P
open Go.RowKit Go.Proofs.YtppjphghlclklaaGreatDoorW.PrintWords Go.Proofs.YtppjphghlclklaaGreatDoorW.PrintLast Go.Proofs.YtppjphghlclklaaGreatDoorW.PrintMore
set_option linter.unusedVariables false
set_option linter.unusedSimpArgs false
theorem ByteL.one {x : Int} (h0 : 0 ≤ x) (h1 : x < 256) : ByteL [x] := fun y hy => by
 rw [List.mem_singleton.1 hy]
 exact ⟨h0, h1⟩
theorem ByteL.nil : ByteL [] := fun y hy => by simp at hy
theorem cellBy_byte (p : Nat) (x : It) (h1 : it1 x = true) (h2 : it2 x = true) (hb : ByteIt x) : ByteL (cellBy p x) := by
 obtain ⟨⟨a1, a2, a3, a4⟩, a5, a6⟩ := it12 h1 h2
 unfold cellBy
 rw [tagI_of a3 a4]
 refine (((vB_byte _ _).append (hb.1.drop _)).append (vB_byte _ _)).append ?_
 by_cases c : x.f2 > 512
 · rw [if_pos c]
   exact leB_byte _ _
 · rw [if_neg c]
   exact hb.2
theorem cellsL_byte (p : Nat) : ∀ (l : List It), (∀ x ∈ l, it1 x = true ∧ it2 x = true ∧ ByteIt x) → ByteL (cellsL p l)
 | [], h => ByteL.nil
 | y :: l, h => by
  have e : cellsL p (y :: l) = cellBy p y ++ cellsL p l := by simp [cellsL]
  obtain ⟨y1, y2, y3⟩ := h y (List.mem_cons_self ..)
  rw [e]
  exact (cellBy_byte p y y1 y2 y3).append (cellsL_byte p l (fun x hx => h x (List.mem_cons_of_mem _ hx)))
theorem slotsL_byte (p : Nat) : ∀ (l : List It) (a : Nat), ByteL (slotsL p a l)
 | [], a => ByteL.nil
 | y :: l, a => (leB_byte _ _).append (slotsL_byte p l _)
theorem leaf_byte {l : List It} {b : List Int} (hb : ∀ x ∈ l, ByteIt x) (h : encLeafR l = (b, 0)) : ByteL b := by
 unfold encLeafR at h
 by_cases c1 : mayR l = 0
 · rw [if_pos c1] at h
   by_cases c2 : sizeL l ≤ 4092
   · rw [if_pos c2] at h
     obtain ⟨hbb, _⟩ := Prod.mk.inj h
     obtain ⟨m0, m1, m2, m3⟩ := mayR_zero c1
     rw [← hbb]
     unfold leafBody topL
     refine ((((((ByteL.one (by decide) (by decide)).append (leB_byte _ _)).append (vB_byte _ _)).append ?_).append (slotsL_byte _ _ _)).append (cellsL_byte _ _ (fun x hx => ⟨List.all_eq_true.1 m1 x hx, List.all_eq_true.1 m2 x hx, hb x hx⟩))).append (zs_byte _)
     refine ByteL.take ?_ _
     match l, hb with
     | [], _ => exact ByteL.nil
     | y :: l, hb => exact (hb y (List.mem_cons_self ..)).1
   · rw [if_neg c2] at h
     exact absurd (Prod.mk.inj h).2 (by decide)
 · rw [if_neg c1] at h
   exact absurd (Prod.mk.inj h).2 c1
theorem branch_byte {lv : Int} {seps : List (List Int)} {kids : List Kid} {b : List Int} (hb : ∀ x ∈ seps, ByteL x) (h : encBranchR lv seps kids = (b, 0)) : ByteL b := by
 unfold encBranchR at h
 by_cases c1 : wrongR lv seps kids = 0
 · rw [if_pos c1] at h
   obtain ⟨w1, w2, _⟩ := wrongR_zero c1
   rw [← (Prod.mk.inj h).1]
   exact branchBody_byte _ _ _ (by omega) (by omega) hb
 · rw [if_neg c1] at h
   exact absurd (Prod.mk.inj h).2 c1
theorem listBytes_byte : ∀ (l : List Int), ByteL (listBytes l)
 | [] => ByteL.nil
 | y :: l => by
  have e : listBytes (y :: l) = leB 4 (y % 4294967296) ++ listBytes l := by simp [listBytes]
  rw [e]
  exact (leB_byte _ _).append (listBytes_byte l)
theorem chain_byte {k next n : Int} {d : List Int} (hk0 : 0 ≤ k) (hk1 : k < 256) (hd : ByteL d) (z : Nat) : ByteL (chainHead k next n ++ d ++ zs z) := by
 unfold chainHead
 exact ((((ByteL.one hk0 hk1).append (leB_byte _ _)).append (leB_byte _ _)).append hd).append (zs_byte _)
theorem data_byte {next : Int} {d b : List Int} (hd : ByteL d) (h : encDataR next d = (b, 0)) : ByteL b := by
 unfold encDataR at h
 by_cases c1 : nextB next = true
 · rw [if_pos c1] at h
   by_cases c2 : dataB next d.length = true
   · rw [if_pos c2] at h
     rw [← (Prod.mk.inj h).1]
     exact chain_byte (by decide) (by decide) hd _
   · rw [if_neg c2] at h
     exact absurd (Prod.mk.inj h).2 (by decide)
 · rw [if_neg c1] at h
   exact absurd (Prod.mk.inj h).2 (by decide)
theorem list_byte {next : Int} {d b : List Int} (h : encListR next d = (b, 0)) : ByteL b := by
 unfold encListR at h
 by_cases c1 : nextB next = true
 · rw [if_pos c1] at h
   by_cases c2 : listB next d = true
   · rw [if_pos c2] at h
     rw [← (Prod.mk.inj h).1]
     exact chain_byte (by decide) (by decide) (listBytes_byte _) _
   · rw [if_neg c2] at h
     exact absurd (Prod.mk.inj h).2 (by decide)
 · rw [if_neg c1] at h
   exact absurd (Prod.mk.inj h).2 (by decide)
theorem meta_byte {x : Hd7} {b : List Int} (h : encHd x = (b, 0)) : ByteL b := by
 unfold encHd encMetaR at h
 by_cases c1 : mayB x.v x.c x.r x.h x.k x.f x.n = true
 · rw [if_pos c1] at h
   rw [← (Prod.mk.inj h).1]
   unfold headBytes
   have hm1 : ByteL metaBegin := fun x hx => by
    simp only [metaBegin, List.mem_cons, List.not_mem_nil, or_false] at hx
    omega
   have hm2 : ByteL metaEnd := fun x hx => by
    simp only [metaEnd, List.mem_cons, List.not_mem_nil, or_false] at hx
    omega
   exact ((((((((hm1.append (leB_byte _ _)).append (leB_byte _ _)).append (leB_byte _ _)).append (leB_byte _ _)).append (leB_byte _ _)).append (leB_byte _ _)).append (leB_byte _ _)).append (zs_byte _)).append hm2
 · rw [if_neg c1] at h
   exact absurd (Prod.mk.inj h).2 (by decide)
theorem enc_byte {p : Pg} {c : List Int} (hb : ByteP p) (h : encPageR p = (c, 0)) : ByteL c := by
 unfold encPageR at h
 by_cases c0 : p.kind < 1 ∨ 5 < p.kind
 · rw [if_pos c0] at h
   exact absurd (Prod.mk.inj h).2 (by decide)
 rw [if_neg c0] at h
 by_cases c1 : bareB p = true
 rotate_left
 · rw [if_neg c1] at h
   exact absurd (Prod.mk.inj h).2 (by decide)
 rw [if_pos c1] at h
 by_cases c2 : (bodyR p).2 = 0
 rotate_left
 · rw [if_neg c2] at h
   exact absurd (Prod.mk.inj h).2 c2
 rw [if_pos c2] at h
 rw [← (Prod.mk.inj h).1]
 obtain ⟨b, hbb⟩ : ∃ b, (bodyR p).1 = b := ⟨_, rfl⟩
 have hbr : bodyR p = (b, 0) := by rw [← hbb, ← c2]
 rw [hbb]
 obtain ⟨b1, b2, b3⟩ := hb
 have hx : ByteL b := by
  unfold bodyR at hbr
  by_cases k1 : p.kind = 1
  · rw [if_pos k1] at hbr
    exact leaf_byte b1 hbr
  rw [if_neg k1] at hbr
  by_cases k2 : p.kind = 2
  · rw [if_pos k2] at hbr
    exact branch_byte b2 hbr
  rw [if_neg k2] at hbr
  by_cases k3 : p.kind = 3
  · rw [if_pos k3] at hbr
    exact data_byte b3 hbr
  rw [if_neg k3] at hbr
  by_cases k4 : p.kind = 4
  · rw [if_pos k4] at hbr
    exact list_byte hbr
  rw [if_neg k4] at hbr
  exact meta_byte hbr
 unfold sealR markOf
 refine hx.append (fun y hy => ?_)
 simp only [List.mem_cons, List.not_mem_nil, or_false] at hy
 omega
end Go.Proofs.YtppjphghlclklaaGreatDoor.P
end
section
namespace Go.Proofs.YtppjphghlclklaaGreatDoor.P
open Go.RowKit Go.Proofs.YtppjphghlclklaaGreatDoorW.PrintWords Go.Proofs.YtppjphghlclklaaGreatDoorW.PrintLast Go.Proofs.YtppjphghlclklaaGreatDoorW.PrintMore
attribute [local go_sem] max2_int min2_int max_two min_two max_three min_three max_four min_four
set_option linter.unusedVariables false
set_option linter.unusedSimpArgs false
def NewPost (w : World) (l : List Int) (e : Ending) (w' : World) : Prop := ∃ v, e = .returned v ∧ Kd.R (Kd.int .u8) 5 w' w.heap.size (fun _ => True) v l ∧ Below w.heap.size w w'
theorem coppiceref_Bytes_any (A0 : Option Addr) (c0 : Nat) (l0 : List Int) (w : World) (hr0 : Kd.C (Kd.int .u8) w A0 l0.length l0) (hl : l0.length < 140737488355328) :
 Calls Tryz.prog 19 #[.slice A0 l0.length c0] w (NewPost w l0) := by
 have HR0 := Aside0.mk hr0
 have HL := Aside0.mk hl
 clear hr0 hl
 have h0 := eq_true (show 0 ≤ (l0.length : Int) by omega)
 go_enter Tryz.func19, Tryz.ntmps19
 go_wp2_with (first
  | ((with_reducible refine gate_dst (N := 5) rfl ?_); refine Kd.R_make0 (Kd.int .u8) _ 5 rfl (N := 5) rfl 25 _ _ rfl (l0.length : Int) rfl rfl Tryz.underlying25 (.int .u8 0) 1 info5 rfl (by decide) (by omega) 0 (ok := fun _ => True) (okp := fun _ => True) trivial (fun _ hk => hk) trivial (by omega) (by have := HL.out; omega) (Below.refl _ _) (Nat.le_refl _) ?_; intro v5 w5 ho hb hg hn; have HO5 := Aside0.mk ho; have HB5 := Aside0.mk hb; clear ho hb hg hn)
  | ((with_reducible refine gate_builtin (b := .append) (xs := #[.tmp 5, .tmp 6]) rfl ?_); at_builtin; refine Kd.R_append_rows (Kd.int .u8) (w0 := w) w.heap.size rfl (.tmp 5) (.tmp 6) 25 5 (.int .u8 0) 1 rfl Tryz.underlying25 info5 rfl (by decide) (by omega) v5 [] l0 _ _ _ (fun _ => True) (fun _ => False) rfl rfl HO5.out (Kd.C_below HR0.out HB5.out) (fun _ _ h => h) (fun _ h => h.elim) (fun _ _ => trivial) HB5.out HB5.out.size (by have := HL.out; simp; omega) ?_; intro v7 w7 ho hb hg hat; have HO7 := Aside0.mk ho; have HB7 := Aside0.mk hb; clear ho hb hg hat HO5 HB5))
 go_ret
 exact ⟨_, rfl, HO7.out, HB7.out⟩
theorem wfu32 {n : Int} (h : (Lit.int .u32 n).wf = true) : 0 ≤ n ∧ n ≤ 4294967295 := by simpa [Lit.wf, IntKind.min, IntKind.max, IntKind.signed, IntKind.bits] using h
theorem R_put8 {W : World} {base e g n cap : Nat} {ok : Nat → Prop} {xs : List Int} (h : Kd.R (Kd.int .u8) e W base ok (.slice (some ⟨g, 0, none⟩) n cap) xs) (i : Nat) (hi : i < n) :
 W.cell? ⟨g, i, none⟩ = some (.int .u8 (xs.getD i 0)) ∧ W.frozen? ⟨g, i, none⟩ = false ∧ ∀ x : Int, Kd.R (Kd.int .u8) e (W.setCell ⟨g, i, none⟩ (.int .u8 x)) base ok (.slice (some ⟨g, 0, none⟩) n cap) (xs.set i x) := by
 obtain ⟨cur, hh, hb, hn, hl, hm, hsz, htk⟩ := int_R_cur h
 have hok : ok g := h.1 g rfl
 have hix : i < xs.length := by omega
 have hc : cur[i]? = some (.int .u8 (xs.getD i 0)) := by
  rw [← Array.getElem?_toList]
  have h1 : (cur.toList.take n)[i]? = some (.int .u8 (xs.getD i 0)) := by
   rw [htk, List.getElem?_map, List.getD_eq_getElem?_getD, List.getElem?_eq_getElem hix]
   rfl
  rwa [List.getElem?_take, if_pos hi] at h1
 refine ⟨by simp [World.cell?, hh, hc], by simp [World.frozen?, hh], fun x => ?_⟩
 refine int_R_of hok hb (heap_setCell_same W g i cur e (.int .u8 x) hh) (by rw [List.length_set]; exact hn) hl hm (by rw [Array.size_setIfInBounds]; exact hsz) ?_
 rw [Array.toList_setIfInBounds, List.take_set, htk, List.map_set]
end Go.Proofs.YtppjphghlclklaaGreatDoor.P
end
section
namespace Go.Proofs.YtppjphghlclklaaGreatDoor.P
def pP : Nat := 3988292384
def tS (x : Nat) : Nat := (x >>> 1) ^^^ (if x.testBit 0 then pP else 0)
def tN : Nat → Nat → Nat
 | 0, x => x
 | n + 1, x => tN n (tS x)
theorem xor_sel (a b c d : Nat) : (a ^^^ b) ^^^ (c ^^^ d) = (a ^^^ c) ^^^ (b ^^^ d) := by
 rw [Nat.xor_assoc, Nat.xor_assoc, ← Nat.xor_assoc b c d, Nat.xor_comm b c, Nat.xor_assoc c b d]
theorem tS_xor (x y : Nat) : tS (x ^^^ y) = tS x ^^^ tS y := by
 unfold tS
 rw [Nat.shiftRight_xor_distrib, Nat.testBit_xor, xor_sel]
 congr 1
 cases x.testBit 0 <;> cases y.testBit 0 <;> simp
theorem tN_xor (n : Nat) : ∀ (x y : Nat), tN n (x ^^^ y) = tN n x ^^^ tN n y := by
 induction n with
 | zero => intro x y; rfl
 | succ n ih => intro x y; show tN n (tS _) = tN n (tS _) ^^^ tN n (tS _); rw [tS_xor, ih]
theorem tS_lt {x : Nat} (h : x < 2 ^ 32) : tS x < 2 ^ 32 := by
 unfold tS
 apply Nat.xor_lt_two_pow
 · rw [Nat.shiftRight_eq_div_pow]; omega
 · split <;> decide
theorem tS_ne {x : Nat} (h : x < 2 ^ 32) (hx : tS x = 0) : x = 0 := by
 unfold tS at hx
 by_cases c : x.testBit 0 = true
 · rw [if_pos c] at hx
   have h1 : ((x >>> 1) ^^^ pP).testBit 31 = false := by rw [hx]; rfl
   rw [Nat.testBit_xor] at h1
   have h2 : (x >>> 1).testBit 31 = false := Nat.testBit_lt_two_pow (by rw [Nat.shiftRight_eq_div_pow]; omega)
   rw [h2] at h1
   exact absurd h1 (by decide)
 · rw [if_neg c] at hx
   rw [Nat.xor_zero, Nat.shiftRight_eq_div_pow] at hx
   have h0 : x < 2 := by omega
   rcases (by omega : x = 0 ∨ x = 1) with rfl | rfl
   · rfl
   · exact absurd rfl c
theorem tN_lt (n : Nat) : ∀ {x : Nat}, x < 2 ^ 32 → tN n x < 2 ^ 32 := by
 induction n with
 | zero => intro x h; exact h
 | succ n ih => intro x h; exact ih (tS_lt h)
theorem tN_ne (n : Nat) : ∀ {x : Nat}, x < 2 ^ 32 → tN n x = 0 → x = 0 := by
 induction n with
 | zero => intro x _ h; exact h
 | succ n ih => intro x h hx; exact tS_ne h (ih (tS_lt h) hx)
theorem tN_add (a : Nat) : ∀ (b x : Nat), tN (a + b) x = tN b (tN a x) := by
 induction a with
 | zero => intro b x; rw [Nat.zero_add]; rfl
 | succ a ih => intro b x; rw [Nat.add_right_comm]; exact ih b (tS x)
def scan : Nat → Nat → Option Nat
 | 0, x => some x
 | n + 1, x => let y := tS x; if y == 1 then none else scan n y
theorem scan_ok (n : Nat) : ∀ (x y : Nat), scan n x = some y → (∀ k, 1 ≤ k → k ≤ n → tN k x ≠ 1) ∧ y = tN n x := by
 induction n with
 | zero => intro x y h; exact ⟨fun k h1 h2 => by omega, (Option.some.inj h).symm⟩
 | succ n ih =>
  intro x y h
  unfold scan at h
  by_cases c : (tS x == 1) = true
  · simp [c] at h
  · simp only [c] at h
    obtain ⟨h1, h2⟩ := ih _ _ h
    refine ⟨fun k hk hk2 => ?_, h2⟩
    obtain ⟨j, rfl⟩ : ∃ j, k = j + 1 := ⟨k - 1, by omega⟩
    show tN j (tS x) ≠ 1
    by_cases hj : j = 0
    · subst hj; intro hh; exact c (beq_iff_eq.mpr hh)
    · exact h1 j (by omega) (by omega)
def scans : Nat → Nat → Option Nat
 | 0, x => some x
 | n + 1, x => match scan 256 x with | none => none | some y => scans n y
theorem scans_ok (n : Nat) : ∀ (x y : Nat), scans n x = some y → (∀ k, 1 ≤ k → k ≤ 256 * n → tN k x ≠ 1) := by
 induction n with
 | zero => intro x y h k h1 h2; omega
 | succ n ih =>
  intro x y h k h1 h2
  unfold scans at h
  split at h
  · cases h
  · rename_i y' hy
    obtain ⟨a, rfl⟩ := scan_ok _ _ _ hy
    by_cases c : k ≤ 256
    · exact a k h1 c
    · have := ih _ _ h (k - 256) (by omega) (by omega)
      rwa [← tN_add, show 256 + (k - 256) = k by omega] at this
theorem scans_128 : (scans 128 1).isSome = true := by decide +kernel
theorem tN_one {k : Nat} (h1 : 1 ≤ k) (h2 : k ≤ 32767) : tN k 1 ≠ 1 := by
 obtain ⟨y, hy⟩ := Option.isSome_iff_exists.1 scans_128
 exact scans_ok 128 1 y hy k h1 (by omega)
theorem tS_two (y : Nat) : tS (2 * y) = y := by
 unfold tS
 have h : (2 * y).testBit 0 = false := by rw [Nat.testBit_zero]; simp
 rw [h, Nat.shiftRight_eq_div_pow]
 simp
theorem tN_pow (n : Nat) : ∀ y : Nat, tN n (2 ^ n * y) = y := by
 induction n with
 | zero => intro y; show 2 ^ 0 * y = y; simp
 | succ n ih => intro y; show tN n (tS _) = y; rw [Nat.pow_succ, Nat.mul_comm (2 ^ n) 2, Nat.mul_assoc, tS_two, ih]
theorem tN_pow_le {n m : Nat} (h : n ≤ m) (y : Nat) : tN m (2 ^ n * y) = tN (m - n) y := by
 rw [show m = n + (m - n) by omega, tN_add, tN_pow, show n + (m - n) - n = m - n by omega]
def leN : List Nat → Nat
 | [] => 0
 | b :: l => b ^^^ 2 ^ 8 * leN l
def bstep (x b : Nat) : Nat := tN 8 (x ^^^ b)
theorem run_le (l : List Nat) : ∀ x : Nat, l.foldl bstep x = tN (8 * l.length) (x ^^^ leN l) := by
 induction l with
 | nil => intro x; show x = tN 0 (x ^^^ 0); rw [Nat.xor_zero]; rfl
 | cons b l ih =>
  intro x
  rw [List.foldl_cons, ih]
  show _ = tN (8 * (l.length + 1)) (x ^^^ (b ^^^ 2 ^ 8 * leN l))
  rw [show 8 * (l.length + 1) = 8 + 8 * l.length by omega, tN_add, ← Nat.xor_assoc, tN_xor 8, tN_pow]
  rfl
theorem leN_set (l : List Nat) (i m b : Nat) (hb : l[i]? = some b) : leN (l.set i (b ^^^ m)) = leN l ^^^ 2 ^ (8 * i) * m := by
 induction l generalizing i with
 | nil => simp at hb
 | cons x l ih =>
  cases i with
  | zero =>
   simp only [List.getElem?_cons_zero, Option.some.injEq] at hb
   subst hb
   show (x ^^^ m) ^^^ 2 ^ 8 * leN l = (x ^^^ 2 ^ 8 * leN l) ^^^ 2 ^ 0 * m
   rw [Nat.xor_assoc, Nat.xor_assoc, Nat.xor_comm m]
   simp
  | succ i =>
   simp only [List.getElem?_cons_succ] at hb
   show x ^^^ 2 ^ 8 * leN (l.set i (b ^^^ m)) = (x ^^^ 2 ^ 8 * leN l) ^^^ 2 ^ (8 * (i + 1)) * m
   rw [ih i hb, show 8 * (i + 1) = 8 + 8 * i by omega, Nat.pow_add, Nat.mul_assoc, Nat.xor_assoc]
   congr 1
   generalize 2 ^ (8 * i) * m = z
   apply Nat.eq_of_testBit_eq
   intro j
   rw [Nat.testBit_xor, Nat.testBit_two_pow_mul, Nat.testBit_two_pow_mul, Nat.testBit_two_pow_mul, Nat.testBit_xor]
   cases decide (j ≥ 8) <;> simp
def fF : Nat := 4294967295
def Valid (l : List Nat) : Prop := l.length = 4096 ∧ leN (l.drop 4092) = (l.take 4092).foldl bstep fF ^^^ fF
theorem valid_run {l : List Nat} (h : Valid l) : l.foldl bstep fF = tN 32 fF := by
 obtain ⟨h1, h2⟩ := h
 rw [← List.take_append_drop 4092 l, List.foldl_append, run_le (l.drop 4092), h2, List.length_drop, h1]
 rw [← Nat.xor_assoc, Nat.xor_self, Nat.zero_xor]
theorem valid_two {a c : List Nat} (ha : Valid a) (hc : Valid c) {V : Nat} (h : leN a = leN c ^^^ V) : tN 32768 V = 0 := by
 have h1 := valid_run ha
 have h2 := valid_run hc
 rw [run_le, ha.1] at h1
 rw [run_le, hc.1] at h2
 have h3 : tN (8 * 4096) (fF ^^^ leN a) ^^^ tN (8 * 4096) (fF ^^^ leN c) = 0 := by rw [h1, h2, Nat.xor_self]
 rw [← tN_xor, xor_sel, Nat.xor_self, Nat.zero_xor, h, Nat.xor_comm (leN c), Nat.xor_assoc, Nat.xor_self, Nat.xor_zero] at h3
 exact h3
theorem burst {a c : List Nat} (hc : Valid c) {at_ v : Nat} (hat : at_ ≤ 32768) (hv : v < 2 ^ 32) (hv0 : v ≠ 0) (h : leN a = leN c ^^^ 2 ^ at_ * v) : ¬ Valid a := by
 intro ha
 have h1 := valid_two ha hc h
 rw [tN_pow_le hat] at h1
 exact hv0 (tN_ne _ hv h1)
theorem two_bits {a c : List Nat} (hc : Valid c) {i j : Nat} (hi : i < j) (hj : j < 32768) (h : leN a = leN c ^^^ (2 ^ i ^^^ 2 ^ j)) : ¬ Valid a := by
 intro ha
 have h1 := valid_two ha hc h
 have e : 2 ^ i ^^^ 2 ^ j = 2 ^ i * (1 ^^^ 2 ^ (j - i)) := by
  apply Nat.eq_of_testBit_eq
  intro k
  rw [Nat.testBit_xor, Nat.testBit_two_pow_mul, Nat.testBit_xor, Nat.testBit_two_pow, Nat.testBit_two_pow, Nat.testBit_two_pow, show (1 : Nat) = 2 ^ 0 from rfl, Nat.testBit_two_pow]
  by_cases c1 : k ≥ i
  · simp only [c1, decide_true, Bool.true_and]
    rw [decide_eq_decide.mpr (show i = k ↔ 0 = k - i by omega), decide_eq_decide.mpr (show j = k ↔ j - i = k - i by omega)]
  · have c2 : ¬ i = k := by omega
    have c3 : ¬ j = k := by omega
    simp [c1, c2, c3]
 rw [e, tN_pow_le (by omega), show 32768 - i = (j - i) + (32768 - j) by omega, tN_add, tN_xor] at h1
 have h2 : tN (j - i) (2 ^ (j - i)) = 1 := by have := tN_pow (j - i) 1; rwa [Nat.mul_one] at this
 rw [h2] at h1
 have hl : tN (j - i) 1 < 2 ^ 32 := tN_lt _ (by decide)
 have h3 := tN_ne _ (Nat.xor_lt_two_pow hl (by decide)) h1
 have h4 : tN (j - i) 1 = 1 := by
  have := congrArg (· ^^^ 1) h3
  simp only [Nat.xor_assoc, Nat.xor_self, Nat.xor_zero, Nat.zero_xor] at this
  exact this
 exact tN_one (by omega) (by omega) h4
end Go.Proofs.YtppjphghlclklaaGreatDoor.P
end
section
namespace Go.Proofs.YtppjphghlclklaaGreatDoor.P
open Go.RowKit
theorem left_T : ∀ r : Nat, r < 16 → crcLeft.getD r 0 = ((tN 4 r : Nat) : Int) := by decide
theorem half_T (x : Nat) (h : x < 4294967296) : crcHalf (x : Int) = ((tN 4 x : Nat) : Int) := by
 unfold crcHalf
 have h15 := u32_and_nat x 15 h (by decide)
 rw [show ((15 : Nat) : Int) = 15 from rfl] at h15
 rw [h15]
 have e15 : x &&& 15 = x % 16 := Nat.and_two_pow_sub_one_eq_mod x 4
 have h16 : x = 2 ^ 4 * (x / 16) ^^^ (x % 16) := by
  have := Nat.div_add_mod x 16
  apply Nat.eq_of_testBit_eq
  intro i
  rw [Nat.testBit_xor, Nat.testBit_two_pow_mul, show (16 : Nat) = 2 ^ 4 from rfl, Nat.testBit_mod_two_pow, Nat.testBit_div_two_pow]
  by_cases c : i < 4
  · have c2 : ¬ i ≥ 4 := by omega
    simp [c, c2]
  · have c2 : i ≥ 4 := by omega
    rw [show i - 4 + 4 = i by omega]
    simp [c, c2]
 rw [e15, Int.toNat_natCast, left_T _ (Nat.mod_lt _ (by decide)), show ((x : Int) / 16) = ((x / 16 : Nat) : Int) by omega,
  u32_xor_nat _ _ (by omega) (tN_lt 4 (by have := Nat.mod_lt x (show 16 > 0 by decide); omega))]
 congr 1
 rw [show tN 4 x = tN 4 (2 ^ 4 * (x / 16) ^^^ (x % 16)) by rw [← h16], tN_xor, tN_pow]
theorem byte_T (x b : Nat) (h : x < 4294967296) (hb : b < 256) : crcByte (x : Int) (b : Int) = ((bstep x b : Nat) : Int) ∧ bstep x b < 4294967296 := by
 have hx : x ^^^ b < 2 ^ 32 := Nat.xor_lt_two_pow h (by omega)
 refine ⟨?_, tN_lt 8 hx⟩
 unfold crcByte bstep
 rw [show ((b : Int) % 4294967296) = ((b : Nat) : Int) by omega, u32_xor_nat _ _ h (by omega), half_T _ hx, half_T _ (tN_lt 4 hx), show (8 : Nat) = 4 + 4 from rfl, tN_add]
def nats (l : List Int) : List Nat := l.map Int.toNat
theorem run_T (l : List Int) : ∀ (x : Nat), x < 4294967296 → (∀ b ∈ l, 0 ≤ b ∧ b < 256) → crcRun (x : Int) l = (((nats l).foldl bstep x : Nat) : Int) ∧ (nats l).foldl bstep x < 4294967296 := by
 induction l with
 | nil => intro x h _; exact ⟨rfl, h⟩
 | cons b l ih =>
  intro x h hb
  have h0 := hb b (by simp)
  have e : b = ((b.toNat : Nat) : Int) := by omega
  have h1 := byte_T x b.toNat h (by omega)
  have h2 := ih (bstep x b.toNat) h1.2 (fun y hy => hb y (by simp [hy]))
  refine ⟨?_, h2.2⟩
  show crcRun (crcByte (x : Int) b) l = _
  rw [e, h1.1, h2.1]
  rfl
theorem sum_T (l : List Int) (hb : ∀ b ∈ l, 0 ≤ b ∧ b < 256) : crcSum l = (((nats l).foldl bstep fF ^^^ fF : Nat) : Int) ∧ (nats l).foldl bstep fF ^^^ fF < 4294967296 := by
 have e : Go.bits .xor .u32 IntKind.u32.max 0 = ((fF : Nat) : Int) := by decide +kernel
 have em : IntKind.u32.max = ((fF : Nat) : Int) := by decide +kernel
 obtain ⟨h1, h2⟩ := run_T l fF (by decide) hb
 unfold crcSum
 rw [e, h1, em, u32_xor_nat _ _ (by decide) h2, Nat.xor_comm]
 exact ⟨rfl, Nat.xor_lt_two_pow (n := 32) h2 (by decide)⟩
theorem add_xor8 (a b : Nat) (h : a < 256) : a ^^^ 2 ^ 8 * b = a + 256 * b := by
 have := Nat.two_pow_add_eq_or_of_lt (i := 8) h b
 rw [show a + 256 * b = 2 ^ 8 * b + a by omega, this]
 apply Nat.eq_of_testBit_eq
 intro i
 rw [Nat.testBit_xor, Nat.testBit_or, Nat.testBit_two_pow_mul]
 by_cases c : i ≥ 8
 · rw [Nat.testBit_lt_two_pow (Nat.lt_of_lt_of_le (show a < 2 ^ 8 from h) (Nat.pow_le_pow_right (n := 2) (by decide) (show 8 ≤ i from c)))]
   simp
 · simp [c]
theorem valid_of {l : List Int} (hb : ∀ b ∈ l, 0 ≤ b ∧ b < 256) (h : (openR l).2 = 0) : Valid (nats l) := by
 unfold openR at h
 by_cases c : l.length = 4096
 · rw [if_pos c] at h
   by_cases e : l.drop 4092 = markOf (crcSum (l.take 4092))
   · obtain ⟨s1, s2⟩ := sum_T (l.take 4092) (fun b hb' => hb b (List.mem_of_mem_take hb'))
     refine ⟨by rw [nats, List.length_map, c], ?_⟩
     have ed : (nats l).drop 4092 = nats (l.drop 4092) := by unfold nats; rw [List.map_drop]
     have et : (nats l).take 4092 = nats (l.take 4092) := by unfold nats; rw [List.map_take]
     rw [ed, et, e, s1]
     generalize (nats (l.take 4092)).foldl bstep fF ^^^ fF = S at s2
     unfold markOf nats
     simp only [List.map_cons, List.map_nil, leN]
     rw [Nat.mul_zero, Nat.xor_zero, add_xor8 _ _ (by omega), add_xor8 _ _ (by omega), add_xor8 _ _ (by omega)]
     omega
   · rw [if_neg e] at h; exact absurd h (by decide)
 · rw [if_neg c] at h; exact absurd h (by decide)
theorem open_not {l : List Int} (hb : ∀ b ∈ l, 0 ≤ b ∧ b < 256) (hl : l.length = 4096) (h : ¬ Valid (nats l)) : openR l = ([], 22) := by
 unfold openR
 rw [if_pos hl]
 by_cases e : l.drop 4092 = markOf (crcSum (l.take 4092))
 · exfalso
   apply h
   apply valid_of hb
   unfold openR
   rw [if_pos hl, if_pos e]
 · rw [if_neg e]
def flipI (l : List Int) (i : Nat) : List Int := l.set (i / 8) (Go.bits .xor .u8 (l.getD (i / 8) 0) (2 ^ (i % 8)))
theorem pow8 {i : Nat} : 2 ^ (i % 8) < 256 := Nat.pow_lt_pow_right (a := 2) (by decide) (show i % 8 < 8 from Nat.mod_lt _ (by decide))
theorem flip_ok {l : List Int} (hb : ∀ b ∈ l, 0 ≤ b ∧ b < 256) (i : Nat) (hi : i / 8 < l.length) :
 (∀ b ∈ flipI l i, 0 ≤ b ∧ b < 256) ∧ (flipI l i).length = l.length ∧ leN (nats (flipI l i)) = leN (nats l) ^^^ 2 ^ i := by
 have hg : l.getD (i / 8) 0 = l[i / 8] := by rw [List.getD_eq_getElem?_getD, List.getElem?_eq_getElem hi]; rfl
 have h0 := hb _ (List.getElem_mem hi)
 obtain ⟨b, hb2⟩ : ∃ b : Nat, l[i / 8] = (b : Int) := ⟨(l[i / 8]).toNat, by omega⟩
 have hb3 : b < 256 := by omega
 have e : Go.bits .xor .u8 (l.getD (i / 8) 0) (2 ^ (i % 8)) = ((b ^^^ 2 ^ (i % 8) : Nat) : Int) := by
  have h1 := u8_xor_nat b (2 ^ (i % 8)) hb3 pow8
  rw [hg, hb2, ← h1]
  congr 1
 have hx : b ^^^ 2 ^ (i % 8) < 2 ^ 8 := Nat.xor_lt_two_pow hb3 pow8
 unfold flipI
 rw [e]
 refine ⟨fun y hy => ?_, by rw [List.length_set], ?_⟩
 · rcases List.mem_or_eq_of_mem_set hy with h | h
   · exact hb y h
   · subst h; omega
 · have hs : nats (l.set (i / 8) ((b ^^^ 2 ^ (i % 8) : Nat) : Int)) = (nats l).set (i / 8) (b ^^^ 2 ^ (i % 8)) := by
    unfold nats; rw [List.map_set, Int.toNat_natCast]
   have hb4 : (nats l)[i / 8]? = some b := by
    unfold nats; rw [List.getElem?_map, List.getElem?_eq_getElem hi, hb2]; rfl
   rw [hs, leN_set _ _ _ _ hb4, ← Nat.pow_add, Nat.div_add_mod]
structure Turned (c : List Int) (at_ k : Nat) (a : List Int) (some_ : Bool) (v : Nat) : Prop where
 bytes : ∀ b ∈ a, 0 ≤ b ∧ b < 256
 len : a.length = c.length
 sum : leN (nats a) = leN (nats c) ^^^ 2 ^ at_ * v
 small : v < 2 ^ k
 some_is : some_ = decide (v ≠ 0)
 none_is : v = 0 → a = c
theorem Turned.start {c : List Int} (hb : ∀ b ∈ c, 0 ≤ b ∧ b < 256) (at_ : Nat) : Turned c at_ 0 c false 0 :=
 ⟨hb, rfl, by simp, by decide, by decide, fun _ => rfl⟩
theorem Turned.skip {c a : List Int} {at_ k v : Nat} {s : Bool} (h : Turned c at_ k a s v) : Turned c at_ (k + 1) a s v :=
 ⟨h.bytes, h.len, h.sum, Nat.lt_of_lt_of_le h.small (Nat.pow_le_pow_right (by decide) (Nat.le_succ k)), h.some_is, h.none_is⟩
theorem Turned.turn {c a : List Int} {at_ k v : Nat} {s : Bool} (h : Turned c at_ k a s v) (hi : (at_ + k) / 8 < c.length) : Turned c at_ (k + 1) (flipI a (at_ + k)) true (v ^^^ 2 ^ k) := by
 obtain ⟨f1, f2, f3⟩ := flip_ok h.bytes (at_ + k) (by rw [h.len]; exact hi)
 have hv : v ^^^ 2 ^ k ≠ 0 := by
  intro hz
  have h1 : (v ^^^ 2 ^ k).testBit k = false := by rw [hz]; exact Nat.zero_testBit k
  rw [Nat.testBit_xor, Nat.testBit_lt_two_pow h.small, Nat.testBit_two_pow_self] at h1
  exact absurd h1 (by decide)
 refine ⟨f1, f2.trans h.len, ?_, Nat.xor_lt_two_pow (Nat.lt_of_lt_of_le h.small (Nat.pow_le_pow_right (by decide) (Nat.le_succ k))) (Nat.pow_lt_pow_right (by decide) (Nat.lt_succ_self k)), ?_, fun hz => absurd hz hv⟩
 · rw [f3, h.sum, Nat.xor_assoc, Nat.pow_add]
   congr 1
   apply Nat.eq_of_testBit_eq
   intro j
   rw [Nat.testBit_xor, Nat.testBit_two_pow_mul, Nat.testBit_two_pow_mul, Nat.testBit_two_pow_mul, Nat.testBit_xor]
   cases decide (j ≥ at_) <;> simp
 · exact (decide_eq_true hv).symm
theorem Turned.told {c a : List Int} {at_ v : Nat} {s : Bool} (h : Turned c at_ 32 a s v) (hb : ∀ b ∈ c, 0 ≤ b ∧ b < 256) (hc : c.length = 4096) (hat : at_ ≤ 32768) (ho : (openR c).2 = 0) :
 s = true ∧ openR a = ([], 22) ∨ s = false ∧ a = c := by
 by_cases hv : v = 0
 · right
   exact ⟨by rw [h.some_is]; simp [hv], h.none_is hv⟩
 · left
   exact ⟨by rw [h.some_is]; simp [hv], open_not h.bytes (h.len.trans hc) (burst (valid_of hb ho) hat h.small hv h.sum)⟩
theorem flips_told {c : List Int} {i j : Nat} (hb : ∀ b ∈ c, 0 ≤ b ∧ b < 256) (hc : c.length = 4096) (hi : i < 32768) (hj : j < 32768) (ho : (openR c).2 = 0) :
 i ≠ j ∧ openR (flipI (flipI c i) j) = ([], 22) ∨ i = j ∧ flipI (flipI c i) j = c := by
 obtain ⟨f1, f2, f3⟩ := flip_ok hb i (by omega)
 obtain ⟨g1, g2, g3⟩ := flip_ok f1 j (by rw [f2]; omega)
 by_cases e : i = j
 · right
   subst e
   refine ⟨rfl, ?_⟩
   have hi8 : i / 8 < c.length := by omega
   have hg : c.getD (i / 8) 0 = c[i / 8] := by rw [List.getD_eq_getElem?_getD, List.getElem?_eq_getElem hi8]; rfl
   have h0 := hb _ (List.getElem_mem hi8)
   obtain ⟨b, hb2⟩ : ∃ b : Nat, c[i / 8] = (b : Int) := ⟨(c[i / 8]).toNat, by omega⟩
   have hb3 : b < 256 := by omega
   have e1 : Go.bits .xor .u8 ((b : Nat) : Int) (2 ^ (i % 8)) = ((b ^^^ 2 ^ (i % 8) : Nat) : Int) := u8_xor_nat b (2 ^ (i % 8)) hb3 pow8
   have hx : b ^^^ 2 ^ (i % 8) < 2 ^ 8 := Nat.xor_lt_two_pow hb3 pow8
   have e2 : Go.bits .xor .u8 ((b ^^^ 2 ^ (i % 8) : Nat) : Int) (2 ^ (i % 8)) = ((b : Nat) : Int) := by
    have := u8_xor_nat (b ^^^ 2 ^ (i % 8)) (2 ^ (i % 8)) hx pow8
    rw [Nat.xor_assoc, Nat.xor_self, Nat.xor_zero] at this
    exact this
   unfold flipI
   rw [hg, hb2, e1, List.set_set]
   have hg2 : (c.set (i / 8) ((b ^^^ 2 ^ (i % 8) : Nat) : Int)).getD (i / 8) 0 = ((b ^^^ 2 ^ (i % 8) : Nat) : Int) := by
    rw [List.getD_eq_getElem?_getD, List.getElem?_set_self hi8]; rfl
   rw [hg2, e2, ← hb2, List.set_getElem_self]
 · left
   refine ⟨e, open_not g1 ((g2.trans f2).trans hc) ?_⟩
   have hs : leN (nats (flipI (flipI c i) j)) = leN (nats c) ^^^ (2 ^ i ^^^ 2 ^ j) := by rw [g3, f3, Nat.xor_assoc]
   rcases Nat.lt_or_gt_of_ne e with h | h
   · exact two_bits (valid_of hb ho) h hj hs
   · exact two_bits (valid_of hb ho) h hi (by rw [hs, Nat.xor_comm (2 ^ i)])
end Go.Proofs.YtppjphghlclklaaGreatDoor.P
end
