/- Parts of a proof, laid together by a program of this session (slim.py). -/
import Derived.Test.YtppjphghlclklaaGreatDoorY11
import Derived.Test.YtppjphghlclklaaGreatDoorY15
import Derived.Test.YtppjphghlclklaaGreatDoorY5
import Derived.Deep.RegionLaw
set_option maxHeartbeats 8000000
set_option maxRecDepth 100000
section
namespace Go.Proofs.YtppjphghlclklaaGreatDoor.P
open Go.RowKit Go.Proofs.YtppjphghlclklaaGreatDoorW.PrintWords Go.Proofs.YtppjphghlclklaaGreatDoorW.PrintLast Go.Proofs.YtppjphghlclklaaGreatDoorW.PrintMore
attribute [local go_sem] max2_int min2_int max_two min_two max_three min_three max_four min_four
set_option linter.unusedVariables false
set_option linter.unusedSimpArgs false
theorem putN_uint16 (A0 : Option Addr) (n c0 : Nat) (L : List Int) (x : Int) (w : World) (hC : Kd.C (Kd.int .u8) w A0 n L) (hc0 : n ≤ c0) (hl : (n : Int) ≤ 70368744177664) (h0 : 0 ≤ x) (h1 : x < 65536) :
 Calls Tryz.prog 162 #[.slice A0 n c0, .int .u16 x] w (RowN w (n + 2) (L ++ leB 2 x)) := by
 have hn : L.length = n := hC.1
 subst hn
 exact (put_uint16 A0 c0 L x w hC hc0 hl h0 h1).mono fun e w' h => h.n (by rw [List.length_append, leB_length])
theorem key0 (l : List It) (h : 0 < l.length) : (l.head?.elim [] fun x => x.f0) = (rd_T77 l 0).f0 ∧ pre l ≤ ((rd_T77 l 0).f0).length := by
 match l, h with
 | x :: l', _ => exact ⟨rfl, pre_le (x :: l') x (List.mem_cons_self ..)⟩
def bodyAt (l : List It) (i : Nat) : List Int := (topL l ++ slotsL (pre l) ((topL l).length + 2 * l.length) (l.take i)) ++ zs (2 * (l.length - i)) ++ (cellsL (pre l) (l.take i) ++ zs (4092 - ((topL l).length + 2 * l.length + (cellsL (pre l) (l.take i)).length)))
theorem cellsL_take_le (p : Nat) (l : List It) (i : Nat) : (cellsL p (l.take i)).length ≤ (cellsL p l).length := by
 have h : cellsL p l = cellsL p (l.take i) ++ cellsL p (l.drop i) := by unfold cellsL; rw [← List.flatMap_append, List.take_append_drop]
 rw [h, List.length_append]
 omega
theorem take_it (l : List It) (i : Nat) (x : It) (h : x = rd_T77 l i) (hi : i < l.length) : l.take (i + 1) = l.take i ++ [x] := by
 rw [List.take_add_one, h, rd_item l i hi]
 simp [hi]
theorem rd_mem (l : List It) (i : Nat) (x : It) (h : x = rd_T77 l i) (hi : i < l.length) : x ∈ l := by
 rw [h, rd_item l i hi]
 exact List.getElem_mem hi
theorem cellBy_two (p : Nat) (x : It) : 2 ≤ (cellBy p x).length := by
 have h1 := vB_length 9 ((x.f0.length - p : Nat) : Int)
 have h2 := vB_length 9 (tagI x.f2)
 unfold cellBy
 simp only [List.length_append]
 omega
theorem bodyAt_length (l : List It) (i : Nat) (hi : i ≤ l.length) (h : (topL l).length + 2 * l.length + (cellsL (pre l) (l.take i)).length ≤ 4092) : (bodyAt l i).length = 4092 := by
 unfold bodyAt
 simp only [List.length_append, zs_length, slotsL_length, List.length_take]
 omega
theorem bodyAt_zero (l : List It) (h : (topL l).length + 2 * l.length ≤ 4092) : bodyAt l 0 = topL l ++ zs (4092 - (topL l).length) := by
 unfold bodyAt
 rw [List.take_zero, show slotsL (pre l) ((topL l).length + 2 * l.length) [] = [] from rfl, show cellsL (pre l) [] = [] from rfl, List.append_nil, List.nil_append, List.append_assoc]
 unfold zs
 rw [List.replicate_append_replicate]
 congr 2
 simp only [List.length_nil]
 omega
theorem bodyAt_end (l : List It) (h : sizeL l = (topL l).length + 2 * l.length + (cellsL (pre l) l).length) : bodyAt l l.length = leafBody l := by
 unfold bodyAt leafBody
 rw [List.take_length, Nat.sub_self, Nat.mul_zero, show zs 0 = [] from rfl, List.append_nil, h, List.append_assoc (topL l ++ _)]
theorem body_step (l : List It) (i : Nat) (x : It) (a b cl : Nat) (hi : i < l.length) (hx : x = rd_T77 l i) (ha : a = (topL l).length + 2 * i) (hb : b = (topL l).length + 2 * l.length + (cellsL (pre l) (l.take i)).length) (hc : cl = (cellBy (pre l) x).length) (hab : a + 2 ≤ b) (hf : b + cl ≤ 4092) :
 ((bodyAt l i).take a ++ leB 2 (b : Int) ++ (bodyAt l i).drop (a + 2)).take b ++ cellBy (pre l) x ++ ((bodyAt l i).take a ++ leB 2 (b : Int) ++ (bodyAt l i).drop (a + 2)).drop (b + cl) = bodyAt l (i + 1) := by
 have e1 : (bodyAt l i).take a ++ leB 2 (b : Int) ++ (bodyAt l i).drop (a + 2) = (topL l ++ slotsL (pre l) ((topL l).length + 2 * l.length) (l.take i)) ++ leB 2 (b : Int) ++ zs (2 * (l.length - i) - 2) ++ (cellsL (pre l) (l.take i) ++ zs (4092 - b)) := by
  have h := splice_mid (topL l ++ slotsL (pre l) ((topL l).length + 2 * l.length) (l.take i)) (leB 2 (b : Int)) (cellsL (pre l) (l.take i) ++ zs (4092 - b)) a 2 (2 * (l.length - i)) (by rw [List.length_append, slotsL_length, List.length_take]; omega) (leB_length 2 _) (by omega)
  rw [← h]
  unfold bodyAt
  rw [← hb]
 rw [e1]
 have e2 := splice_zero ((topL l ++ slotsL (pre l) ((topL l).length + 2 * l.length) (l.take i)) ++ leB 2 (b : Int) ++ zs (2 * (l.length - i) - 2) ++ cellsL (pre l) (l.take i)) (cellBy (pre l) x) b cl (4092 - b) (by simp only [List.length_append, slotsL_length, List.length_take, leB_length, zs_length]; omega) hc.symm (by omega)
 rw [← List.append_assoc _ (cellsL (pre l) (l.take i)), e2]
 unfold bodyAt
 rw [take_it l i x hx hi, slotsL_snoc, cellsL_snoc, ← hb, Int.emod_eq_of_lt (by omega) (by omega), List.length_append, ← hc, show 2 * (l.length - i) - 2 = 2 * (l.length - (i + 1)) by omega, show 4092 - ((topL l).length + 2 * l.length + ((cellsL (pre l) (l.take i)).length + cl)) = 4092 - b - cl by omega]
 simp only [List.append_assoc]
theorem leaf_Encode.calls (A0 : Option Addr) (c0 : Nat) (l0 : List It) (w : World) (hr0 : Kd.C k77 w A0 l0.length l0) (hc0 : l0.length ≤ c0) (hs : Small l0) :
 Calls Tryz.prog 67 #[.slice A0 l0.length c0] w (EncPost w (encLeafR l0)) := by
 obtain ⟨k1, hk1⟩ := (may_f l0 hs.1).rounds
 have HM := Aside0.mk (leaf_may.calls k1 A0 c0 l0 _ w hr0 hc0 hk1)
 obtain ⟨R, hR⟩ : ∃ R, encLeafR l0 = R := ⟨_, rfl⟩
 rw [hR]
 unfold encLeafR at hR
 have HR := Aside0.mk hR
 clear hR
 by_cases c1 : mayR l0 = 0
 · rw [c1] at HM
   obtain ⟨k2, hk2⟩ := (size_f l0 hs).rounds
   have HSZ := Aside0.mk (fun (W : World) (hW : Below w.heap.size w W) => leaf_Size.calls k2 A0 c0 l0 _ W (Kd.C_below hr0 hW) hc0 hk2)
   by_cases c2 : sizeL l0 ≤ 4092
   · have hR := HR.out
     rw [if_pos c1, if_pos c2] at hR
     subst hR
     have d2 : decide ((4092 : Int) < (sizeL l0 : Int)) = false := decide_eq_false (by omega)
     obtain ⟨k3, hk3⟩ := (prefix_f l0 hs).rounds
     have HPF := Aside0.mk (fun (W : World) (hW : Below w.heap.size w W) => leaf_prefix.calls k3 (fun k_ => k_ < W.heap.size) A0 c0 l0 _ W (Kd.V_mk hc0 (Kd.C_F k77_heap (Kd.C_below hr0 hW))) hk3)
     obtain ⟨hn0, h1, h2, _⟩ := mayR_zero c1
     have hse := size_eq l0 hs c1
     have htl := topL_length l0 hs hn0
     obtain ⟨ad, rfl⟩ : ∃ ad, A0 = some ad := by obtain ⟨ad, h, _⟩ := hr0.2.2 hn0; exact ⟨ad, h⟩
     obtain ⟨ad', Ak, ck, Av, cv, he0, hx0, _, _, _, hlk, hCk, _, _⟩ := at_T77 hr0 0 (by omega) (by omega)
     obtain rfl : ad = ad' := by injection he0
     simp only [Int.toNat_zero, Nat.zero_mul, Addr.add_zero'] at hx0
     obtain ⟨key, hkey⟩ : ∃ key, key = (rd_T77 l0 0).f0 := ⟨_, rfl⟩
     rw [← hkey] at hx0 hlk hCk
     have hkey2 := (key0 l0 hn0).1
     have hpk := (key0 l0 hn0).2
     rw [← hkey] at hkey2 hpk
     obtain ⟨p, hp⟩ : ∃ p, p = pre l0 := ⟨_, rfl⟩
     obtain ⟨n, hn⟩ : ∃ n, n = l0.length := ⟨_, rfl⟩
     have hn16 : n ≤ 2046 := by omega
     have hp16 : p ≤ 4092 := by omega
     obtain ⟨i0, hi0, _, hsz, _⟩ := info_parts info5
     have hcutk := cut_to (P := Tryz.prog) 25 5 .i64 Tryz.underlying25 hi0 Ak key.length ck (p : Int) (by omega) (by omega) hlk
     rw [Int.toNat_natCast] at hcutk
     have hkt : Kd.C (Kd.int .u8) w Ak p (key.take p) := by
      have h := Kd.C_take (m := p) hCk (by omega)
      rwa [List.length_take, Nat.min_eq_left (by omega)] at h
     have htop : [1] ++ leB 2 ((n : Int) % 65536) ++ vB 9 (p : Int) ++ key.take p = topL l0 := by unfold topL; rw [hkey2, ← hp, ← hn]
     have e16 : IntKind.u16.wrap (n : Int) = (n : Int) % 65536 := IntKind.wrap_u16 _
     have e64 : IntKind.u64.wrap (p : Int) = (p : Int) := u64_id _ (by omega) (by omega)
     have hvl := vB_length 9 (p : Int)
     have HE16 := Aside0.mk e16
     have HHX := Aside0.mk hx0
     have HKT := Aside0.mk hkt
     have HTOP := Aside0.mk htop
     have HRI := Aside0.mk hr0
     have HVL := Aside0.mk hvl
     have HNP := Aside0.mk (And.intro hn16 hp16)
     have HAL := Aside0.mk (And.intro h1 h2)
     have HSE := Aside0.mk (And.intro hse c2)
     have HPN := Aside0.mk (And.intro hp hn)
     have HSM := Aside0.mk hs
     have HTL := Aside0.mk htl
     have HI0 := Aside0.mk (And.intro hi0 hsz)
     have hpos := Int.natCast_pos.mpr (hn ▸ hn0)
     rw [← hp] at HPF
     rw [← hn]
     clear hr0 hc0 hs hk1 hk2 hk3 c1 c2 HR hn0 h1 h2 hse htl he0 hx0 hCk hkey hkey2 hpk hkt htop hvl hn16 hp16 hp hi0 hsz
     have HM' := HM
     rw [← hn] at HM'
     have HSZ' := HSZ
     rw [← hn] at HSZ' HPF
     clear HM HSZ hn
     go_enter Tryz.func67, Tryz.ntmps67
     go_wp2_with fail
     refine HM'.out.mono ?_
     rintro e w1 ⟨rfl, hb⟩
     have HB1 := Aside0.mk hb
     clear hb HM'
     go_wp2_with fail
     refine (HSZ'.out _ HB1.out).mono ?_
     rintro e w2 ⟨rfl, hb⟩
     have HB2 := Aside0.mk (below_step HB1.out hb)
     clear hb HSZ' HB1
     go_wp2_with fail
     refine (HPF.out _ HB2.out).mono ?_
     rintro e w3 ⟨rfl, hb⟩
     have HB3 := Aside0.mk (below_step HB2.out hb)
     have HP16 := Aside0.mk (putN_uint16 (some ⟨w3.heap.size, 0, none⟩) 1 1 [1] ((n : Int) % 65536) (w3.alloc (.cells #[.int .u8 1] 5)) (lit_C w3 5 1) (Nat.le_refl _) (by decide) (by omega) (by omega))
     clear hb HPF HB2
     go_wp2_with fail
     refine HP16.out.mono ?_
     rintro e w4 ⟨A4, c4, rfl, hl4, hC4, hb⟩
     have HB4 := Aside0.mk (below_step (below_alloc HB3.out _) hb)
     have HPV := Aside0.mk (put_V A4 c4 ([1] ++ leB 2 ((n : Int) % 65536)) (p : Int) w4 hC4 hl4 (by simp [leB_length]) (by omega) (by have := HNP.out; omega))
     have HLL := Aside0.mk (show ([1] ++ leB 2 ((n : Int) % 65536)).length = 3 by simp [leB_length])
     clear hb HP16 HB3 hl4 hC4
     rw [HLL.out] at HPV
     go_wp2_with fail
     refine HPV.out.mono ?_
     rintro e w5 ⟨v6, rfl, hR5, hb⟩
     have hC5 := Kd.C_below HKT.out (below_step HB4.out hb)
     have HB5 := Aside0.mk (below_step HB4.out hb)
     have HR5 := Aside0.mk (Kd.R_lower hR5 HB4.out.size)
     have HC5 := Aside0.mk hC5
     have hx5 := pw_cell_below HB5.out HHX.out
     have HL5 := Aside0.mk (show (([1] ++ leB 2 ((n : Int) % 65536) ++ vB 9 (p : Int)).length + p) * 1 ≤ 140737488355328 by
      have h1 := HVL.out
      have h2 := HNP.out
      have h3 := HLL.out
      rw [List.length_append]
      omega)
     clear hb HPV HB4 hR5 hC5
     obtain ⟨T, hT⟩ : ∃ T, T = (topL l0).length := ⟨_, rfl⟩
     have HT := Aside0.mk hT
     go_upto_region 10 with (first
      | ((with_reducible refine gate_builtin (b := .append) (xs := #[.tmp 30, .tmp 36]) rfl ?_); at_builtin; refine Kd.R_append_rows (Kd.int .u8) (w0 := w) w.heap.size rfl (.tmp 30) (.tmp 36) 25 5 (.int .u8 0) 1 rfl Tryz.underlying25 info5 rfl (by decide) (by omega) v6 ([1] ++ leB 2 ((n : Int) % 65536) ++ vB 9 (p : Int)) (key.take p) Ak p ck (fun _ => True) (fun _ => False) rfl rfl HR5.out HC5.out (fun _ _ h => h) (fun _ h => h.elim) (fun _ _ => trivial) HB5.out HB5.out.size HL5.out ?_; intro v7 w6 ho hb6 hg hat; rw [HTOP.out] at ho; obtain ⟨A6, c6, hv6, hl6, hC6⟩ := Kd.R_reads ho; subst hv6; have HC6 := Aside0.mk hC6; have HB6 := Aside0.mk hb6; clear ho hb6 hg hat hl6 hC6 HR5 HC5 HB5 HL5)
      | ((with_reducible refine gate_dst (N := 38) rfl ?_); refine make_full (w0 := w) (base := w.heap.size) rfl (N := 38) rfl 25 _ _ rfl 4092 4092 rfl rfl Tryz.underlying25 info5 (by decide) (by decide) (by decide) HB6.out HB6.out.size ?_; intro w7 hF hb hg; rw [show (4092 : Int).toNat = 4092 from rfl] at hF; have HF7 := Aside0.mk hF; have HB7 := Aside0.mk hb; have HC7 := Aside0.mk (Kd.C_below HC6.out (below_of_grown_none hg)); clear hF hb hg))
     have hn2 := HNP.out.1; have hTx := HT.out; clear hT; have hT4 : T ≤ 4092 := (by have h1 := HSE.out; omega); clear hTx
     rw [← HT.out]
     have HC7' := HC7.out
     rw [← HT.out] at HC7'
     have HC8 := Aside0.mk HC7'
     clear HC7' HC7
     have e1 : T + 2 * n ≤ 12276 := by omega
     have ek : min T 4092 = T := Nat.min_eq_left hT4
     go_upto_region 11 with (first
      | ((with_reducible refine gate_builtin (b := .copy) (xs := #[.tmp 39, .tmp 40]) rfl ?_); refine copy_full (w0 := w) (base := w.heap.size) rfl (.tmp 39) (.tmp 40) 25 25 rfl Tryz.underlying25 info5 (zs 4092) (topL l0) A6 T c6 rfl rfl HF7.out (by rw [zs_length]; decide) HC8.out (by rw [zs_length, ek]; omega) HB7.out HB6.out.size ?_; intro w8 hF hb hg; rw [lay_first (topL l0) 4092 T HT.out.symm hT4] at hF; rw [ek]; have HF8 := Aside0.mk hF; have HB8 := Aside0.mk hb; clear hF hb hg HF7 HB7 HC8))
     have HN0 := Aside0.mk hpos
     have HNB := Aside0.mk (And.intro hn2 hT4)
     clear hcutk hpos ek HKT HHX HVL HTOP HLL hx5 hlk e16 e64 HE16 hn2
     obtain ⟨G, hG⟩ : ∃ G, w6.heap.size = G := ⟨_, rfl⟩
     rw [hG]
     rw [hG] at HF8
     have hBG := HB6.out.size
     rw [hG] at hBG
     have HBG := Aside0.mk hBG
     clear hBG HB6 HC6
     have HB := Aside0.mk HB8.out
     clear HB8
     go_wp2_with (fail)
     go_loopg [8, 9, 50] n (fun kq v8 v9 v50 w' => ∃ (i a b : Nat), v8 = .int .i64 a ∧ v9 = .int .i64 b ∧ v50 = .int .i64 i ∧ i + kq = n ∧ Aside0 (a = T + 2 * i ∧ b = T + 2 * n + (cellsL p (l0.take i)).length) ∧ Aside0 (Full 5 w' G (bodyAt l0 i)) ∧ Aside0 (Below w.heap.size w w'))
     case atStart =>
      refine ⟨0, T, T + 2 * n, rfl, congrArg (Value.int .i64) (by omega), rfl, by omega, ⟨by omega, by simp [cellsL]⟩, ?_, HB⟩
      refine ⟨?_⟩
      rw [bodyAt_zero l0 (by have := HSE.out; omega), ← HT.out]
      exact HF8.out
     case round =>
      clear HF8 HB
      obtain ⟨i, a, b, rfl, rfl, rfl, hk, HAB, HF, HB⟩ := hrel
      cases gk with
      | zero =>
       obtain rfl : i = n := by omega
       have cd1 : decide ((i : Int) < (i : Int)) = false := decide_eq_false (by omega)
       have cd2 : decide (i < i) = false := decide_eq_false (by omega)
       clear hk
       go_wp2
       go_ret2
       rw [show bodyAt l0 i = leafBody l0 by rw [HPN.out.2]; exact bodyAt_end l0 HSE.out.1] at HF
       have hlen : (leafBody l0).length = 4092 := by rw [← bodyAt_end l0 HSE.out.1]; exact bodyAt_length l0 _ (Nat.le_refl _) (by have h10 := HSE.out; rw [List.take_length]; omega)
       have hR := HF.out.R (base := w.heap.size) (ok := fun _ => True) HBG.out trivial 4092 (by omega) (by rw [hlen]; decide)
       rw [List.take_of_length_le (by omega), hlen] at hR
       exact ⟨_, rfl, hR, HB.out⟩
      | succ m =>
       have cd1 : decide ((i : Int) < (n : Int)) = true := decide_eq_true (by omega)
       have cd2 : decide (i < n) = true := decide_eq_true (by omega)
       have hin : i < n := by omega
       obtain ⟨ad', Ak, ck, Av, cv, he0, hx0, hx1, hx2, hx3, hlk, hCk, hlv, hCv⟩ := at_T77 HRI.out i (by omega) (by have := HPN.out.2; omega)
       obtain rfl : ad = ad' := by injection he0
       rw [Int.toNat_natCast] at hx0 hx1 hx2 hx3
       obtain ⟨x, hx⟩ : ∃ x, x = rd_T77 l0 i := ⟨_, rfl⟩
       rw [← hx] at hx0 hx1 hx2 hx3 hlk hCk hlv hCv
       have HX := Aside0.mk hx
       have HCK := Aside0.mk (And.intro hlk hCk)
       have HCV := Aside0.mk (And.intro hlv hCv)
       clear hx hlk hCk hlv hCv he0
       have y0 := pw_cell_below HB.out hx0
       have y1 := pw_cell_below HB.out hx1
       have y2 := pw_cell_below HB.out hx2
       have y3 := pw_cell_below HB.out hx3
       clear hx0 hx1 hx2 hx3
       go_upto_region 14 with (fail)
       obtain ⟨ob, hob⟩ : ∃ ob, ob = Obj.cells #[Value.slice Ak x.f0.length ck, Value.slice Av x.f1.length cv, Value.int IntKind.i64 x.f2, Value.int IntKind.i64 x.f3] 77 := ⟨_, rfl⟩
       rw [← hob]
       obtain ⟨wI, hwI⟩ : ∃ wI, wI = wr.alloc ob := ⟨_, rfl⟩
       rw [← hwI]
       have HGI : Aside0 (wI.heap[wr.heap.size]? = some ob) := ⟨by rw [hwI]; exact heap_alloc_new wr _⟩
       have HBI : Aside0 (Below w.heap.size w wI) := ⟨by rw [hwI]; exact below_alloc HB.out ob⟩
       have HFI : Aside0 (Full 5 wI G (bodyAt l0 i)) := ⟨by rw [hwI]; exact HF.out.alloc ob⟩
       have HGL := Aside0.mk (HF.out.lt)
       have HOB := Aside0.mk hob
       obtain ⟨gI, hgI⟩ : ∃ gI, wr.heap.size = gI := ⟨_, rfl⟩
       rw [hgI] at HGI HGL ⊢
       clear hob hwI HF HB y0 y1 y2 y3 hgI
       have ha2 : a + 2 ≤ 4092 := by have := HAB.out.1; have := HSE.out; have := HT.out; have := HPN.out.2; omega
       have hb2 : b ≤ 4092 := by have := HAB.out.2; have := HSE.out; have := HT.out; have := HPN.out; have h9 := cellsL_take_le p l0 i; have h10 := HSE.out; rw [← this.1] at h10; omega
       have hlb : (bodyAt l0 i).length = 4092 := bodyAt_length l0 i (by have := HPN.out.2; omega) (by have h9 := cellsL_take_le (pre l0) l0 i; have h10 := HSE.out; omega)
       have HLB := Aside0.mk hlb
       have HHB := Aside0.mk hb2
       clear hlb
       obtain ⟨hi0, hsz⟩ := HI0.out
       have hcA : ∀ W, (Instr.slice 25 (.slice (some ⟨G, 0, none⟩) 4092 4092) (some (.int .i64 a)) none none).run Tryz.prog W = .ok (.slice (some ⟨G, a, none⟩) (4092 - a) (4092 - a)) W := fun W => by
        have h := cut_from (P := Tryz.prog) 25 5 .i64 Tryz.underlying25 hi0 1 hsz (some ⟨G, 0, none⟩) 4092 4092 (a : Int) (by omega) (by omega) W
        rw [if_neg (by omega), Int.toNat_natCast, Nat.mul_one] at h
        rw [h, Option.map_some, add_at, Nat.zero_add]
       clear hi0 hsz
       have hb16 : IntKind.u16.wrap (b : Int) = b := by rw [IntKind.wrap_u16]; omega
       have HP : Aside0 (∀ W, Calls Tryz.prog 162 #[.slice none 0 0, .int .u16 b] W (RowN W 2 (leB 2 b))) := ⟨fun W => putN_uint16 none 0 0 [] b W (Kd.C_nil _ _) (Nat.le_refl _) (by omega) (by omega) (by omega)⟩
       clear hb2
       go_cut [8] (fun v8 wc => v8 = .int .i64 ((a + 2 : Nat) : Int) ∧ Aside0 (Full 5 wc G ((bodyAt l0 i).take a ++ leB 2 b ++ (bodyAt l0 i).drop (a + 2))) ∧ Aside0 (Below w.heap.size w wc) ∧ Aside0 (wc.heap[gI]? = some ob))
       case first =>
        go_region_with (go_at_call 162; refine (HP.out _).mono ?_; rintro e w4 ⟨A7, c7, rfl, hl7, hC7, hB7⟩; have HF4 := Aside0.mk ((Full.step HFI.out (W1 := wI.drew) rfl).below hB7); obtain ⟨w6', hrun, hF6, hg6⟩ := copy_full_run Tryz.prog 25 25 3 (dl := 4092 - a) (dc := 4092 - a) (off := a) Tryz.underlying25 info5 (bodyAt l0 i) (leB 2 (b : Int)) A7 2 c7 HF4.out (by rw [HLB.out]; decide) hC7 (by rw [HLB.out, Nat.min_eq_left (by omega)]; omega); rw [Nat.min_eq_left (by omega)] at hrun hF6; have hbz := below_step (below_drew1 HBI.out) hB7; have HZ : Aside0 (Below w.heap.size w w6' ∧ w6'.heap[gI]? = some ob) := ⟨hbz.grown hg6 hbz.size (fun k hk => by injection hk with hk; have := HBG.out; omega), (hg6.block gI (by have := hB7.size; have := blk_lt HGI.out; exact Nat.lt_of_lt_of_le this hB7.size) (fun e => by injection e with e; have := HGL.out; omega)).trans ((hB7.block gI (blk_lt HGI.out)).trans HGI.out)⟩; have HF6 := Aside0.mk hF6; clear hF6 hg6 hB7 hl7 hC7 HF4 hbz)
        all_goals
         go_wp2
         go_meet
         case rel => exact ⟨congrArg (Value.int .i64) (by rw [IntKind.wrap_i64]; omega), HF6, ⟨HZ.out.1⟩, ⟨HZ.out.2⟩⟩
       case rest =>
        clear hcA hb16 HP HFI HBI HGI
        obtain ⟨rfl, HF7, HB7, HG7⟩ := hcut
        obtain ⟨wJ, rfl⟩ : ∃ x : World, x = wc := ⟨_, rfl⟩
        obtain ⟨B1, hB1⟩ : ∃ B1, B1 = (bodyAt l0 i).take a ++ leB 2 (b : Int) ++ (bodyAt l0 i).drop (a + 2) := ⟨_, rfl⟩
        have hb1l : B1.length = 4092 := by rw [hB1, List.length_append, List.length_append, List.length_take, List.length_drop, leB_length, HLB.out]; omega
        rw [← hB1] at HF7
        have HB1 := Aside0.mk hB1
        have HL1 := Aside0.mk hb1l
        clear hB1 hb1l
        obtain ⟨cl, hcl⟩ : ∃ cl, cl = (cellBy p x).length := ⟨_, rfl⟩
        have hxm : x ∈ l0 := rd_mem l0 i x HX.out (by have := HPN.out.2; omega)
        have hx1 := List.all_eq_true.1 HAL.out.1 x hxm
        have hx2 := List.all_eq_true.1 HAL.out.2 x hxm
        have hpx : p ≤ x.f0.length := by rw [HPN.out.1]; exact pre_le l0 x hxm
        have hfit : b + cl ≤ 4092 ∧ 2 ≤ cl := by
         refine ⟨?_, by rw [hcl]; exact cellBy_two p x⟩
         have h9 := cellsL_take_le p l0 (i + 1)
         rw [take_it l0 i x HX.out (by have := HPN.out.2; omega), cellsL_snoc, List.length_append, ← hcl] at h9
         have h10 := HSE.out
         rw [← HPN.out.1, ← HPN.out.2, ← HT.out] at h10
         have := HAB.out.2
         omega
        obtain ⟨k4, hk4⟩ := (cell_ev p x hx1 hx2 hpx).rounds
        clear hx1 hx2 hpx hxm
        have HC := Aside0.mk (fun (W : World) (hW : Below w.heap.size w W) => leaf_cell.calls k4 Ak ck x.f0 Av cv x.f1 x.f2 x.f3 p _ W (Kd.C_below HCK.out.2 hW) HCK.out.1 (Kd.C_below HCV.out.2 hW) HCV.out.1 hk4)
        have HCL := Aside0.mk hcl
        have HTK : Aside0 (cellsL p (l0.take (i + 1)) = cellsL p (l0.take i) ++ cellBy p x) := ⟨by rw [take_it l0 i x HX.out (by have := HPN.out.2; omega), cellsL_snoc]⟩
        have HNX : Aside0 (B1.take b ++ cellBy p x ++ B1.drop (b + cl) = bodyAt l0 (i + 1)) := ⟨by
         have h := body_step l0 i x a b cl (by have := HPN.out.2; omega) HX.out (by rw [← HT.out, HAB.out.1]) (by rw [← HPN.out.2, ← HPN.out.1, ← HT.out, HAB.out.2]) (by rw [HCL.out, ← HPN.out.1]) (by have := HAB.out.1; have := HAB.out.2; omega) (by omega)
         rw [HB1.out, HPN.out.1]
         exact h⟩
        have hcB : ∀ W, (Instr.slice 25 (.slice (some ⟨G, 0, none⟩) 4092 4092) (some (.int .i64 b)) none none).run Tryz.prog W = .ok (.slice (some ⟨G, b, none⟩) (4092 - b) (4092 - b)) W := fun W => by
         have h := cut_from (P := Tryz.prog) 25 5 .i64 Tryz.underlying25 HI0.out.1 1 HI0.out.2 (some ⟨G, 0, none⟩) 4092 4092 (b : Int) (by omega) (by omega) W
         rw [if_neg (by omega), Int.toNat_natCast, Nat.mul_one] at h
         rw [h, Option.map_some, add_at, Nat.zero_add]
        have hbx : wJ.heap[gI]? = some (Obj.cells #[Value.slice Ak x.f0.length ck, Value.slice Av x.f1.length cv, Value.int IntKind.i64 x.f2, Value.int IntKind.i64 x.f3] 77) := HG7.out.trans (congrArg some HOB.out)
        have z0 := (blk_cell hbx 0).trans rfl
        have z1 := (blk_cell hbx 1).trans rfl
        have z2 := (blk_cell hbx 2).trans rfl
        have z3 := (blk_cell hbx 3).trans rfl
        clear hbx hk4 hcl
        go_upto_region 15 with (fail)
        go_region_with (go_at_call 163; refine (HC.out _ (below_drew1 HB7.out)).mono ?_; rintro e w4 ⟨v7, rfl, hR7, hB7⟩; obtain ⟨A7, c7, hv, hl7, hC7⟩ := Kd.R_reads hR7; subst hv; rw [← HCL.out] at hC7 hl7 ⊢; have HF4 := Aside0.mk ((Full.step HF7.out (W1 := wJ.drew) rfl).below hB7); obtain ⟨w6', hrun, hF6, hg6⟩ := copy_full_run Tryz.prog 25 25 3 (dl := 4092 - b) (dc := 4092 - b) (off := b) Tryz.underlying25 info5 B1 (cellBy p x) A7 cl c7 HF4.out (by rw [HL1.out]; decide) hC7 (by rw [HL1.out, Nat.min_eq_left (by omega)]; omega); rw [Nat.min_eq_left (by omega)] at hrun hF6; rw [List.take_of_length_le (Nat.le_of_eq HCL.out.symm)] at hF6; have hbz := below_step (below_drew1 HB7.out) hB7; have HZ : Aside0 (Below w.heap.size w w6') := ⟨hbz.grown hg6 hbz.size (fun k hk => by injection hk with hk; have := HBG.out; omega)⟩; have HF6 := Aside0.mk hF6; clear hF6 hg6 hB7 hR7 hl7 hC7 HF4 hbz)
        all_goals
         go_wp2
         go_roundg m
         case measure => omega
         case rel =>
          exact ⟨i + 1, a + 2, b + cl, congrArg (Value.int .i64) (by omega), congrArg (Value.int .i64) (by omega), congrArg (Value.int .i64) (by omega), by omega, ⟨by have := HAB.out.1; omega, by rw [HTK.out, List.length_append, ← HCL.out]; have := HAB.out.2; omega⟩, ⟨by rw [← HNX.out]; exact HF6.out⟩, HZ⟩
   · obtain rfl : (([] : List Int), (42 : Int)) = R := by rw [← HR.out, if_pos c1, if_neg c2]
     have d2 : decide ((4092 : Int) < (sizeL l0 : Int)) = true := decide_eq_true (by omega)
     clear hr0 hc0 hs hk1 hk2 c1 c2 HR
     go_enter Tryz.func67, Tryz.ntmps67
     go_wp2_with fail
     refine HM.out.mono ?_
     rintro e w1 ⟨rfl, hb⟩
     have HB1 := Aside0.mk hb
     clear hb HM
     go_wp2_with fail
     refine (HSZ.out _ HB1.out).mono ?_
     rintro e w2 ⟨rfl, hb⟩
     have HB2 := Aside0.mk (below_step HB1.out hb)
     clear hb HSZ HB1
     go_wp2
     go_ret2
     exact ⟨_, rfl, Kd.R_nil _ _ _ _ _, HB2.out⟩
 · obtain rfl : (([] : List Int), mayR l0) = R := by rw [← HR.out, if_neg c1]
   obtain ⟨m, hm⟩ : ∃ m, mayR l0 = m := ⟨_, rfl⟩
   rw [hm] at c1 HM ⊢
   have d1 : (m == 0) = false := beq_eq_false_iff_ne.mpr c1
   have d2 : (m != 0) = true := bne_iff_ne.mpr c1
   clear hr0 hc0 hs hk1 hm c1 HR
   go_enter Tryz.func67, Tryz.ntmps67
   go_wp2_with fail
   refine HM.out.mono ?_
   rintro e w1 ⟨rfl, hb⟩
   have HB1 := Aside0.mk hb
   clear hb HM
   go_wp2
   go_ret2
   exact ⟨_, rfl, Kd.R_nil _ _ _ _ _, HB1.out⟩
end Go.Proofs.YtppjphghlclklaaGreatDoor.P
end
section
namespace Go.Proofs.YtppjphghlclklaaGreatDoor.P
open Go.RowKit Go.Proofs.YtppjphghlclklaaGreatDoorW.PrintWords Go.Proofs.YtppjphghlclklaaGreatDoorW.PrintLast Go.Proofs.YtppjphghlclklaaGreatDoorW.PrintMore
set_option linter.unusedVariables false
set_option linter.unusedSimpArgs false
section
variable {P : Program} {o : Oper} {ops : Array Oper} {rest : List Oper} {Q : Exit → Act → World → Prop} {a : Act} {W : World}
theorem alloc_arr {N : Tmp} (hgd : o.guard = none) (_hd : o.dst = some N) (t : TypeId) (ho : o.op = .alloc t) (n : Nat) (hz : (P.info? t).map (fun i => i.zero) = some (some (.agg (Array.replicate n (.int .u8 0)))))
 (h : ∀ w1, Full t w1 W.heap.size (zs n) → Below W.heap.size W w1 → wpList P ops Q rest (a.put o.dst (.pointer (some ⟨W.heap.size, 0, none⟩))) w1) : wpList P ops Q (o :: rest) a W := by
 obtain ⟨i0, hi, hzz⟩ := Option.map_eq_some_iff.1 hz
 refine Kd.event_run hgd (w1 := W.alloc (.cells (Array.replicate n (.int .u8 0)) t)) (v := .pointer (some ⟨W.heap.size, 0, none⟩)) ?_ (h _ ⟨_, heap_alloc_new W _, ?_⟩ (below_alloc (Below.refl _ _) _))
 · simp [execOp, ho, Instr.alloc, zeroValue, typeInfo, hi, hzz, newVar, newRow]
   rfl
 · simp [zs]
theorem sliceAt_hm (t e : TypeId) (n : Nat) {i : TypeInfo} (ht : P.underlying t = some (.array n e)) (hi : P.info? e = some i) (hs : i.size = 1) (g : Nat) (h m : Nat) (h1 : h ≤ m) (h2 : m ≤ n) :
 ∀ W : World, (Instr.sliceAt t (.pointer (some ⟨g, 0, none⟩)) none (some (.int .i64 h)) (some (.int .i64 m))).run P W = .ok (.slice (some ⟨g, 0, none⟩) h m) W := by
 intro W
 have c1 : m ≤ n := h2
 have c2 : h ≤ m := h1
 have c3 : (⟨g, 0, none⟩ : Addr).add 0 = ⟨g, 0, none⟩ := add_at g 0 0
 simp [Instr.sliceAt, underlying, ht, Instr.sureAddr, Instr.sliceBounds, Instr.sliceBound, asIntOf, sizeOf, typeInfo, hi, hs, c1, c2, c3, Result.andThen]
theorem sliceAt_l (t e : TypeId) (n : Nat) {i : TypeInfo} (ht : P.underlying t = some (.array n e)) (hi : P.info? e = some i) (hs : i.size = 1) (g : Nat) (l : Nat) (h1 : l < n) :
 ∀ W : World, (Instr.sliceAt t (.pointer (some ⟨g, 0, none⟩)) (some (.int .i64 l)) none none).run P W = .ok (.slice (some ⟨g, l, none⟩) (n - l) (n - l)) W := by
 intro W
 have c1 : l ≤ n := by omega
 have c2 : ¬ n = l := by omega
 simp [Instr.sliceAt, underlying, ht, Instr.sureAddr, Instr.sliceBounds, Instr.sliceBound, asIntOf, sizeOf, typeInfo, hi, hs, c1, c2, Result.andThen, add_at]
theorem sliceAt_all (t e : TypeId) (n : Nat) {i : TypeInfo} (ht : P.underlying t = some (.array n e)) (hi : P.info? e = some i) (hs : i.size = 1) (g : Nat) :
 ∀ W : World, (Instr.sliceAt t (.pointer (some ⟨g, 0, none⟩)) none none none).run P W = .ok (.slice (some ⟨g, 0, none⟩) n n) W := by
 intro W
 simp [Instr.sliceAt, underlying, ht, Instr.sureAddr, Instr.sliceBounds, Instr.sliceBound, asIntOf, sizeOf, typeInfo, hi, hs, Result.andThen, add_at]
end
theorem under_arr : Tryz.prog.underlying 173 = some (.array 4092 5) := by kernel_rfl
theorem zero_arr : (Tryz.prog.info? 173).map (fun i => i.zero) = some (some (.agg (Array.replicate 4092 (.int .u8 0)))) := by kernel_rfl
end Go.Proofs.YtppjphghlclklaaGreatDoor.P
end
section
namespace Go.Proofs.YtppjphghlclklaaGreatDoor.P
open Go.RowKit Go.Proofs.YtppjphghlclklaaGreatDoorW.PrintWords Go.Proofs.YtppjphghlclklaaGreatDoorW.PrintLast Go.Proofs.YtppjphghlclklaaGreatDoorW.PrintMore
attribute [local go_sem] max2_int min2_int max_two min_two max_three min_three max_four min_four
set_option linter.unusedVariables false
set_option linter.unusedSimpArgs false
abbrev Kid := S82
def kidBytes (k : Kid) : List Int := leB 4 (k.f0 % 4294967296) ++ leB 4 (k.f1 % 4294967296)
theorem kidBytes_length (k : Kid) : (kidBytes k).length = 8 := by simp [kidBytes, leB_length]
def cellK (p : Nat) (x : List Int × Kid) : List Int := vB 9 ((x.1.length - p : Nat) : Int) ++ x.1.drop p ++ kidBytes x.2
def slotsK (p : Nat) : Nat → List (List Int × Kid) → List Int
 | _, [] => []
 | a, x :: l => leB 2 ((a : Int) % 65536) ++ slotsK p (a + (cellK p x).length) l
def cellsK (p : Nat) (l : List (List Int × Kid)) : List Int := l.flatMap (cellK p)
def topB (lv : Int) (seps : List (List Int)) : List Int := [2, lv] ++ leB 2 (((seps.length + 1 : Nat) : Int) % 65536) ++ vB 9 (cmnAll seps : Int) ++ (seps.head?.getD []).take (cmnAll seps)
def firstB (kids : List Kid) : List Int := (kids.head?.map kidBytes).getD []
def branchBody (lv : Int) (seps : List (List Int)) (kids : List Kid) : List Int :=
 topB lv seps ++ slotsK (cmnAll seps) ((topB lv seps).length + 2 * seps.length + 8) (seps.zip kids.tail) ++ (firstB kids ++ cellsK (cmnAll seps) (seps.zip kids.tail)) ++ zs (4092 - sizeB seps)
def encBranchR (lv : Int) (seps : List (List Int)) (kids : List Kid) : List Int × Int := if wrongR lv seps kids = 0 then (branchBody lv seps kids, 0) else ([], wrongR lv seps kids)
theorem slotsK_snoc (p : Nat) (x : List Int × Kid) : ∀ (l : List (List Int × Kid)) (a : Nat), slotsK p a (l ++ [x]) = slotsK p a l ++ leB 2 (((a + (cellsK p l).length : Nat) : Int) % 65536)
 | [], a => by simp [slotsK, cellsK]
 | y :: l, a => by
  simp only [List.cons_append, slotsK, slotsK_snoc p x l, cellsK, List.flatMap_cons, List.length_append, List.append_assoc, Nat.add_assoc]
theorem cellsK_snoc (p : Nat) (x : List Int × Kid) (l : List (List Int × Kid)) : cellsK p (l ++ [x]) = cellsK p l ++ cellK p x := by simp [cellsK]
theorem slotsK_length (p : Nat) : ∀ (l : List (List Int × Kid)) (a : Nat), (slotsK p a l).length = 2 * l.length
 | [], _ => rfl
 | x :: l, a => by simp only [slotsK, List.length_append, leB_length, slotsK_length p l, List.length_cons]; omega
theorem cellsK_take_le (p : Nat) (l : List (List Int × Kid)) (i : Nat) : (cellsK p (l.take i)).length ≤ (cellsK p l).length := by
 have h : cellsK p l = cellsK p (l.take i) ++ cellsK p (l.drop i) := by unfold cellsK; rw [← List.flatMap_append, List.take_append_drop]
 rw [h, List.length_append]
 omega
theorem topB_length (lv : Int) (seps : List (List Int)) (hs : SmallB seps) : (topB lv seps).length = 4 + vlen (cmnAll seps) + cmnAll seps := by
 have h2 := cmnAll_small seps hs
 have h3 : ((seps.head?.getD []).take (cmnAll seps)).length = cmnAll seps := by
  match seps with
  | [] => rfl
  | x :: l =>
   have := cmnAll_le (x :: l) x (List.mem_cons_self ..)
   simp only [List.head?_cons, Option.getD_some, List.length_take]
   omega
 unfold topB
 simp only [List.length_append, leB_length, List.length_cons, List.length_nil, h3]
 rw [vB_len64 _ (by omega)]
theorem cellK_length (p : Nat) (x : List Int × Kid) (h : x.1.length ≤ 1000000) : (cellK p x).length + 2 = cellB p x.1 := by
 unfold cellK cellB
 simp only [List.length_append, List.length_drop, kidBytes_length]
 rw [vB_len64 _ (by omega)]
 omega
theorem cellsK_sum (p : Nat) : ∀ (seps : List (List Int)) (ks : List Kid), ks.length = seps.length → (∀ x ∈ seps, x.length ≤ 1000000) → (cellsK p (seps.zip ks)).length + 2 * seps.length = (seps.map (cellB p)).sum
 | [], _, _, _ => by simp [cellsK]
 | x :: l, [], h, _ => by simp at h
 | x :: l, k :: ks, h, hs => by
  have h1 := cellK_length p (x, k) (hs x (List.mem_cons_self ..))
  have h2 := cellsK_sum p l ks (by simpa using h) (fun y hy => hs y (List.mem_cons_of_mem _ hy))
  simp only [cellsK, List.zip_cons_cons, List.flatMap_cons, List.length_append, List.length_cons, List.map_cons, List.sum_cons] at h1 h2 ⊢
  omega
theorem sizeB_eq (lv : Int) (seps : List (List Int)) (kids : List Kid) (hs : SmallB seps) (hk : kids.length = seps.length + 1) : sizeB seps = (topB lv seps).length + 2 * seps.length + 8 + (cellsK (cmnAll seps) (seps.zip kids.tail)).length := by
 have h := cellsK_sum (cmnAll seps) seps kids.tail (by rw [List.length_tail]; omega) hs.2
 rw [topB_length lv seps hs]
 unfold sizeB
 omega
theorem zip_take (seps : List (List Int)) (kids : List Kid) (hk : kids.length = seps.length + 1) (i : Nat) (hi : i < seps.length) : (seps.zip kids.tail).take (i + 1) = (seps.zip kids.tail).take i ++ [(rd_L1 seps i, rd_T82 kids ((i : Int) + 1))] := by
 have hl : i < (seps.zip kids.tail).length := by rw [List.length_zip, List.length_tail]; omega
 rw [List.take_succ_eq_append_getElem hl, List.getElem_zip, rd_list seps i hi, show ((i : Int) + 1) = ((i + 1 : Nat) : Int) by omega, rd_kid kids (i + 1) (by omega), List.getElem_tail]
theorem wrongR_zero {lv : Int} {seps : List (List Int)} {kids : List Kid} (h : wrongR lv seps kids = 0) : 1 ≤ lv ∧ lv ≤ 15 ∧ kids.length = seps.length + 1 ∧ kids.all kidB = true ∧ seps.all keyB = true ∧ ordB seps = true ∧ sizeB seps ≤ 4092 := by
 unfold wrongR at h
 by_cases c : lv < 1 ∨ lv > 15 ∨ kids.length = 0 ∨ kids.length ≠ seps.length + 1
 · rw [if_pos c] at h; omega
 · rw [if_neg c] at h
   by_cases c1 : kids.all kidB = true
   · rw [if_pos c1] at h
     by_cases c2 : seps.all keyB = true
     · rw [if_pos c2] at h
       by_cases c3 : ordB seps = true
       · rw [if_pos c3] at h
         by_cases c4 : sizeB seps ≤ 4092
         · exact ⟨by omega, by omega, by omega, c1, c2, c3, c4⟩
         · rw [if_neg c4] at h; omega
       · rw [if_neg c3] at h; omega
     · rw [if_neg c2] at h; omega
   · rw [if_neg c1] at h; omega
theorem putKid_ev (l : List Int) (k : Kid) (hl : (l.length : Int) ≤ 70368744177000) : Ev (fun n => branch_putKid.f n l k.f0 k.f1) (l ++ kidBytes k) := by
 obtain ⟨K1, e1⟩ := put32_ev l (k.f0 % 4294967296) (by omega) (by omega) (by omega)
 obtain ⟨K2, e2⟩ := put32_ev (l ++ leB 4 (k.f0 % 4294967296)) (k.f1 % 4294967296) (by rw [List.length_append, leB_length]; omega) (by omega) (by omega)
 refine ⟨K1 + K2, fun n hn => ?_⟩
 have g1 : wire_Put_uint32.f n l (k.f0 % 4294967296) = some (l ++ leB 4 (k.f0 % 4294967296)) := e1 n (Nat.le_trans (Nat.le_add_right ..) hn)
 have g2 : wire_Put_uint32.f n (l ++ leB 4 (k.f0 % 4294967296)) (k.f1 % 4294967296) = some (l ++ leB 4 (k.f0 % 4294967296) ++ leB 4 (k.f1 % 4294967296)) := e2 n (Nat.le_trans (Nat.le_add_left ..) hn)
 have e : branch_putKid.f n l k.f0 k.f1 = some (l ++ leB 4 (k.f0 % 4294967296) ++ leB 4 (k.f1 % 4294967296)) := by
  unfold branch_putKid.f
  rw [g1, Option.bind_some, g2, Option.bind_some]
 have e' : l ++ leB 4 (k.f0 % 4294967296) ++ leB 4 (k.f1 % 4294967296) = l ++ kidBytes k := by unfold kidBytes; rw [List.append_assoc]
 exact e.trans (congrArg some e')
theorem putN_V (A0 : Option Addr) (n c0 : Nat) (L : List Int) (x : Int) (w : World) (hC : Kd.C (Kd.int .u8) w A0 n L) (hc0 : n ≤ c0) (hl : (n : Int) ≤ 70368744177664) (h0 : 0 ≤ x) (h1 : x < 18446744073709551616) :
 Calls Tryz.prog 161 #[.slice A0 n c0, .int .u64 x] w (RowPost w (L ++ vB 9 x)) := by
 have hn : L.length = n := hC.1
 subst hn
 exact put_V A0 c0 L x w hC hc0 hl h0 h1
theorem lit_C2 (W : World) (e : Nat) (x y : Int) : Kd.C (Kd.int .u8) (W.alloc (.cells #[.int .u8 x, .int .u8 y] e)) (some ⟨W.heap.size, 0, none⟩) 2 [x, y] :=
 (Full.C (e := e) (B := [x, y]) ⟨_, heap_alloc_new W _, rfl⟩ 2 (by simp) (by simp))
def RowM (w : World) (m : Nat) (L : List Int) (e : Ending) (w' : World) : Prop := ∃ A c, e = .returned (.slice A m c) ∧ m ≤ c ∧ Kd.C (Kd.int .u8) w' A m L ∧ Kd.R (Kd.int .u8) 5 w' w.heap.size (fun _ => True) (.slice A m c) L ∧ Below w.heap.size w w'
theorem putKidM (A0 : Option Addr) (c0 : Nat) (L : List Int) (n : Nat) (k : Kid) (w : World) (hC : Kd.C (Kd.int .u8) w A0 n L) (hc0 : n ≤ c0) (hl : (n : Int) ≤ 70368744177000) :
 Calls Tryz.prog 173 #[.slice A0 n c0, .agg #[.int .i64 k.f0, .int .i64 k.f1]] w (RowM w (n + 8) (L ++ kidBytes k)) := by
 have hn : L.length = n := hC.1
 subst hn
 obtain ⟨K, hK⟩ := (putKid_ev L k hl).rounds
 refine (branch_putKid.calls K A0 c0 L k.f0 k.f1 _ w hC hc0 hK).mono fun e w' h => ?_
 obtain ⟨v, rfl, hR, hB⟩ := h
 obtain ⟨A, c, rfl, hl2, hC2⟩ := Kd.R_reads hR
 have e8 : (L ++ kidBytes k).length = L.length + 8 := by rw [List.length_append, kidBytes_length]
 rw [e8] at hl2 hC2 hR ⊢
 exact ⟨A, c, rfl, hl2, hC2, hR, hB⟩
theorem make_full_run (P : Program) (W : World) (t e : TypeId) (ht : P.underlying t = some (.slice e)) (hinfo : (P.info? e).map (fun i => (i.zero, i.size, i.bytes)) = some (some (.int .u8 0), 1, 1)) (c : Nat) (hc : c ≤ 140737488355328) :
 ∃ w1, (Instr.makeSlice t (.int .i64 0) (.int .i64 c)).run P W = .ok (.slice (some ⟨W.heap.size, 0, none⟩) 0 c) w1 ∧ Full e w1 W.heap.size (zs c) ∧ Below W.heap.size W w1 := by
 obtain ⟨i0, hi, hzz⟩ := Option.map_eq_some_iff.1 hinfo
 simp only [Prod.mk.injEq] at hzz
 obtain ⟨hz0, hz1, hz2⟩ := hzz
 have hr := run_make (P := P) W t e i0 (.int .u8 0) ht hi hz0 .i64 .i64 0 (c : Int) (by omega) (by omega) (by rw [hz2]; omega) (by omega)
 rw [hz1, Int.toNat_natCast] at hr
 refine ⟨_, hr, ⟨_, heap_alloc_new W _, ?_⟩, below_alloc (Below.refl _ _) _⟩
 rw [show (Value.int .u8 0).cells = #[Value.int .u8 0] from rfl, toList_madeCells_one, zs, List.map_replicate, Nat.mul_one]
theorem append_full_run (P : Program) (W : World) (t ty e : TypeId) (ht : P.underlying t = some (.slice e)) (hinfo : (P.info? e).map (fun i => (i.zero, i.size, i.bytes)) = some (some (.int .u8 0), 1, 1)) {g cap : Nat} (B ys : List Int) (A : Option Addr) (m c : Nat)
 (HF : Full e W g B) (hcap : cap = B.length) (HC : Kd.C (Kd.int .u8) W A m ys) (hm : 0 < m) (hroom : 0 + m ≤ cap) :
 ∃ w1, (Builtin.append_ #[t, t] ty #[.slice (some ⟨g, 0, none⟩) 0 cap, .slice A m c]).run P W = .ok (.slice (some ⟨g, 0, none⟩) (0 + m) cap) w1 ∧ Full e w1 g (B.take 0 ++ ys ++ B.drop (0 + m)) ∧ W.grownBy w1 (some g) := by
 obtain ⟨i0, hi, hzz⟩ := Option.map_eq_some_iff.1 hinfo
 simp only [Prod.mk.injEq] at hzz
 obtain ⟨hz0, hz1, hz2⟩ := hzz
 obtain ⟨cur, hh, hc⟩ := HF
 have hl : ys.length = m := HC.1
 subst hl
 obtain ⟨ad, rfl⟩ := int_some HC hm
 have hsz : cur.size = B.length := by rw [← Array.length_toList, hc, List.length_map]
 have hr := run_append_room (P := P) W t ty e i0 ht hi g 0 cap cur hh ad ys.length c (ys.map (Value.int .u8)) (by rw [List.length_map, hz1, Nat.mul_one]) (int_cells HC rfl hm) (fun u hu => by obtain ⟨x, _, rfl⟩ := List.mem_map.1 hu; rfl) hroom (by rw [hz1, List.length_map]; omega)
 rw [hz1, List.length_map, Nat.mul_one] at hr
 refine ⟨_, hr, ⟨_, setRow_heap W g cur _ e (0, 0) hh, ?_⟩, setRow_grown W g _⟩
 simp only [hc, List.map_append, List.map_take, List.map_drop]
theorem step_append_eq {P : Program} {ops : Array Oper} {o : Oper} {a : Act} {w w1 : World} {K : Act → World → Prop} {Q : Exit → Act → World → Prop} {E : Prop}
 (hg : o.guard = none) (s x : Operand) (t : TypeId) (hop : o.op = Op.call { callee := Callee.builtin Builtin.append, args := #[s, x], argTypes := #[t, t] }) (vs vx v : Value) (hs : a.eval s = vs) (hx : a.eval x = vx)
 (hrun : (Builtin.append_ #[t, t] o.type #[vs, vx]).run P w = .ok v w1) (hK : K (a.put o.dst v) w1) :
 if Region.wanted o (yielded ops a.tmps) = true then Oper.wp P o a w K Q else E := by
 have hw : Region.wanted o (yielded ops a.tmps) = true := by simp [Region.wanted, hg]
 rw [if_pos hw]
 unfold Oper.wp
 simp [execOp, hop, resolve, invoke, builtin, hs, hx, hrun, Result.andThen]
 exact hK
theorem copy_arr_run (P : Program) (t u ty e : TypeId) {e' : TypeId} (ht : P.underlying t = some (.slice e)) (hs : (P.info? e).map (·.size) = some 1) {W : World} {g off dl dc : Nat} (B ys : List Int) (A : Option Addr) (m0 c : Nat) (HF : Full e' W g B) (HC : Kd.C (Kd.int .u8) W A m0 ys) (hfit : off + min m0 dl ≤ B.length) :
 ∃ w1, (Builtin.copy_ #[t, u] ty #[.slice (some ⟨g, off, none⟩) dl dc, .slice A m0 c]).run P W = .ok (goInt (min m0 dl : Nat)) w1 ∧ Full e' w1 g (B.take off ++ ys.take (min m0 dl) ++ B.drop (off + min m0 dl)) ∧ W.grownBy w1 (some g) := by
 have hl : ys.length = m0 := HC.1
 subst hl
 obtain ⟨m, hm⟩ : ∃ m, m = min ys.length dl := ⟨_, rfl⟩
 rw [← hm] at hfit ⊢
 rcases Nat.eq_zero_or_pos m with h0 | h0
 · subst h0
   refine ⟨W, by simpa using run_copy_none (P := P) W t u ty e (some ⟨g, off, none⟩) A dl dc ys.length c ht hs hm.symm, ?_, grown_refl W _⟩
   rw [List.take_zero, List.append_nil, Nat.add_zero, List.take_append_drop]
   exact HF
 · have hpos : 0 < ys.length := by omega
   obtain ⟨ad, rfl⟩ := int_some HC hpos
   obtain ⟨cur, hh, hc⟩ := HF
   have hsz : cur.size = B.length := by rw [← Array.length_toList, hc, List.length_map]
   have hlen : ((ys.take m).map (Value.int .u8)).length = m := by rw [List.length_map, List.length_take]; omega
   have hrun := run_copy_row (P := P) W t u ty e g off dl dc ad ys.length c cur e' ((ys.take m).map (Value.int .u8)) ht hs hh (by rw [hlen]; exact hm)
    (fun j v hj => by
     refine int_cells HC rfl hpos j v ?_
     rw [List.getElem?_map] at hj ⊢
     obtain ⟨p, hp, hpv⟩ := Option.map_eq_some_iff.1 hj
     rw [List.getElem?_take] at hp
     split at hp
     · rw [hp, ← hpv]; rfl
     · cases hp)
    (by rw [hlen]; omega) (fun v hv => by obtain ⟨x, _, rfl⟩ := List.mem_map.1 hv; rfl)
   rw [hlen] at hrun
   refine ⟨_, hrun, ⟨_, setRow_heap W g cur _ e' (0, 0) hh, ?_⟩, setRow_grown W g _⟩
   simp only [List.map_append, List.map_take, List.map_drop, hc]
theorem branch_Encode.calls (lv : Int) (A1 : Option Addr) (c1 : Nat) (seps : List (List Int)) (A2 : Option Addr) (c2 : Nat) (kids : List Kid) (w : World) (hr1 : Kd.C (Kd.slice 5 (Kd.int .u8)) w A1 seps.length seps) (hc1 : seps.length ≤ c1) (hr2 : Kd.C k82 w A2 kids.length kids) (hc2 : kids.length ≤ c2) (hs : SmallB seps) (hk : kids.length ≤ 70001) :
 Calls Tryz.prog 72 #[.int .i64 lv, .slice A1 seps.length c1, .slice A2 kids.length c2] w (EncPost w (encBranchR lv seps kids)) := by
 obtain ⟨k1, hk1⟩ := (wrong_f lv seps hs kids hk).rounds
 have HM := Aside0.mk (branch_wrong.calls k1 lv A1 c1 seps A2 c2 kids _ w hr1 hc1 hr2 hc2 hk1)
 obtain ⟨R, hR⟩ : ∃ R, encBranchR lv seps kids = R := ⟨_, rfl⟩
 rw [hR]
 unfold encBranchR at hR
 have HR := Aside0.mk hR
 clear hR hk1
 by_cases z1 : wrongR lv seps kids = 0
 · have hR := HR.out
   rw [if_pos z1] at hR
   subst hR
   obtain ⟨hlv0, hlv1, hkn, hkb, hsb, _, hsz⟩ := wrongR_zero z1
   rw [z1] at HM
   have hse := sizeB_eq lv seps kids hs hkn
   have htl := topB_length lv seps hs
   have hpb := cmnAll_small seps hs
   have HCA := Aside0.mk (fun (W : World) (hW : Below w.heap.size w W) => keys_CommonAll.calls A1 c1 seps (cmnAll seps : Int) W (Kd.C_below hr1 hW) hc1 rfl)
   have HR1 := Aside0.mk hr1
   have HR2 := Aside0.mk hr2
   have HSM := Aside0.mk hs
   have HSE := Aside0.mk (And.intro hse hsz)
   have HTL := Aside0.mk htl
   have HKN := Aside0.mk hkn
   have HKB := Aside0.mk hkb
   have HSB := Aside0.mk hsb
   obtain ⟨p, hp⟩ : ∃ p, p = cmnAll seps := ⟨_, rfl⟩
   obtain ⟨T, hT⟩ : ∃ T, T = (topB lv seps).length := ⟨_, rfl⟩
   obtain ⟨n, hn⟩ : ∃ n, n = seps.length := ⟨_, rfl⟩
   have hTn : T + 2 * n + 8 ≤ 4092 := by omega
   have hp16 : p ≤ 4092 := by omega
   have hn16 : n ≤ 2046 := by omega
   have hT4 : T ≤ 4092 := by omega
   have HPT := Aside0.mk (And.intro hp (And.intro hT hn))
   rw [← hp] at HCA
   have HTOP : Aside0 (topB lv seps = [2, lv] ++ leB 2 ((n : Int) + 1) ++ vB 9 (p : Int) ++ (seps.head?.getD []).take p) := ⟨by unfold topB; rw [← hp, ← hn, show ((n + 1 : Nat) : Int) % 65536 = (n : Int) + 1 by omega]⟩
   have hnk : (kids.length : Int) = ((n + 1 : Nat) : Int) := by omega
   have hwl : IntKind.u8.wrap lv = lv := by rw [IntKind.wrap_u8]; omega
   have hw16 : IntKind.u16.wrap ((n + 1 : Nat) : Int) = ((n + 1 : Nat) : Int) := by rw [IntKind.wrap_u16]; omega
   have hw64 : IntKind.u64.wrap (p : Int) = (p : Int) := u64_id _ (by omega) (by omega)
   have hkn2 : kids.length = n + 1 := by omega
   rw [hkn2] at HM ⊢
   rw [← hn] at HM HCA ⊢
   clear hr1 hr2 hs hse htl hpb hkn hkb hsb hsz hp hT hn z1 HR hk hnk hkn2
   go_enter Tryz.func72, Tryz.ntmps72
   go_wp2_with fail
   refine HM.out.mono ?_
   rintro e w1 ⟨rfl, hb⟩
   have HB1 := Aside0.mk hb
   clear hb HM
   go_upto_region 5 with (first
    | ((with_reducible refine gate_dst (N := 9) rfl ?_); refine alloc_arr rfl (N := 9) rfl 173 rfl 4092 zero_arr ?_; intro w2 hF hb; have HF2 := Aside0.mk hF; have HB2 := Aside0.mk hb; have HBW2 := Aside0.mk (below_step HB1.out hb); clear hF hb))
   obtain ⟨G, hG⟩ : ∃ G, G = w1.heap.size := ⟨_, rfl⟩
   rw [← hG] at HF2 ⊢
   have HG1 : Aside0 (w.heap.size ≤ G) := ⟨by rw [hG]; exact HB1.out.size⟩
   have HG2 := Aside0.mk HF2.out.lt
   clear hG HB1 HB2
   go_wp2_with fail
   refine (HCA.out _ HBW2.out).mono ?_
   rintro e w3 ⟨rfl, hb⟩
   have HB3 := Aside0.mk hb
   have HP16 := Aside0.mk (putN_uint16 (some ⟨w3.heap.size, 0, none⟩) 2 2 [2, lv] ((n : Int) + 1) (w3.alloc (.cells #[.int .u8 2, .int .u8 lv] 5)) (lit_C2 w3 5 2 lv) (Nat.le_refl _) (by decide) (by omega) (by omega))
   clear hb HCA
   go_wp2_with fail
   refine HP16.out.mono ?_
   rintro e w4 ⟨A4, c4, rfl, hl4, hC4, hb⟩
   have HB4 := Aside0.mk (below_step (below_alloc HB3.out _) hb)
   have HPV := Aside0.mk (putN_V A4 4 c4 ([2, lv] ++ leB 2 ((n : Int) + 1)) (p : Int) w4 hC4 hl4 (by omega) (by omega) (by omega))
   clear hb HP16 HB3 hl4 hC4
   go_wp2_with fail
   refine HPV.out.mono ?_
   rintro e w5 ⟨v6, rfl, hR5, hb⟩
   have HB5 := Aside0.mk (below_step HB4.out hb)
   have HR5 := Aside0.mk (Kd.R_lower hR5 HB4.out.size)
   clear hb HPV HB4 hR5
   obtain ⟨bz, hbz⟩ : ∃ bz, decide ((0 : Int) < (n : Int)) = bz := ⟨_, rfl⟩
   have hbz2 : decide (0 < n) = bz := by rw [← hbz]; exact decide_eq_decide.2 (by omega)
   have HBZ := Aside0.mk hbz
   go_upto_if 38 with (fail)
   go_cut [11] (fun v11 wc => ∃ A c, v11 = .slice A T c ∧ Aside0 (T ≤ c ∧ Kd.C (Kd.int .u8) wc A T (topB lv seps)) ∧ Aside0 (Below w2.heap.size w2 wc))
   case first =>
    by_cases z : n = 0
    · have hz := z
      rw [HPT.out.2.2] at hz
      obtain rfl : seps = [] := List.eq_nil_of_length_eq_zero hz
      obtain rfl : false = bz := by rw [← HBZ.out]; exact (decide_eq_false (by omega)).symm
      have htop := HTOP.out
      rw [show (([] : List (List Int)).head?.getD []).take p = [] by simp, List.append_nil] at htop
      obtain ⟨A6, c6, hv6, hl6, hC6⟩ := Kd.R_reads HR5.out
      subst hv6
      rw [← htop, ← HPT.out.2.1] at hC6 hl6 ⊢
      have HC6 := Aside0.mk (And.intro hl6 hC6)
      clear hl6 hC6 htop hz z HR5
      go_wp2
      go_meet
      case rel => exact ⟨A6, c6, rfl, HC6, HB5⟩
    · have hz : 0 < n := by omega
      obtain rfl : true = bz := by rw [← HBZ.out]; exact (decide_eq_true (by omega)).symm
      obtain ⟨ad, A0, c0, rfl, hx0, hlk, hCk⟩ := at_L1 HR1.out 0 (by omega) (by rw [← HPT.out.2.2]; omega)
      obtain ⟨key, hkey⟩ : ∃ key, key = rd_L1 seps 0 := ⟨_, rfl⟩
      rw [← hkey] at hx0 hlk hCk
      rw [Int.toNat_zero, Addr.add_zero'] at hx0
      have hkey2 : seps.head?.getD [] = key := by rw [hkey]; cases seps with
       | nil => have := HPT.out.2.2; simp at this; omega
       | cons x l => rfl
      have hpk : p ≤ key.length := by
       rw [HPT.out.1, hkey, show (0 : Int) = ((0 : Nat) : Int) from rfl, rd_list seps 0 (by rw [← HPT.out.2.2]; exact hz)]
       exact cmnAll_le seps _ (List.getElem_mem _)
      obtain ⟨i0, hi0, _, hsz, _⟩ := info_parts info5
      have hcutk := cut_to (P := Tryz.prog) 25 5 .i64 Tryz.underlying25 hi0 A0 key.length c0 (p : Int) (by omega) (by omega) hlk
      rw [Int.toNat_natCast] at hcutk
      have hkt : Kd.C (Kd.int .u8) w A0 p (key.take p) := by
       have h := Kd.C_take (m := p) hCk (by omega)
       rwa [List.length_take, Nat.min_eq_left (by omega)] at h
      have htop := HTOP.out
      rw [hkey2] at htop
      have HTO := Aside0.mk htop
      have HC5 := Aside0.mk (Kd.C_below (Kd.C_below hkt HBW2.out) HB5.out)
      have hx5 := pw_cell_below HB5.out (pw_cell_below HBW2.out hx0)
      have HL5 : Aside0 ((([2, lv] ++ leB 2 ((n : Int) + 1) ++ vB 9 (p : Int)).length + p) * 1 ≤ 140737488355328) := ⟨by
       have h2 := vB_length 9 (p : Int)
       simp only [List.length_append, List.length_cons, List.length_nil, leB_length]
       omega⟩
      have hz2 : (0 : Int) < (n : Int) := by omega
      clear hx0 hlk hCk hkey hkey2 hpk hi0 hsz hkt htop z
      go_wp2_with (first
       | ((with_reducible refine gate_builtin (b := .append) (xs := #[.tmp 39, .tmp 44]) rfl ?_); at_builtin; refine Kd.R_append_rows (Kd.int .u8) (w0 := w2) w2.heap.size rfl (.tmp 39) (.tmp 44) 25 5 (.int .u8 0) 1 rfl Tryz.underlying25 info5 rfl (by decide) (by omega) v6 ([2, lv] ++ leB 2 ((n : Int) + 1) ++ vB 9 (p : Int)) (key.take p) A0 p c0 (fun _ => True) (fun _ => False) rfl rfl HR5.out HC5.out (fun _ _ h => h) (fun _ h => h.elim) (fun _ _ => trivial) HB5.out HB5.out.size HL5.out ?_; intro v7 w6 ho hb6 hg hat; rw [← HTO.out] at ho; obtain ⟨A6, c6, hv6, hl6, hC6⟩ := Kd.R_reads ho; subst hv6; rw [← HPT.out.2.1] at hl6 hC6 ⊢; have HC6 := Aside0.mk (And.intro hl6 hC6); have HB6 := Aside0.mk hb6; clear ho hb6 hg hat hl6 hC6 HR5 HC5 HB5 HL5))
      go_meet
      case rel => exact ⟨A6, c6, rfl, HC6, HB6⟩
   case rest =>
    obtain ⟨A6, c6, rfl, HC6, HB6⟩ := hcut
    obtain ⟨w6, rfl⟩ : ∃ x : World, x = wc := ⟨_, rfl⟩
    clear HR5 HB5
    have hnk0 : 0 < kids.length := by rw [HKN.out]; omega
    obtain ⟨ad2, rfl, hx0, hx1⟩ := at_T82 HR2.out 0 (by omega) (by omega)
    simp only [Int.toNat_zero, Nat.zero_mul, Addr.add_zero'] at hx0 hx1
    obtain ⟨k0, hk0⟩ : ∃ k0, k0 = rd_T82 kids 0 := ⟨_, rfl⟩
    rw [← hk0] at hx0 hx1
    have HFK : Aside0 (firstB kids = kidBytes k0) := ⟨by
     rw [hk0]
     cases kids with
     | nil => simp at hnk0
     | cons x l => rfl⟩
    have x0 := pw_cell_below HB6.out (pw_cell_below HBW2.out hx0)
    have x1 := pw_cell_below HB6.out (pw_cell_below HBW2.out hx1)
    have HPK := Aside0.mk (fun W => putKidM none 0 [] 0 k0 W (Kd.C_nil _ _) (Nat.le_refl _) (by omega))
    clear hx0 hx1 hk0 hnk0 HTOP hbz hbz2
    go_wp2_with fail
    refine (HPK.out _).mono ?_
    rintro e w7 ⟨A7, c7, rfl, hl7, hC7, hR7, hb⟩
    have HC7 := Aside0.mk (And.intro hl7 (And.intro hC7 (Kd.R_lower hR7 HB6.out.size)))
    have HC8 := Aside0.mk (And.intro HC6.out.1 (Kd.C_below HC6.out.2 hb))
    have HB7 := Aside0.mk (below_then HB6.out HB6.out.size hb)
    clear hl7 hC7 hR7 hb HPK x0 x1 HC6 HB6
    obtain ⟨PR, hPR⟩ : ∃ PR, PR = seps.zip kids.tail := ⟨_, rfl⟩
    have HPR := Aside0.mk hPR
    clear hPR
    go_wp2_with fail
    go_loopg [11, 13, 58] n (fun kq v11 v13 v58 w' => ∃ (i h m : Nat) (A11 : Option Addr) (c11 : Nat) (A13 : Option Addr) (c13 : Nat), v11 = .slice A11 h c11 ∧ v13 = .slice A13 m c13 ∧ v58 = .int .i64 i ∧ i + kq = n ∧ Aside0 (h = T + 2 * i ∧ m = 8 + (cellsK p (PR.take i)).length) ∧ Aside0 (h ≤ c11 ∧ Kd.C (Kd.int .u8) w' A11 h (topB lv seps ++ slotsK p (T + 2 * n + 8) (PR.take i))) ∧ Aside0 (m ≤ c13 ∧ Kd.C (Kd.int .u8) w' A13 m (kidBytes k0 ++ cellsK p (PR.take i)) ∧ Kd.R (Kd.int .u8) 5 w' w2.heap.size (fun _ => True) (.slice A13 m c13) (kidBytes k0 ++ cellsK p (PR.take i))) ∧ Aside0 (Below w2.heap.size w2 w'))
    case atStart => exact ⟨0, T, 8, A6, c6, A7, c7, rfl, rfl, rfl, by omega, ⟨by omega, by simp [cellsK]⟩, ⟨HC8.out.1, by simpa [slotsK] using HC8.out.2⟩, ⟨HC7.out.1, by simpa [cellsK] using HC7.out.2.1, by simpa [cellsK] using HC7.out.2.2⟩, HB7⟩
    case round =>
     clear HC7 HC8 HB7
     obtain ⟨i, h, m, A11, c11, A13, c13, rfl, rfl, rfl, hk, HHM, HC11, HC13, HB⟩ := hrel
     cases gk with
     | zero =>
      obtain rfl : i = n := by omega
      have cd1 : decide ((i : Int) < (i : Int)) = false := decide_eq_false (by omega)
      have cd2 : decide (i < i) = false := decide_eq_false (by omega)
      have hall : PR.take i = PR := List.take_of_length_le (by rw [HPR.out, List.length_zip]; have := HPT.out.2.2; omega)
      rw [hall] at HHM HC11 HC13
      have hsize : h + m ≤ 4092 ∧ sizeB seps = h + m := by
       have h1 := HSE.out
       have h3 := HHM.out
       have h4 := HPT.out
       have h5 := HPR.out
       rw [← h4.1, ← h5, ← h4.2.1, ← h4.2.2] at h1
       omega
      have HF3 := Aside0.mk (HF2.out.below HB.out)
      have HSZ := Aside0.mk hsize.2
      have hs1 := hsize.1
      have hh4 : h < 4092 := by have := HHM.out.2; omega
      clear hall hsize hk
      obtain ⟨i0, hi0, _, hsz, _⟩ := info_parts info5
      have ha1 := sliceAt_hm (P := Tryz.prog) 173 5 4092 under_arr hi0 hsz G h h (Nat.le_refl _) (by omega)
      have ha2 := sliceAt_l (P := Tryz.prog) 173 5 4092 under_arr hi0 hsz G h hh4
      have ha3 := sliceAt_all (P := Tryz.prog) 173 5 4092 under_arr hi0 hsz G
      have hsm : (Tryz.prog.info? 5).map (·.size) = some 1 := by rw [hi0]; exact congrArg some hsz
      obtain ⟨wx, hrunx, hFx, hgx⟩ := copy_arr_run Tryz.prog 25 25 3 5 (e' := 173) (g := G) (off := 0) (dl := h) (dc := h) Tryz.underlying25 hsm (zs 4092) _ A11 h c11 HF3.out HC11.out.2 (by rw [zs_length]; omega)
      rw [Nat.min_self] at hrunx hFx
      have HBW := Aside0.mk (below_then HBW2.out HBW2.out.size HB.out)
      have hbx := HBW.out.grown hgx HBW.out.size (fun k hk => by injection hk with hk; have := HG1.out; omega)
      have hL1 := lay_first (topB lv seps ++ slotsK p (T + 2 * i + 8) PR) 4092 h HC11.out.2.1 (by omega)
      rw [Nat.min_eq_left (by omega)] at hL1
      rw [hL1] at hFx
      obtain ⟨_, _, hve, _, hC13⟩ := Kd.R_reads (Kd.R_grown (Kd.R_mono (ok' := fun k => k ≠ G) (Kd.R_bound HC13.out.2.2) (fun k hk => by have := hk.2.1; have := HG2.out; omega)) hgx (fun k hk e => hk (by injection e)))
      injection hve with hva hvb hvc
      subst hva hvc
      rw [← hvb] at hC13
      obtain ⟨wy, hruny, hFy, hgy⟩ := copy_arr_run Tryz.prog 25 25 3 5 (e' := 173) (g := G) (off := h) (dl := 4092 - h) (dc := 4092 - h) Tryz.underlying25 hsm _ _ A13 m c13 hFx hC13 (by rw [Nat.min_eq_left (by omega)]; simp only [List.length_append, zs_length]; have := HC11.out.2.1; simp only [List.length_append] at this; omega)
      rw [Nat.min_eq_left (by omega)] at hruny hFy
      have hby := hbx.grown hgy hbx.size (fun k hk => by injection hk with hk; have := HG1.out; omega)
      have hL2 := splice_zero (topB lv seps ++ slotsK p (T + 2 * i + 8) PR) (kidBytes k0 ++ cellsK p PR) h m (4092 - h) HC11.out.2.1 HC13.out.2.1.1 (by omega)
      rw [List.take_of_length_le (Nat.le_of_eq HC13.out.2.1.1), hL2] at hFy
      have hbody : topB lv seps ++ slotsK p (T + 2 * i + 8) PR ++ (kidBytes k0 ++ cellsK p PR) ++ zs (4092 - h - m) = branchBody lv seps kids := by
       unfold branchBody
       rw [HFK.out, ← HPT.out.1, ← HPR.out, ← HPT.out.2.1, ← HPT.out.2.2, HSZ.out, show 4092 - h - m = 4092 - (h + m) by omega]
      rw [hbody] at hFy
      have HBL : Aside0 ((branchBody lv seps kids).length = 4092) := ⟨by rw [← hbody, List.length_append, List.length_append, zs_length, HC11.out.2.1, HC13.out.2.1.1]; omega⟩
      have HFY := Aside0.mk hFy
      have HBY := Aside0.mk hby
      clear hFx hgx hbx hL1 hvb hC13 hFy hgy hby hL2 hbody hi0 hsz hsm
      go_upto_region 21 with (fail)
      have hbl : (branchBody lv seps kids).length = 4092 := by
       have h1 := HFY.out
       have h2 := HBL.out
       exact h2
      obtain ⟨w1', hmk, hF1, hb1⟩ := make_full_run Tryz.prog wy.drew 25 5 Tryz.underlying25 info5 4092 (by omega)
      have hCY : Kd.C (Kd.int .u8) w1' (some ⟨G, 0, none⟩) 4092 (branchBody lv seps kids) := by
       have h1 := ((Full.step HFY.out (W1 := wy.drew) rfl).below hb1).C 4092 (by omega) (by rw [hbl]; decide)
       rw [List.take_of_length_le (by omega), hbl] at h1
       exact h1
      obtain ⟨w2', hap, hF2, hg2⟩ := append_full_run Tryz.prog w1' 25 25 5 Tryz.underlying25 info5 (zs 4092) (branchBody lv seps kids) (some ⟨G, 0, none⟩) 4092 4092 hF1 (zs_length 4092).symm hCY (by omega) (by omega)
      rw [List.take_zero, List.nil_append, List.drop_of_length_le (by rw [zs_length]; decide), List.append_nil] at hF2
      rw [show (0 : Nat) + 4092 = 4092 from rfl] at hap
      have hmk' : (Instr.makeSlice 25 (.int .i64 0) (.int .i64 4092)).run Tryz.prog wy.drew = .ok (.slice (some ⟨wy.heap.size, 0, none⟩) 0 4092) w1' := hmk
      have hap' : (Builtin.append_ #[25, 25] 25 #[.slice (some ⟨wy.heap.size, 0, none⟩) 0 4092, .slice (some ⟨G, 0, none⟩) 4092 4092]).run Tryz.prog w1' = .ok (.slice (some ⟨wy.heap.size, 0, none⟩) 4092 4092) w2' := hap
      have HFin := Aside0.mk hF2
      have hbw := below_step (below_drew1 HBY.out) hb1
      have HBFin := Aside0.mk (hbw.grown hg2 hbw.size (fun k hk => by injection hk with hk; have h3 : w.heap.size ≤ wy.drew.heap.size := HBY.out.size; have h4 : wy.drew.heap.size = k := hk; omega))
      have HSY : Aside0 (w.heap.size ≤ wy.heap.size) := ⟨HBY.out.size⟩
      have HBLX := Aside0.mk hbl
      have HAP := Aside0.mk hap'
      clear hap'
      clear hF1 hb1 hCY hF2 hg2 hbw hbl hmk hap hrunx hruny
      go_region_law (refine step_append_eq rfl (.tmp 100) (.tmp 101) 25 rfl (.slice (some ⟨wy.heap.size, 0, none⟩) 0 4092) (.slice (some ⟨G, 0, none⟩) 4092 4092) (.slice (some ⟨wy.heap.size, 0, none⟩) 4092 4092) (by simp [Act.eval, Act.put]) (by simp [Act.eval, Act.put]) HAP.out ?_)
      all_goals
       go_wp2
       go_ret2
       have hR := HFin.out.R (base := w.heap.size) (ok := fun _ => True) HSY.out trivial 4092 (by rw [HBLX.out]; omega) (by rw [HBLX.out]; decide)
       rw [List.take_of_length_le (by rw [HBLX.out]; omega), HBLX.out] at hR
       exact ⟨_, rfl, hR, HBFin.out⟩
     | succ d =>
      have hin : i < n := by omega
      have cd1 : decide ((i : Int) < (n : Int)) = true := decide_eq_true (by omega)
      have cd2 : decide (i < n) = true := decide_eq_true hin
      obtain ⟨ad, As, cs, rfl, y0, hls, hCs⟩ := at_L1 HR1.out (i : Int) (by omega) (by rw [← HPT.out.2.2]; omega)
      obtain ⟨adk, hadk, y1, y2⟩ := at_T82 HR2.out ((i : Int) + 1) (by omega) (by rw [HKN.out, ← HPT.out.2.2]; omega)
      obtain rfl : ad2 = adk := by injection hadk
      rw [Int.toNat_natCast] at y0
      rw [show ((i : Int) + 1).toNat = i + 1 by omega] at y1 y2
      obtain ⟨s, hsx⟩ : ∃ s, s = rd_L1 seps (i : Int) := ⟨_, rfl⟩
      obtain ⟨kd, hkd⟩ : ∃ kd, kd = rd_T82 kids ((i : Int) + 1) := ⟨_, rfl⟩
      rw [← hsx] at y0 hls hCs
      rw [← hkd] at y1 y2
      have htk : PR.take (i + 1) = PR.take i ++ [(s, kd)] := by rw [HPR.out, zip_take seps kids HKN.out i (by rw [← HPT.out.2.2]; exact hin), hsx, hkd]
      have hps : p ≤ s.length := by
       rw [HPT.out.1, hsx, rd_list seps i (by rw [← HPT.out.2.2]; exact hin)]
       exact cmnAll_le seps _ (List.getElem_mem _)
      have hs2 : s.length ≤ 1000000 := by
       rw [hsx, rd_list seps i (by rw [← HPT.out.2.2]; exact hin)]
       exact HSM.out.2 _ (List.getElem_mem _)
      have hm4 : T + 2 * n + m ≤ 4092 := by
       have h1 := HSE.out
       have h2 := cellsK_take_le p PR i
       have h3 := HHM.out.2
       have h4 := HPT.out
       have h5 := HPR.out
       rw [← h4.1, ← h5, ← h4.2.1, ← h4.2.2] at h1
       omega
      have hh4 : h ≤ 4092 := by have := HHM.out.1; omega
      have HP16 := Aside0.mk (fun (W : World) (hW : Below wr.heap.size wr W) => putN_uint16 A11 h c11 _ ((T : Int) + 2 * n + m) W (Kd.C_below HC11.out.2 hW) HC11.out.1 (by omega) (by omega) (by omega))
      have HPV := Aside0.mk (fun (W : World) (hW : Below wr.heap.size wr W) => putN_V A13 m c13 _ ((s.length : Int) - p) W (Kd.C_below HC13.out.2.1 hW) HC13.out.1 (by omega) (by omega) (by omega))
      have HTK := Aside0.mk htk
      have z0 := pw_cell_below HB.out (pw_cell_below HBW2.out y0)
      have z1 := pw_cell_below HB.out (pw_cell_below HBW2.out y1)
      have z2 := pw_cell_below HB.out (pw_cell_below HBW2.out y2)
      have HY0 := Aside0.mk (And.intro (pw_cell_below HBW2.out y1) (pw_cell_below HBW2.out y2))
      obtain ⟨i0, hi0, _, hsz, _⟩ := info_parts info5
      have hcs := cut_from (P := Tryz.prog) 25 5 .i64 Tryz.underlying25 hi0 1 hsz As s.length cs (p : Int) (by omega) (by omega)
      rw [Int.toNat_natCast] at hcs
      obtain ⟨As', hAs⟩ : ∃ As', As' = (if cs = p then As else As.map (·.add (p * 1))) := ⟨_, rfl⟩
      have hCd := Kd.C_drop (m := p) (c := cs) hCs (by omega) hls
      have hCd : Kd.C (Kd.int .u8) w As' (s.drop p).length (s.drop p) := by rw [hAs]; exact hCd
      rw [List.length_drop] at hCd
      rw [← hAs] at hcs
      have HCD := Aside0.mk (Kd.C_below hCd HBW2.out)
      clear hadk y0 y1 y2 z1 z2 hls hCs hsx hkd htk hi0 hsz hAs hCd
      go_wp2_with fail
      refine (HP16.out _ (Below.refl _ _)).mono ?_
      rintro e w8 ⟨A8, c8, rfl, hl8, hC8, hb8⟩
      have HC8 := Aside0.mk (And.intro hl8 hC8)
      have HB8 := Aside0.mk hb8
      clear hl8 hC8 hb8 HP16 z0
      go_wp2_with fail
      refine (HPV.out _ HB8.out).mono ?_
      rintro e w9 ⟨v9, rfl, hR9, hb9⟩
      have HR9 := Aside0.mk hR9
      have HB9 := Aside0.mk hb9
      have HC9 := Aside0.mk (Kd.C_below (Kd.C_below HCD.out (below_step HB.out HB8.out)) hb9)
      have HB89 := Aside0.mk (below_step (below_step HB.out HB8.out) hb9)
      have HL9 : Aside0 (((kidBytes k0 ++ cellsK p (PR.take i) ++ vB 9 ((s.length : Int) - p)).length + (s.length - p)) * 1 ≤ 140737488355328) := ⟨by
       have h2 := vB_length 9 ((s.length : Int) - p)
       have h3 := HHM.out.2
       simp only [List.length_append, kidBytes_length]
       omega⟩
      clear hR9 hb9 HPV HCD
      obtain ⟨m2, hm2⟩ : ∃ m2, m2 = (kidBytes k0 ++ cellsK p (PR.take i) ++ vB 9 ((s.length : Int) - p) ++ s.drop p).length := ⟨_, rfl⟩
      have HM2 := Aside0.mk hm2.symm
      clear hm2
      go_upto_region 18 with (first
       | ((with_reducible refine gate_builtin (b := .append) (xs := #[.tmp 77, .tmp 80]) rfl ?_); at_builtin; refine Kd.R_append_rows (Kd.int .u8) (w0 := w8) w8.heap.size rfl (.tmp 77) (.tmp 80) 25 5 (.int .u8 0) 1 rfl Tryz.underlying25 info5 rfl (by decide) (by omega) v9 (kidBytes k0 ++ cellsK p (PR.take i) ++ vB 9 ((s.length : Int) - p)) (s.drop p) As' (s.length - p) (cs - p) (fun _ => True) (fun _ => False) rfl rfl HR9.out HC9.out (fun _ _ h => h) (fun _ h => h.elim) (fun _ _ => trivial) HB9.out HB9.out.size HL9.out ?_; intro v10 w10 ho hb10 hg hat; obtain ⟨A10, c10, hv10, hl10, hC10⟩ := Kd.R_reads ho; subst hv10; rw [HM2.out] at hl10 hC10 ⊢; have HC10 := Aside0.mk (And.intro hl10 hC10); have HB10 := Aside0.mk hb10; clear ho hb10 hg hat hl10 hC10 HR9 HC9 HB9 HL9))
      have hm2 := HM2.out.symm
      have hm3 : m2 + 8 = m + (cellK p (s, kd)).length := by
       have h3 := HHM.out.2
       rw [hm2]
       unfold cellK
       simp only [List.length_append, kidBytes_length]
       rw [show ((s.length : Int) - p) = ((s.length - p : Nat) : Int) by omega]
       omega
      have hm2b : m2 ≤ 2000000 := by
       have h2 := vB_length 9 ((s.length : Int) - p)
       have h3 := HHM.out.2
       rw [hm2]
       simp only [List.length_append, kidBytes_length, List.length_drop]
       omega
      have HBA := Aside0.mk (below_then (below_step HB.out HB8.out) (Nat.le_trans HB.out.size HB8.out.size) HB10.out)
      have z1 := pw_cell_below (below_then HB.out HB.out.size (below_then HB8.out HB8.out.size HB10.out)) HY0.out.1
      have z2 := pw_cell_below (below_then HB.out HB.out.size (below_then HB8.out HB8.out.size HB10.out)) HY0.out.2
      have HPK := Aside0.mk (putKidM A10 c10 _ m2 kd w10 HC10.out.2 HC10.out.1 (by omega))
      have HM3 := Aside0.mk hm3
      clear hm2 hm3 HC10
      go_wp2_with fail
      refine HPK.out.mono ?_
      rintro e w11 ⟨A12, c12, rfl, hl12, hC12, hR12, hb12⟩
      have HC12 := Aside0.mk (And.intro hl12 (And.intro hC12 (Kd.R_lower hR12 HBA.out.size)))
      have HB12 := Aside0.mk (below_step HBA.out hb12)
      have HC8' := Aside0.mk (Kd.C_below HC8.out.2 (below_then HB10.out HB10.out.size hb12))
      clear hl12 hC12 hR12 hb12 HPK z1 z2 HBA HB10
      go_wp2
      go_roundg d
      case measure => omega
      case rel =>
       refine ⟨i + 1, h + 2, m2 + 8, A8, c8, A12, c12, rfl, rfl, congrArg (Value.int .i64) (by omega), by omega, ⟨by have := HHM.out.1; omega, ?_⟩, ⟨HC8.out.1, ?_⟩, ⟨HC12.out.1, ?_⟩, HB12⟩
       · rw [HTK.out, cellsK_snoc, List.length_append]
         have := HHM.out.2
         have := HM3.out
         omega
       · have h1 := HC8'.out
         rw [List.append_assoc] at h1
         rw [HTK.out, slotsK_snoc]
         have e : (((T + 2 * n + 8 + (cellsK p (PR.take i)).length : Nat) : Int) % 65536) = (T : Int) + 2 * n + m := by have := HHM.out.2; omega
         rw [e]
         exact h1
       · have h1 := HC12.out.2
         rw [HTK.out, cellsK_snoc]
         unfold cellK
         rw [show ((s.length : Int) - p) = ((s.length - p : Nat) : Int) by omega] at h1
         simpa only [List.append_assoc] using h1
 · obtain rfl : (([] : List Int), wrongR lv seps kids) = R := by rw [← HR.out, if_neg z1]
   obtain ⟨m, hm⟩ : ∃ m, wrongR lv seps kids = m := ⟨_, rfl⟩
   rw [hm] at z1 HM ⊢
   have d1 : (m == 0) = false := beq_eq_false_iff_ne.mpr z1
   have d2 : (m != 0) = true := bne_iff_ne.mpr z1
   clear hr1 hr2 hs hk hm z1 HR
   go_enter Tryz.func72, Tryz.ntmps72
   go_wp2_with fail
   refine HM.out.mono ?_
   rintro e w1 ⟨rfl, hb⟩
   have HB1 := Aside0.mk hb
   clear hb HM
   go_wp2
   go_ret2
   exact ⟨_, rfl, Kd.R_nil _ _ _ _ _, HB1.out⟩
theorem results_cell_tmp_row {P : Program} {fn : Func} {p u : Tmp} {ty : TypeId} (h : fn.results = #[.cell p ty, .tmp u]) (tmps : Array Value) (w : World) (g : Nat) (t : TypeId) (cs : Array Value) (fr : Nat × Nat) (d : TypeDesc) (x : Value)
 (hp : tmps.getD p undef = .pointer (some ⟨g, 0, none⟩)) (hx : tmps.getD u undef = x) (hg : w.heap[g]? = some (.cells cs t fr))
 (hu : P.underlying ty = some d) (hd : (match d with | .struct _ | .array _ _ => true | _ => false) = true) (hi : (P.info? ty).map (·.size) = some cs.size) :
 (results fn tmps).run P w = .ok (.tuple #[.agg cs, x]) w := by
 rw [results_cell_tmp h, hp, hx]
 simp [asAddr, run_loadVar_row w g t ty cs fr d hg hu hd hi]
structure Hd7 where
 v : Int
 c : Int
 r : Int
 h : Int
 k : Int
 f : Int
 n : Int
def eqStr (a b : List Int) : Bool := ((strOfNums a).toList == (strOfNums b).toList)
def rdHead (l : List Int) : Hd7 :=
 let g1 := getR 8 l 0 0
 let g2 := getR 4 l g1.2.1 g1.2.2
 let g3 := getR 4 l g2.2.1 g2.2.2
 let g4 := getR 1 l g3.2.1 g3.2.2
 let g5 := getR 8 l g4.2.1 g4.2.2
 let g6 := getR 4 l g5.2.1 g5.2.2
 let g7 := getR 4 l g6.2.1 g6.2.2
 ⟨wrap64 g1.1, g2.1 % 4294967296, g3.1 % 4294967296, g4.1 % 256, wrap64 g5.1, g6.1 % 4294967296, g7.1 % 4294967296⟩
def encHd (x : Hd7) : List Int × Int := encMetaR x.v x.c x.r x.h x.k x.f x.n
def hd0 : Hd7 := ⟨0, 0, 0, 0, 0, 0, 0⟩
def decMetaR (l : List Int) : Hd7 × Int :=
 if l.length = 4092 ∧ l.take 4 = metaBegin ∧ l.drop 4088 = metaEnd then
  (if (encHd (rdHead (l.drop 4))).2 = 0 then (if eqStr (encHd (rdHead (l.drop 4))).1 l = true then (rdHead (l.drop 4), 0) else (hd0, 70)) else (hd0, 70))
 else (hd0, 70)
def HeadPost (w : World) (x : Hd7 × Int) (e : Ending) (w' : World) : Prop := e = .returned (.tuple #[.agg #[.int .i64 x.1.v, .int .i64 x.1.c, .int .i64 x.1.r, .int .i64 x.1.h, .int .i64 x.1.k, .int .i64 x.1.f, .int .i64 x.1.n], .int .i64 x.2]) ∧ Below w.heap.size w w'
theorem four_drop_gen' (l : List Int) (m : Nat) (h : l.length = m + 4) : l.drop m = [l.getD m 0, l.getD (m + 1) 0, l.getD (m + 2) 0, l.getD (m + 3) 0] := by
 apply List.ext_getElem
 · rw [List.length_drop, h]; simp
 · intro i h1 h2
   rw [List.getElem_drop]
   have hi : i < 4 := by simpa using h2
   rcases (by omega : i = 0 ∨ i = 1 ∨ i = 2 ∨ i = 3) with rfl | rfl | rfl | rfl <;> simp [List.getD_eq_getElem?_getD, h]
theorem head_store {W : World} {g t : Nat} {v0 v1 v2 v3 v4 v5 v6 : Value} (h : W.heap[g]? = some (.cells #[v0, v1, v2, v3, v4, v5, v6] t (0, 0))) (u0 u1 u2 u3 u4 u5 u6 : Value) :
 (((((((W.setCell ⟨g, 0, none⟩ u0).setCell ⟨g, 1, none⟩ u1).setCell ⟨g, 2, none⟩ u2).setCell ⟨g, 3, none⟩ u3).setCell ⟨g, 4, none⟩ u4).setCell ⟨g, 5, none⟩ u5).setCell ⟨g, 6, none⟩ u6).heap[g]? = some (.cells #[u0, u1, u2, u3, u4, u5, u6] t (0, 0)) := by
 simpa using blk_set (blk_set (blk_set (blk_set (blk_set (blk_set (blk_set h 0 u0) 1 u1) 2 u2) 3 u3) 4 u4) 5 u5) 6 u6
theorem four_take (l : List Int) (h : l.length = 4092) : l.take 4 = [l.getD 0 0, l.getD 1 0, l.getD 2 0, l.getD 3 0] := by
 match l, h with
 | a :: b :: c :: d :: r, _ => simp
theorem four_end (l : List Int) (h : l.length = 4092) : l.drop 4088 = [l.getD 4088 0, l.getD 4089 0, l.getD 4090 0, l.getD 4091 0] := four_drop_gen' l 4088 h
theorem meta_Decode.calls (A0 : Option Addr) (c0 : Nat) (l0 : List Int) (w : World) (hL : MetaLaid w) (hr0 : Kd.C (Kd.int .u8) w A0 l0.length l0) (hc0 : l0.length ≤ c0) :
 Calls Tryz.prog 89 #[.slice A0 l0.length c0] w (HeadPost w (decMetaR l0)) := by
 obtain ⟨R, hR⟩ : ∃ R, decMetaR l0 = R := ⟨_, rfl⟩
 rw [hR]
 unfold decMetaR at hR
 by_cases c : l0.length = 4092
 · have hlen : (l0.length : Int) = 4092 := by omega
   obtain ⟨ad, rfl⟩ := int_some hr0 (by omega)
   obtain ⟨i0, hi0, _, hsz, _⟩ := info_parts info5
   have hf := four_take l0 c
   have he := four_end l0 c
   have hcell := int_cells hr0 rfl (show 0 < l0.length by omega)
   obtain ⟨a0, ha0⟩ : ∃ a, a = l0.getD 0 0 := ⟨_, rfl⟩
   obtain ⟨b0, hb0⟩ : ∃ a, a = l0.getD 4088 0 := ⟨_, rfl⟩
   obtain ⟨a1, ha1⟩ : ∃ a, a = l0.getD 1 0 := ⟨_, rfl⟩
   obtain ⟨b1, hb1⟩ : ∃ a, a = l0.getD 4089 0 := ⟨_, rfl⟩
   obtain ⟨a2, ha2⟩ : ∃ a, a = l0.getD 2 0 := ⟨_, rfl⟩
   obtain ⟨b2, hb2⟩ : ∃ a, a = l0.getD 4090 0 := ⟨_, rfl⟩
   obtain ⟨a3, ha3⟩ : ∃ a, a = l0.getD 3 0 := ⟨_, rfl⟩
   obtain ⟨b3, hb3⟩ : ∃ a, a = l0.getD 4091 0 := ⟨_, rfl⟩
   rw [← ha0, ← ha1, ← ha2, ← ha3] at hf
   rw [← hb0, ← hb1, ← hb2, ← hb3] at he
   have hsrc0 : ∀ j v, (([a0, a1, a2, a3] : List Int).map (Value.int .u8))[j]? = some v → w.cell? (ad.add j) = some v := fun j v hj => by
    rw [← hf] at hj
    refine hcell j v ?_
    rw [List.map_take, List.getElem?_take] at hj
    split at hj
    · exact hj
    · cases hj
   have hsrc1 : ∀ j v, (([b0, b1, b2, b3] : List Int).map (Value.int .u8))[j]? = some v → w.cell? (ad.add (4088 + j)) = some v := fun j v hj => by
    rw [← he, List.map_drop, List.getElem?_drop] at hj
    exact hcell (4088 + j) v hj
   obtain ⟨bd, hbd⟩ : ∃ bd, bd = ad.add 4088 := ⟨_, rfl⟩
   obtain ⟨o, ho⟩ : ∃ o, o = Obj.cells #[.int .i64 0, .int .i64 0, .int .i64 0, .int .i64 0, .int .i64 0, .int .i64 0, .int .i64 0] 28 (0, 0) := ⟨_, rfl⟩
   have hW := below_alloc (Below.refl w.heap.size w) o
   have hL1 := hL.below hW
   have p0 : (w.alloc o).cell? ad = some (.int .u8 a0) := by have h := pw_cell_below hW (hsrc0 0 _ rfl); exact h
   have s0 : (w.alloc o).cell? bd = some (.int .u8 b0) := by have h := pw_cell_below hW (hsrc1 0 _ rfl); rw [hbd]; exact h
   have y0 := hL1.1 0 _ rfl
   have x0 := hL1.2 0 _ rfl
   have p1 : (w.alloc o).cell? ⟨ad.block, ad.off + 1, none⟩ = some (.int .u8 a1) := by have h := pw_cell_below hW (hsrc0 1 _ rfl); exact h
   have s1 : (w.alloc o).cell? ⟨bd.block, bd.off + 1, none⟩ = some (.int .u8 b1) := by have h := pw_cell_below hW (hsrc1 1 _ rfl); rw [← add_add, ← hbd] at h; exact h
   have y1 := hL1.1 1 _ rfl
   have x1 := hL1.2 1 _ rfl
   have p2 : (w.alloc o).cell? ⟨ad.block, ad.off + 2, none⟩ = some (.int .u8 a2) := by have h := pw_cell_below hW (hsrc0 2 _ rfl); exact h
   have s2 : (w.alloc o).cell? ⟨bd.block, bd.off + 2, none⟩ = some (.int .u8 b2) := by have h := pw_cell_below hW (hsrc1 2 _ rfl); rw [← add_add, ← hbd] at h; exact h
   have y2 := hL1.1 2 _ rfl
   have x2 := hL1.2 2 _ rfl
   have p3 : (w.alloc o).cell? ⟨ad.block, ad.off + 3, none⟩ = some (.int .u8 a3) := by have h := pw_cell_below hW (hsrc0 3 _ rfl); exact h
   have s3 : (w.alloc o).cell? ⟨bd.block, bd.off + 3, none⟩ = some (.int .u8 b3) := by have h := pw_cell_below hW (hsrc1 3 _ rfl); rw [← add_add, ← hbd] at h; exact h
   have y3 := hL1.1 3 _ rfl
   have x3 := hL1.2 3 _ rfl
   have hcut1 := cut_to (P := Tryz.prog) 25 5 .i64 Tryz.underlying25 hi0 (some ad) l0.length c0 4 (by omega) (by omega) hc0
   have hcut2 := cut_from (P := Tryz.prog) 25 5 .i64 Tryz.underlying25 hi0 1 hsz (some ad) l0.length c0 4088 (by omega) (by omega)
   have hn1 : ¬ c0 = 4088 := by omega
   simp only [show (4 : Int).toNat = 4 from rfl, show (4088 : Int).toNat = 4088 from rfl, hn1, if_false, Nat.mul_one, Option.map_some, c, ← hbd] at hcut1 hcut2
   rw [show 4092 - 4088 = 4 from rfl] at hcut2
   have harr1 : ∀ W : World, (Instr.arrayAt 131 (.slice (some ad) 4 c0)).run Tryz.prog W = .ok (.pointer (some ad)) W := fun W => run_arrayAt (P := Tryz.prog) W 131 5 4 (some ad) 4 c0 Tryz.underlying131 (Nat.le_refl _)
   have harr2 : ∀ W : World, (Instr.arrayAt 131 (.slice (some bd) 4 (c0 - 4088))).run Tryz.prog W = .ok (.pointer (some bd)) W := fun W => run_arrayAt (P := Tryz.prog) W 131 5 4 (some bd) 4 (c0 - 4088) Tryz.underlying131 (Nat.le_refl _)
   have hneq1 := fun W : World => run_neq_four (P := Tryz.prog) W 131 5 Tryz.underlying131 Tryz.underlying5 hi0 hsz a0 a1 a2 a3 5 99 111 112
   have hneq2 := fun W : World => run_neq_four (P := Tryz.prog) W 131 5 Tryz.underlying131 Tryz.underlying5 hi0 hsz b0 b1 b2 b3 101 110 100 46
   have ht1 : (((a0 == 5) && ((a1 == 99) && ((a2 == 111) && (a3 == 112)))) = true) ↔ l0.take 4 = metaBegin := by
    rw [hf]
    unfold metaBegin
    simp only [Bool.and_eq_true, beq_iff_eq, List.cons.injEq, and_true]
   have ht2 : (((b0 == 101) && ((b1 == 110) && ((b2 == 100) && (b3 == 46)))) = true) ↔ l0.drop 4088 = metaEnd := by
    rw [he]
    unfold metaEnd
    simp only [Bool.and_eq_true, beq_iff_eq, List.cons.injEq, and_true]
   obtain ⟨t1, h1⟩ : ∃ t, ((a0 == 5) && ((a1 == 99) && ((a2 == 111) && (a3 == 112)))) = t := ⟨_, rfl⟩
   obtain ⟨t2, h2⟩ : ∃ t, ((b0 == 101) && ((b1 == 110) && ((b2 == 100) && (b3 == 46)))) = t := ⟨_, rfl⟩
   rw [h1] at ht1
   rw [h2] at ht2
   simp only [h1] at hneq1
   simp only [h2] at hneq2
   have HRR := Aside0.mk hR
   have HT1 := Aside0.mk ht1
   have HT2 := Aside0.mk ht2
   have HR0 := Aside0.mk hr0
   have HC := Aside0.mk c
   have hc4 : 4092 ≤ c0 := by omega
   rw [c]
   clear hf he hcell ha0 ha1 ha2 ha3 hb0 hb1 hb2 hb3 hsrc0 hsrc1 hbd hL1 hW h1 h2 ht1 ht2 hR hr0 hc0 hlen c hn1
   subst ho
   cases t1 with
   | false =>
    clear hL
    obtain rfl : (hd0, (70 : Int)) = R := by rw [← HRR.out]; exact (if_neg (fun h => by have := HT1.out.2 h.2.1; cases this)).symm
    go_enter Tryz.func89, Tryz.ntmps89
    go_wp2
    repeat (go_quiet (fail); try go_wp2)
    refine bodyPost_ret (results_cell_tmp_row rfl _ _ w.heap.size 28 #[.int .i64 0, .int .i64 0, .int .i64 0, .int .i64 0, .int .i64 0, .int .i64 0, .int .i64 0] (0, 0) _ (.int .i64 70) rfl rfl (head_store (blk_drewN (heap_alloc_new w (.cells #[.int .i64 0, .int .i64 0, .int .i64 0, .int .i64 0, .int .i64 0, .int .i64 0, .int .i64 0] 28)) _) _ _ _ _ _ _ _) Tryz.underlying28 rfl (by kernel_rfl)) rfl ?_
    exact ⟨rfl, by (with_reducible repeat (first | refine below_set ?_ (Nat.le_refl _) | apply pw_below_drewN | apply below_alloc)); exact Below.refl _ _⟩
   | true =>
    cases t2 with
    | false =>
     clear hL
     obtain rfl : (hd0, (70 : Int)) = R := by rw [← HRR.out]; exact (if_neg (fun h => by have := HT2.out.2 h.2.2; cases this)).symm
     go_enter Tryz.func89, Tryz.ntmps89
     go_wp2
     repeat (go_quiet (fail); try go_wp2)
     refine bodyPost_ret (results_cell_tmp_row rfl _ _ w.heap.size 28 #[.int .i64 0, .int .i64 0, .int .i64 0, .int .i64 0, .int .i64 0, .int .i64 0, .int .i64 0] (0, 0) _ (.int .i64 70) rfl rfl (head_store (blk_drewN (heap_alloc_new w (.cells #[.int .i64 0, .int .i64 0, .int .i64 0, .int .i64 0, .int .i64 0, .int .i64 0, .int .i64 0] 28)) _) _ _ _ _ _ _ _) Tryz.underlying28 rfl (by kernel_rfl)) rfl ?_
     exact ⟨rfl, by (with_reducible repeat (first | refine below_set ?_ (Nat.le_refl _) | apply pw_below_drewN | apply below_alloc)); exact Below.refl _ _⟩
    | true =>
     obtain ⟨x, hx⟩ : ∃ x, x = rdHead (l0.drop 4) := ⟨_, rfl⟩
     have hR := HRR.out
     rw [if_pos ⟨HC.out, HT1.out.1 rfl, HT2.out.1 rfl⟩, ← hx] at hR
     have hcut3 := cut_from (P := Tryz.prog) 25 5 .i64 Tryz.underlying25 hi0 1 hsz (some ad) 4092 c0 4 (by omega) (by omega)
     have hn2 : ¬ c0 = 4 := by omega
     obtain ⟨ad4, had4⟩ : ∃ a, a = ad.add 4 := ⟨_, rfl⟩
     simp only [show (4 : Int).toNat = 4 from rfl, hn2, if_false, Nat.mul_one, Option.map_some, ← had4] at hcut3
     rw [show 4092 - 4 = 4088 from rfl] at hcut3
     have hd4 := Kd.C_drop (m := 4) (c := c0) HR0.out (by rw [HC.out]; decide) (by rw [HC.out]; exact hc4)
     rw [if_neg hn2, show (Kd.int IntKind.u8).sz = 1 from rfl, Nat.mul_one, Option.map_some, ← had4] at hd4
     have hdl : (l0.drop 4).length = 4088 := by rw [List.length_drop, HC.out]
     obtain ⟨h, hh⟩ : ∃ h, h = l0.drop 4 := ⟨_, rfl⟩
     rw [← hh] at hd4 hdl hx
     have HN : Aside0 (∀ W, Below w.heap.size w W → Calls Tryz.prog 164 #[.slice (some ad4) 4088 (c0 - 4)] W (NewRd W h)) := ⟨fun W hW => by
      have hn := wire_NewReader.calls (some ad4) (c0 - 4) h W (Kd.C_below hd4 hW) (by omega) (by omega)
      rwa [hdl] at hn⟩
     obtain ⟨q1, hq1⟩ : ∃ q, takeR h 0 0 8 = q := ⟨_, rfl⟩
     have HQ1 := Aside0.mk hq1
     obtain ⟨q2, hq2⟩ : ∃ q, takeR h q1.2.1 q1.2.2 4 = q := ⟨_, rfl⟩
     have HQ2 := Aside0.mk hq2
     obtain ⟨q3, hq3⟩ : ∃ q, takeR h q2.2.1 q2.2.2 4 = q := ⟨_, rfl⟩
     have HQ3 := Aside0.mk hq3
     obtain ⟨q4, hq4⟩ : ∃ q, takeR h q3.2.1 q3.2.2 1 = q := ⟨_, rfl⟩
     have HQ4 := Aside0.mk hq4
     obtain ⟨q5, hq5⟩ : ∃ q, takeR h q4.2.1 q4.2.2 8 = q := ⟨_, rfl⟩
     have HQ5 := Aside0.mk hq5
     obtain ⟨q6, hq6⟩ : ∃ q, takeR h q5.2.1 q5.2.2 4 = q := ⟨_, rfl⟩
     have HQ6 := Aside0.mk hq6
     obtain ⟨q7, hq7⟩ : ∃ q, takeR h q6.2.1 q6.2.2 4 = q := ⟨_, rfl⟩
     have HQ7 := Aside0.mk hq7
     have hx2 : x = ⟨wrap64 (leGo 0 0 q1.1), leGo 0 0 q2.1 % 4294967296, leGo 0 0 q3.1 % 4294967296, leGo 0 0 q4.1 % 256, wrap64 (leGo 0 0 q5.1), leGo 0 0 q6.1 % 4294967296, leGo 0 0 q7.1 % 4294967296⟩ := by
      rw [hx]
      unfold rdHead getR
      simp only [hq1, hq2, hq3, hq4, hq5, hq6, hq7]
     have HX := Aside0.mk hx2
     have HEN := Aside0.mk (fun (W : World) (hW : MetaLaid W) => meta_Encode.calls (wrap64 (leGo 0 0 q1.1)) (leGo 0 0 q2.1 % 4294967296) (leGo 0 0 q3.1 % 4294967296) (leGo 0 0 q4.1 % 256) (wrap64 (leGo 0 0 q5.1)) (leGo 0 0 q6.1 % 4294967296) (leGo 0 0 q7.1 % 4294967296) W hW)
     obtain ⟨E, hE⟩ : ∃ E, encMetaR (wrap64 (leGo 0 0 q1.1)) (leGo 0 0 q2.1 % 4294967296) (leGo 0 0 q3.1 % 4294967296) (leGo 0 0 q4.1 % 256) (wrap64 (leGo 0 0 q5.1)) (leGo 0 0 q6.1 % 4294967296) (leGo 0 0 q7.1 % 4294967296) = E := ⟨_, rfl⟩
     simp only [hE] at HEN
     rw [hx2] at hR
     have hR2 : (if E.2 = 0 then (if eqStr E.1 l0 = true then ((⟨wrap64 (leGo 0 0 q1.1), leGo 0 0 q2.1 % 4294967296, leGo 0 0 q3.1 % 4294967296, leGo 0 0 q4.1 % 256, wrap64 (leGo 0 0 q5.1), leGo 0 0 q6.1 % 4294967296, leGo 0 0 q7.1 % 4294967296⟩ : Hd7), (0 : Int)) else (hd0, 70)) else (hd0, 70)) = R := by rw [← hE]; exact hR
     have HXR2 := Aside0.mk hR2
     have HL := Aside0.mk hL
     clear hx hR hR2 hL hE had4 hn2 hd4 hdl hh hx2 hq1 hq2 hq3 hq4 hq5 hq6 hq7 hi0 hsz
     go_enter Tryz.func89, Tryz.ntmps89
     go_upto_region 1 with (fail)
     go_quiet (fail)
     go_wp2_with fail
     clear p0 p1 p2 p3 s0 s1 s2 s3 y0 y1 y2 y3 x0 x1 x2 x3 hneq1 hneq2 harr1 harr2 hcut1 hcut2
     refine (HN.out _ (pw_below_drewN (below_alloc (Below.refl _ _) _) _)).mono ?_
     rintro e w1 ⟨g, wA, rfl, hb1, hI, hb2⟩
     have HWA := Aside0.mk (below_then (pw_below_drewN (below_alloc (Below.refl w.heap.size w) (.cells #[.int .i64 0, .int .i64 0, .int .i64 0, .int .i64 0, .int .i64 0, .int .i64 0, .int .i64 0] 28)) _) (by simp) hb1)
     have HRES0 := Aside0.mk (blk_below (blk_below (blk_drewN (heap_alloc_new w (.cells #[.int .i64 0, .int .i64 0, .int .i64 0, .int .i64 0, .int .i64 0, .int .i64 0, .int .i64 0] 28)) _) hb1) hb2)
     have hgg : w.heap.size ≠ g := by have h1 := blk_lt (blk_below (blk_drewN (heap_alloc_new w (.cells #[.int .i64 0, .int .i64 0, .int .i64 0, .int .i64 0, .int .i64 0, .int .i64 0, .int .i64 0] 28)) _) hb1); have h2 := hI.ge; omega
     have HGG := Aside0.mk hgg
     have HI0 := Aside0.mk hI
     have HB0 := Aside0.mk hb2
     clear hb1 hI hb2 HN hgg
     have hG := wire_Get_uint64.calls g h 0 0 wA w1 HI0.out HB0.out
     rw [HQ1.out] at hG
     have HG := Aside0.mk hG
     clear hG
     go_wp2_with fail
     refine HG.out.mono ?_
     rintro e v1 ⟨rfl, hI, hb, hk⟩
     have HI1 := Aside0.mk hI
     have HB1 := Aside0.mk hb
     have HRES1 := Aside0.mk (hk.blk HRES0.out HGG.out (by simp))
     clear hI hb hk HI0 HB0 HRES0 HG
     have hG := wire_Get_uint32.calls g h q1.2.1 q1.2.2 wA v1 HI1.out HB1.out
     rw [HQ2.out] at hG
     have HG := Aside0.mk hG
     clear hG
     go_wp2_with fail
     refine HG.out.mono ?_
     rintro e v2 ⟨rfl, hI, hb, hk⟩
     have HI2 := Aside0.mk hI
     have HB2 := Aside0.mk hb
     have HRES2 := Aside0.mk (hk.blk HRES1.out HGG.out (by simp))
     clear hI hb hk HI1 HB1 HRES1 HG
     have hG := wire_Get_uint32.calls g h q2.2.1 q2.2.2 wA v2 HI2.out HB2.out
     rw [HQ3.out] at hG
     have HG := Aside0.mk hG
     clear hG
     go_wp2_with fail
     refine HG.out.mono ?_
     rintro e v3 ⟨rfl, hI, hb, hk⟩
     have HI3 := Aside0.mk hI
     have HB3 := Aside0.mk hb
     have HRES3 := Aside0.mk (hk.blk HRES2.out HGG.out (by simp))
     clear hI hb hk HI2 HB2 HRES2 HG
     obtain ⟨gb, hgb⟩ : ∃ gb, gb = v3.heap.size := ⟨_, rfl⟩
     have hge : gb ≠ g := by have := HI3.out.lt; omega
     have HGE := Aside0.mk hge
     have HGW := Aside0.mk (show wA.heap.size ≤ gb by rw [hgb]; exact HB3.out.size)
     have HGV := Aside0.mk (show w.heap.size < gb by rw [hgb]; exact blk_lt HRES3.out)
     have HB4 := Aside0.mk (below_alloc HB3.out (.cells #[.int .i64 (wrap64 (leGo 0 0 q1.1)), .int .i64 (leGo 0 0 q2.1 % 4294967296), .int .i64 (leGo 0 0 q3.1 % 4294967296), .int .i64 0, .int .i64 0, .int .i64 0, .int .i64 0] 28))
     have HI4 := Aside0.mk (HI3.out.alloc (.cells #[.int .i64 (wrap64 (leGo 0 0 q1.1)), .int .i64 (leGo 0 0 q2.1 % 4294967296), .int .i64 (leGo 0 0 q3.1 % 4294967296), .int .i64 0, .int .i64 0, .int .i64 0, .int .i64 0] 28))
     have HRES4 := Aside0.mk (blk_alloc HRES3.out (.cells #[.int .i64 (wrap64 (leGo 0 0 q1.1)), .int .i64 (leGo 0 0 q2.1 % 4294967296), .int .i64 (leGo 0 0 q3.1 % 4294967296), .int .i64 0, .int .i64 0, .int .i64 0, .int .i64 0] 28))
     have HBK4 := Aside0.mk (show (v3.alloc (.cells #[.int .i64 (wrap64 (leGo 0 0 q1.1)), .int .i64 (leGo 0 0 q2.1 % 4294967296), .int .i64 (leGo 0 0 q3.1 % 4294967296), .int .i64 0, .int .i64 0, .int .i64 0, .int .i64 0] 28)).heap[gb]? = some (.cells #[.int .i64 (wrap64 (leGo 0 0 q1.1)), .int .i64 (leGo 0 0 q2.1 % 4294967296), .int .i64 (leGo 0 0 q3.1 % 4294967296), .int .i64 0, .int .i64 0, .int .i64 0, .int .i64 0] 28 (0, 0)) by rw [hgb]; exact heap_alloc_new v3 _)
     have hG := wire_Get_uint8.calls g h q3.2.1 q3.2.2 wA _ HI4.out HB4.out
     rw [HQ4.out] at hG
     have HG := Aside0.mk hG
     have HGB := Aside0.mk hgb
     clear hG hgb hge HI3 HB3 HRES3
     go_wp2_with fail
     refine HG.out.mono ?_
     rintro e v5 ⟨rfl, hI, hb, hk⟩
     have HI5 := Aside0.mk hI
     have HB5 := Aside0.mk hb
     have HRES5 := Aside0.mk (hk.blk HRES4.out HGG.out (by simp))
     have HBK5 := Aside0.mk (hk.blk HBK4.out HGE.out (by simp))
     have hG := wire_Get_uint64.calls g h q4.2.1 q4.2.2 wA v5 hI hb
     rw [HQ5.out] at hG
     have HG := Aside0.mk hG
     clear hG hI hb hk HI4 HB4 HRES4 HBK4
     go_wp2_with fail
     refine HG.out.mono ?_
     rintro e v6 ⟨rfl, hI, hb, hk⟩
     rw [← HGB.out]
     have hbk := hk.blk HBK5.out HGE.out (by simp)
     have z3 := (blk_cell hbk 3).trans rfl
     have z4 := (blk_cell hbk 4).trans rfl
     have f3 := blk_frozen hbk 3
     have f4 := blk_frozen hbk 4
     have hge := HGE.out
     have HI6 := Aside0.mk ((hI.far (q := ⟨gb, 3, none⟩) (fun e => hge e.symm) (.int .i64 (leGo 0 0 q4.1 % 256))).far (q := ⟨gb, 4, none⟩) (fun e => hge e.symm) (.int .i64 (wrap64 (leGo 0 0 q5.1))))
     have HB6 := Aside0.mk (below_set (g := gb) (j := 4) (v := .int .i64 (wrap64 (leGo 0 0 q5.1))) (below_set (g := gb) (j := 3) (v := .int .i64 (leGo 0 0 q4.1 % 256)) hb HGW.out) HGW.out)
     have HRES6 := Aside0.mk (blk_far (p := ⟨gb, 4, none⟩) (blk_far (p := ⟨gb, 3, none⟩) (hk.blk HRES5.out HGG.out (by simp)) (by have := HGV.out; exact Nat.ne_of_lt this) (.int .i64 (leGo 0 0 q4.1 % 256))) (by have := HGV.out; exact Nat.ne_of_lt this) (.int .i64 (wrap64 (leGo 0 0 q5.1))))
     have HBK6 := Aside0.mk (show ((v6.setCell ⟨gb, 3, none⟩ (.int .i64 (leGo 0 0 q4.1 % 256))).setCell ⟨gb, 4, none⟩ (.int .i64 (wrap64 (leGo 0 0 q5.1)))).heap[gb]? = some (.cells #[.int .i64 (wrap64 (leGo 0 0 q1.1)), .int .i64 (leGo 0 0 q2.1 % 4294967296), .int .i64 (leGo 0 0 q3.1 % 4294967296), .int .i64 (leGo 0 0 q4.1 % 256), .int .i64 (wrap64 (leGo 0 0 q5.1)), .int .i64 0, .int .i64 0] 28 (0, 0)) by simpa using blk_set (blk_set hbk 3 (.int .i64 (leGo 0 0 q4.1 % 256))) 4 (.int .i64 (wrap64 (leGo 0 0 q5.1))))
     have hG := wire_Get_uint32.calls g h q5.2.1 q5.2.2 wA _ HI6.out HB6.out
     rw [HQ6.out] at hG
     have HG := Aside0.mk hG
     clear hG hI hb hk hbk hge HI5 HB5 HRES5 HBK5
     go_wp2_with fail
     refine HG.out.mono ?_
     rintro e v7 ⟨rfl, hI, hb, hk⟩
     have HRES7 := Aside0.mk (hk.blk HRES6.out HGG.out (by simp))
     have HBK7 := Aside0.mk (hk.blk HBK6.out HGE.out (by simp))
     have hG := wire_Get_uint32.calls g h q6.2.1 q6.2.2 wA v7 hI hb
     rw [HQ7.out] at hG
     have HG := Aside0.mk hG
     clear z3 z4 f3 f4 hG hI hb hk HI6 HB6 HRES6 HBK6
     go_wp2_with fail
     refine HG.out.mono ?_
     rintro e v8 ⟨rfl, hI, hb, hk⟩
     have hbk := hk.blk HBK7.out HGE.out (by simp)
     have z0 := (blk_cell hbk 0).trans rfl
     have z1 := (blk_cell hbk 1).trans rfl
     have z2 := (blk_cell hbk 2).trans rfl
     have z3 := (blk_cell hbk 3).trans rfl
     have z4 := (blk_cell hbk 4).trans rfl
     have z5 := (blk_cell hbk 5).trans rfl
     have z6 := (blk_cell hbk 6).trans rfl
     have f5 := blk_frozen hbk 5
     have f6 := blk_frozen hbk 6
     have HB8 := Aside0.mk (below_set (g := gb) (j := 6) (v := .int .i64 (leGo 0 0 q7.1 % 4294967296)) (below_set (g := gb) (j := 5) (v := .int .i64 (leGo 0 0 q6.1 % 4294967296)) hb HGW.out) HGW.out)
     have HRES8 := Aside0.mk (blk_far (p := ⟨gb, 6, none⟩) (blk_far (p := ⟨gb, 5, none⟩) (hk.blk HRES7.out HGG.out (by simp)) (by have := HGV.out; exact Nat.ne_of_lt this) (.int .i64 (leGo 0 0 q6.1 % 4294967296))) (by have := HGV.out; exact Nat.ne_of_lt this) (.int .i64 (leGo 0 0 q7.1 % 4294967296)))
     have HBK8 := Aside0.mk (show ((v8.setCell ⟨gb, 5, none⟩ (.int .i64 (leGo 0 0 q6.1 % 4294967296))).setCell ⟨gb, 6, none⟩ (.int .i64 (leGo 0 0 q7.1 % 4294967296))).heap[gb]? = some (.cells #[.int .i64 (wrap64 (leGo 0 0 q1.1)), .int .i64 (leGo 0 0 q2.1 % 4294967296), .int .i64 (leGo 0 0 q3.1 % 4294967296), .int .i64 (leGo 0 0 q4.1 % 256), .int .i64 (wrap64 (leGo 0 0 q5.1)), .int .i64 (leGo 0 0 q6.1 % 4294967296), .int .i64 (leGo 0 0 q7.1 % 4294967296)] 28 (0, 0)) by simpa using blk_set (blk_set hbk 5 (.int .i64 (leGo 0 0 q6.1 % 4294967296))) 6 (.int .i64 (leGo 0 0 q7.1 % 4294967296)))
     clear hI hb hk hbk HRES7 HBK7 HG
     go_wp2_with fail
     refine (HEN.out _ (HL.out.below (below_step HWA.out HB8.out))).mono ?_
     rintro e v9 ⟨u, rfl, hR9, hB9⟩
     obtain ⟨A9, c9, rfl, hl9, hC9⟩ := Kd.R_reads hR9
     have hbk := blk_below HBK8.out hB9
     have hres := blk_below HRES8.out hB9
     have HBW := Aside0.mk (below_step (below_step HWA.out HB8.out) hB9)
     have HRES9 := Aside0.mk hres
     clear z0 z1 z2 z3 z4 z5 z6 f5 f6 HB8 HRES8 HBK8 HEN
     have z0 := (blk_cell hbk 0).trans rfl
     have z1 := (blk_cell hbk 1).trans rfl
     have z2 := (blk_cell hbk 2).trans rfl
     have z3 := (blk_cell hbk 3).trans rfl
     have z4 := (blk_cell hbk 4).trans rfl
     have z5 := (blk_cell hbk 5).trans rfl
     have z6 := (blk_cell hbk 6).trans rfl
     have r0 := (blk_cell hres 0).trans rfl
     have fr0 := blk_frozen hres 0
     have r1 := (blk_cell hres 1).trans rfl
     have fr1 := blk_frozen hres 1
     have r2 := (blk_cell hres 2).trans rfl
     have fr2 := blk_frozen hres 2
     have r3 := (blk_cell hres 3).trans rfl
     have fr3 := blk_frozen hres 3
     have r4 := (blk_cell hres 4).trans rfl
     have fr4 := blk_frozen hres 4
     have r5 := (blk_cell hres 5).trans rfl
     have fr5 := blk_frozen hres 5
     have r6 := (blk_cell hres 6).trans rfl
     have fr6 := blk_frozen hres 6
     have hcv1 := Kd.C_string (P := Tryz.prog) (A := A9) (c := c9) Tryz.underlying25 Tryz.underlying5 Tryz.underlying9 hC9
     have hC0 := Kd.C_below HR0.out HBW.out
     rw [HC.out] at hC0
     have hcv2 := Kd.C_string (P := Tryz.prog) (A := some ad) (c := c0) Tryz.underlying25 Tryz.underlying5 Tryz.underlying9 hC0
     clear hR9 hB9 hl9 hC9 hC0 hbk hres
     by_cases ce : E.2 = 0
     · have de1 : (E.2 == 0) = true := beq_iff_eq.mpr ce
       have de2 : (E.2 != 0) = false := bne_eq_false_iff_eq.mpr ce
       obtain ⟨b, hb⟩ : ∃ b, eqStr E.1 l0 = b := ⟨_, rfl⟩
       have hR := HXR2.out
       rw [if_pos ce, hb] at hR
       unfold eqStr at hb
       cases b with
       | true =>
        have de3 : ((strOfNums E.1).toList != (strOfNums l0).toList) = false := by rw [bne, hb]; rfl
        obtain rfl : ((⟨wrap64 (leGo 0 0 q1.1), leGo 0 0 q2.1 % 4294967296, leGo 0 0 q3.1 % 4294967296, leGo 0 0 q4.1 % 256, wrap64 (leGo 0 0 q5.1), leGo 0 0 q6.1 % 4294967296, leGo 0 0 q7.1 % 4294967296⟩ : Hd7), (0 : Int)) = R := hR
        clear ce HXR2
        go_wp2
        refine bodyPost_ret (results_cell_tmp_row rfl _ _ w.heap.size 28 #[.int .i64 (wrap64 (leGo 0 0 q1.1)), .int .i64 (leGo 0 0 q2.1 % 4294967296), .int .i64 (leGo 0 0 q3.1 % 4294967296), .int .i64 (leGo 0 0 q4.1 % 256), .int .i64 (wrap64 (leGo 0 0 q5.1)), .int .i64 (leGo 0 0 q6.1 % 4294967296), .int .i64 (leGo 0 0 q7.1 % 4294967296)] (0, 0) _ (.int .i64 0) rfl rfl (head_store HRES9.out _ _ _ _ _ _ _) Tryz.underlying28 rfl (by kernel_rfl)) rfl ?_
        exact ⟨rfl, by (with_reducible repeat (first | refine below_set ?_ (Nat.le_refl _))); exact HBW.out⟩
       | false =>
        have de3 : ((strOfNums E.1).toList != (strOfNums l0).toList) = true := by rw [bne, hb]; rfl
        obtain rfl : (hd0, (70 : Int)) = R := hR
        clear ce HXR2
        go_wp2
        refine bodyPost_ret (results_cell_tmp_row rfl _ _ w.heap.size 28 #[.int .i64 0, .int .i64 0, .int .i64 0, .int .i64 0, .int .i64 0, .int .i64 0, .int .i64 0] (0, 0) _ (.int .i64 70) rfl rfl (head_store HRES9.out _ _ _ _ _ _ _) Tryz.underlying28 rfl (by kernel_rfl)) rfl ?_
        exact ⟨rfl, by (with_reducible repeat (first | refine below_set ?_ (Nat.le_refl _))); exact HBW.out⟩
     · have de1 : (E.2 == 0) = false := beq_eq_false_iff_ne.mpr ce
       have de2 : (E.2 != 0) = true := bne_iff_ne.mpr ce
       obtain rfl : (hd0, (70 : Int)) = R := by rw [← HXR2.out]; exact (if_neg ce).symm
       clear ce HXR2 hcv1 hcv2
       go_wp2
       refine bodyPost_ret (results_cell_tmp_row rfl _ _ w.heap.size 28 #[.int .i64 0, .int .i64 0, .int .i64 0, .int .i64 0, .int .i64 0, .int .i64 0, .int .i64 0] (0, 0) _ (.int .i64 70) rfl rfl (head_store HRES9.out _ _ _ _ _ _ _) Tryz.underlying28 rfl (by kernel_rfl)) rfl ?_
       exact ⟨rfl, by (with_reducible repeat (first | refine below_set ?_ (Nat.le_refl _))); exact HBW.out⟩
 · obtain rfl : (hd0, (70 : Int)) = R := by rw [← hR]; exact (if_neg (fun h => c h.1)).symm
   have d1 : ((l0.length : Int) == 4092) = false := beq_eq_false_iff_ne.mpr (by omega)
   have d2 : ((l0.length : Int) != 4092) = true := bne_iff_ne.mpr (by omega)
   clear hL hr0 hc0 c hR
   go_enter Tryz.func89, Tryz.ntmps89
   go_wp2
   repeat (go_quiet (fail); try go_wp2)
   refine bodyPost_ret (results_cell_tmp_row rfl _ _ w.heap.size 28 #[.int .i64 0, .int .i64 0, .int .i64 0, .int .i64 0, .int .i64 0, .int .i64 0, .int .i64 0] (0, 0) _ (.int .i64 70) rfl rfl (head_store (blk_drewN (heap_alloc_new w (.cells #[.int .i64 0, .int .i64 0, .int .i64 0, .int .i64 0, .int .i64 0, .int .i64 0, .int .i64 0] 28)) _) _ _ _ _ _ _ _) Tryz.underlying28 rfl (by kernel_rfl)) rfl ?_
   exact ⟨rfl, by (with_reducible repeat (first | refine below_set ?_ (Nat.le_refl _) | apply pw_below_drewN | apply below_alloc)); exact Below.refl _ _⟩
end Go.Proofs.YtppjphghlclklaaGreatDoor.P
end
