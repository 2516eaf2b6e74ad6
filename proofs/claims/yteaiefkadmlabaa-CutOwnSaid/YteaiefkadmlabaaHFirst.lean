/- Machine steps of the program, written by a program of this session out of the translation. -/
import Derived.Test.YteaiefkadmlabaaP0
import Derived.Test.YteaiefkadmlabaaP1
import Derived.Test.YteaiefkadmlabaaP7
import Derived.Test.YteaiefkadmlabaaHBranch
import Derived.Test.YteaiefkadmlabaaHLeaf
import Derived.Test.YteaiefkadmlabaaHPlain
import Derived.Lib.SlBytesConst
namespace Go.Proofs.Yteaiefkadmlabaa.P
open Go.RowKit Go.Proofs.YteaiefkadmlabaaW.PrintWords Go.Proofs.YteaiefkadmlabaaW.PrintLast Go.Proofs.YteaiefkadmlabaaW.PrintMore
attribute [local go_sem] max2_int min2_int max_two min_two max_three min_three max_four min_four   -- for this text's walks alone
set_option linter.unusedVariables false
set_option linter.unusedSimpArgs false

/-! coppicelaw9.first: the chapter's examples. -/
def coppicelaw9_first.f : Option Bool := some true
theorem first_leaf : cut_Leaf.f 64 (plainL 9) = some 4 := by decide +kernel
theorem first_two : cut_JoinLeaves.f 64 ((plainL 9).take 2) (((plainL 9).take 5).drop 2) = some true := by decide +kernel
theorem first_three : cut_JoinLeaves.f 64 ((plainL 9).take 3) (((plainL 9).take 6).drop 3) = some false := by decide +kernel
theorem first_one : cut_Branch.f 64 [[109]] = some 1 := by decide +kernel
theorem first_none : cut_JoinBranches.f 64 [] [109] [] = some true := by decide +kernel
theorem first_fits : cut_Fits.f 4092 = some true := by decide +kernel
theorem first_not : cut_Fits.f 4093 = some false := by decide +kernel
/-- A list of one list of one byte, made anew. -/
theorem made_one (W : World) (x : Int) (fr : Nat × Nat) : Kd.C (Kd.int .u8) (W.alloc (.cells #[.int .u8 x] 5 fr)) (some ⟨W.heap.size, 0, none⟩) 1 [x] := by
  refine ⟨rfl, by omega, fun _ => ⟨_, rfl, fun j p hj => ?_⟩⟩
  match j, hj with
  | 0, hj =>
    obtain rfl : x = p := by simpa using hj
    refine ⟨[.int .u8 x], rfl, rfl, fun i u hu => ?_⟩
    match i, hu with
    | 0, hu =>
      obtain rfl : Value.int .u8 x = u := by simpa using hu
      rw [show (Kd.int IntKind.u8).sz = 1 from rfl, add_plain]
      rw [World.cell?_alloc_mark]
      rfl
/-- What is read of a world is read of every world that has its blocks. -/
theorem F_all {α : Type} {d : Kd α} (hd : Kd.Heap d) {w : World} {A : Option Addr} {n : Nat} {xs : List α} (h : d.C w A n xs) : Kd.F d w (fun _ => True) A n xs := fun _ hW => hd.C (fun k hk => hW k trivial hk) h
theorem made_list (W : World) (x : Int) (A : Option Addr) (h : Kd.C (Kd.int .u8) W A 1 [x]) : Kd.C (Kd.slice 5 (Kd.int .u8)) (W.alloc (.cells #[.slice A 1 1] 32)) (some ⟨W.heap.size, 0, none⟩) 1 [[x]] := by
  refine ⟨rfl, by omega, fun _ => ⟨_, rfl, fun j p hj => ?_⟩⟩
  match j, hj with
  | 0, hj =>
    obtain rfl : [x] = p := by simpa using hj
    refine ⟨[.slice A 1 1], rfl, ⟨A, 1, rfl, Nat.le_refl _, Kd.C_below h (below_alloc (Below.refl _ _) _)⟩, fun i u hu => ?_⟩
    match i, hu with
    | 0, hu =>
      obtain rfl : Value.slice A 1 1 = u := by simpa using hu
      simp [Addr.add]
set_option maxHeartbeats 4000000 in
set_option maxRecDepth 100000 in
theorem coppicelaw9_first.calls (r : Bool) (w : World) (h : coppicelaw9_first.f = some r) :
    Calls Try.prog 11 #[] w fun e w' => e = .returned (.bool r) ∧ Below w.heap.size w w' := by
  obtain rfl : true = r := Option.some.inj h
  clear h
  have hp : coppicelaw9_plain.f 9 = some (plainL 9) := rfl
  obtain ⟨i0, hi0, _, hsz, _⟩ := info_parts info38
  have kc := fun (w : World) (C : Array Value) (n c : Nat) => Lib.run_convert_bytes_const (P := Try.prog) w 32 5 C n c Try.underlying32 Try.underlying5
  go_enter Try.func11, Try.ntmps11
  go_wp2_with fail
  refine (coppicelaw9_plain.calls 9 _ _ hp).mono ?_
  rintro e w1 ⟨v, rfl, hN, hb1⟩
  obtain ⟨A0, c0, hv, hc0, hC⟩ := Kd.N_reads hN
  rw [plainL_length] at hv hC
  clear hN hp
  rw [hv]
  have HC := Aside0.mk hC
  have HC0 := Aside0.mk (show (plainL 9).length ≤ c0 from hc0)
  have HB1 := Aside0.mk hb1
  have h9 : 9 ≤ c0 := by simpa [plainL_length] using hc0
  have hcut2 := cut_to (P := Try.prog) 24 38 .i64 Try.underlying24 hi0 A0 9 c0 2 (by omega) (by omega) h9
  have hcut3 := cut_to (P := Try.prog) 24 38 .i64 Try.underlying24 hi0 A0 9 c0 3 (by omega) (by omega) h9
  have hcut5 := cut_mid (P := Try.prog) 24 38 .i64 .i64 Try.underlying24 hi0 4 hsz A0 9 c0 2 5 (by omega) (by omega) (by omega) h9
  have hcut6 := cut_mid (P := Try.prog) 24 38 .i64 .i64 Try.underlying24 hi0 4 hsz A0 9 c0 3 6 (by omega) (by omega) (by omega) h9
  obtain ⟨A2, hA2⟩ : ∃ A2, A2 = (if c0 = Int.toNat 2 then A0 else A0.map (·.add (Int.toNat 2 * 4))) := ⟨_, rfl⟩
  obtain ⟨A3, hA3⟩ : ∃ A3, A3 = (if c0 = Int.toNat 3 then A0 else A0.map (·.add (Int.toNat 3 * 4))) := ⟨_, rfl⟩
  rw [← hA2] at hcut5
  rw [← hA3] at hcut6
  simp only [Int.reduceToNat, Nat.reduceSub] at hcut2 hcut3 hcut5 hcut6
  have hC' : Kd.C k38 w1 A0 (plainL 9).length (plainL 9) := by rw [plainL_length]; exact hC
  have HT2 := Aside0.mk (show Kd.C k38 w1 A0 2 ((plainL 9).take 2) from Kd.C_take hC' (by rw [plainL_length]; omega))
  have HT3 := Aside0.mk (show Kd.C k38 w1 A0 3 ((plainL 9).take 3) from Kd.C_take hC' (by rw [plainL_length]; omega))
  have HM2 := Aside0.mk (show Kd.C k38 w1 A2 3 (((plainL 9).take 5).drop 2) by rw [hA2]; exact Kd.C_mid (c := c0) hC' (by omega) (by rw [plainL_length]; omega) HC0.out)
  have HM3 := Aside0.mk (show Kd.C k38 w1 A3 3 (((plainL 9).take 6).drop 3) by rw [hA3]; exact Kd.C_mid (c := c0) hC' (by omega) (by rw [plainL_length]; omega) HC0.out)
  have hleaf := cut_Leaf.calls 64 A0 c0 (plainL 9) 4 w1 hC' hc0 first_leaf
  rw [plainL_length] at hleaf
  have HLEAF := Aside0.mk hleaf
  have htwo : ∀ W, Below w1.heap.size w1 W → Calls Try.prog 20 #[.slice A0 2 c0, .slice A2 3 (c0 - 2)] W fun e w' => e = .returned (.bool true) ∧ Below W.heap.size W w' := fun W hW =>
    cut_JoinLeaves.calls 64 A0 c0 ((plainL 9).take 2) A2 (c0 - 2) (((plainL 9).take 5).drop 2) true W (Kd.C_below HT2.out hW) (by show 2 ≤ c0; omega) (Kd.C_below HM2.out hW) (by show 3 ≤ c0 - 2; omega) first_two
  have hthree : ∀ W, Below w1.heap.size w1 W → Calls Try.prog 20 #[.slice A0 3 c0, .slice A3 3 (c0 - 3)] W fun e w' => e = .returned (.bool false) ∧ Below W.heap.size W w' := fun W hW =>
    cut_JoinLeaves.calls 64 A0 c0 ((plainL 9).take 3) A3 (c0 - 3) (((plainL 9).take 6).drop 3) false W (Kd.C_below HT3.out hW) (by show 3 ≤ c0; omega) (Kd.C_below HM3.out hW) (by show 3 ≤ c0 - 3; omega) first_three
  have HTWO := Aside0.mk htwo
  have HTHREE := Aside0.mk hthree
  clear hC hC' hc0 hb1 hi0 hsz hA2 hA3 hleaf htwo hthree HT2 HT3 HM2 HM3 HC h9 hv HC0
  go_wp2_with fail
  refine HLEAF.out.mono ?_
  rintro e w2 ⟨rfl, hb2⟩
  have HB2 := Aside0.mk hb2
  clear hb2 HLEAF
  go_wp2
  go_region_with (go_at_call 20; (with_reducible refine (HTWO.out _ (below_drew HB2.out)).mono ?_); rintro e w3 ⟨rfl, hb3⟩)
  have HB3 := Aside0.mk (below_then (below_drew HB2.out) (below_drew HB2.out).size hb3)
  clear hb3 HTWO HB2
  go_wp2
  go_region_with (go_at_call 20; (with_reducible refine (HTHREE.out _ (below_drew HB3.out)).mono ?_); rintro e w4 ⟨rfl, hb4⟩)
  have HB4 := Aside0.mk (below_then HB1.out HB1.out.size (below_then (below_drew HB3.out) (below_drew HB3.out).size hb4))
  clear hb4 HTHREE HB3 HB1
  have hb5 := below_then HB4.out HB4.out.size (below_alloc (below_alloc (Below.refl w4.heap.size w4) (.cells #[.int .u8 109] 5 (1, 2))) (.cells #[.slice (some ⟨w4.heap.size, 0, none⟩) 1 1] 32))
  have hone := made_list (w4.alloc (.cells #[.int .u8 109] 5 (1, 2))) 109 _ (made_one w4 109 (1, 2))
  have hcone := cut_Branch.calls 64 _ 1 [[109]] 1 _ hone (Nat.le_refl _) first_one
  rw [show (w4.alloc (.cells #[.int .u8 109] 5 (1, 2))).heap.size = w4.heap.size + 1 by simp] at hcone
  have HONE := Aside0.mk hcone
  have HB5 := Aside0.mk hb5
  clear hone hcone hb5
  go_wp2_with fail
  refine HONE.out.mono ?_
  rintro e w5 ⟨rfl, hb6⟩
  have HB6 := Aside0.mk (below_then HB5.out HB5.out.size hb6)
  clear hb6 HB5 HONE HB4
  have hm := made_one w5 109 (1, 2)
  have hnone := cut_JoinBranches.calls 64 (fun _ => True) none 0 [] (fun _ => True) (some ⟨w5.heap.size, 0, none⟩) 1 [109] (fun _ => True) none 0 [] true (w5.alloc (.cells #[.int .u8 109] 5 (1, 2))) (Kd.V_nil _ _ _ _ _) (Kd.V_mk (Nat.le_refl _) (F_all (Kd.heap_int _) hm)) (Kd.V_nil _ _ _ _ _) first_none
  have HNONE := Aside0.mk hnone
  clear hm hnone
  go_wp2_with fail
  refine HNONE.out.mono ?_
  rintro e w6 ⟨rfl, hb7⟩
  have HB7 := Aside0.mk (below_then HB6.out HB6.out.size (below_then (below_alloc (Below.refl w5.heap.size w5) _) (below_alloc (Below.refl w5.heap.size w5) _).size hb7))
  clear hb7 HB6 HNONE
  go_wp2_with (first | (go_at_call 12; (with_reducible refine (cut_Fits.calls 4092 true _ first_fits).mono ?_); rintro e w7 ⟨rfl, ⟨n7, rfl⟩⟩) | (go_at_call 12; (with_reducible refine (cut_Fits.calls 4093 false _ first_not).mono ?_); rintro e w8 ⟨rfl, ⟨n8, rfl⟩⟩))
  go_ret
  exact ⟨rfl, by repeat (first | exact HB7.out | apply pw_below_drewN)⟩

end Go.Proofs.Yteaiefkadmlabaa.P
