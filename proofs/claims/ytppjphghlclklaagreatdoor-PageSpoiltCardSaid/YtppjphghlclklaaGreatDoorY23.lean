/- Parts of a proof, laid together by a program of this session (slim.py). -/
import Derived.Test.YtppjphghlclklaaGreatDoorY21
import Derived.Test.YtppjphghlclklaaGreatDoorY18
import Derived.Test.YtppjphghlclklaaGreatDoorY19
import Derived.Test.YtppjphghlclklaaGreatDoorY13
import Derived.Test.YtppjphghlclklaaGreatDoorY16
import Derived.Laws.Bits64b
import Derived.Test.YtppjphghlclklaaGreatDoorY22
import Derived.Test.YtppjphghlclklaaGreatDoorY0
import Derived.Deep.Slices
import Derived.DataReads
import Derived.DataElems
import Derived.ChangeArms
import Derived.SizedLaws
import Derived.KernelRfl
import Derived.OpenShut
import Derived.Lib.SmallJoins
import Derived.Test.YtppjphghlclklaaGreatDoorTie
import Derived.LaidMore
import Derived.FnData
import Derived.Deep.CutBlock
import Derived.BigQuiet
set_option maxHeartbeats 8000000
set_option maxRecDepth 100000
section
namespace Go.Proofs.YtppjphghlclklaaGreatDoor.P
open Go.RowKit Go.Proofs.YtppjphghlclklaaGreatDoorW.PrintWords Go.Proofs.YtppjphghlclklaaGreatDoorW.PrintLast Go.Proofs.YtppjphghlclklaaGreatDoorW.PrintMore
attribute [local go_sem] max2_int min2_int max_two min_two max_three min_three max_four min_four
set_option linter.unusedVariables false
set_option linter.unusedSimpArgs false
theorem sameHead_any (a0 a1 a2 a3 a4 a5 a6 b0 b1 b2 b3 b4 b5 b6 : Int) (w : World) :
 Calls Tryz.prog 52 #[.agg #[.int .i64 a0, .int .i64 a1, .int .i64 a2, .int .i64 a3, .int .i64 a4, .int .i64 a5, .int .i64 a6], .agg #[.int .i64 b0, .int .i64 b1, .int .i64 b2, .int .i64 b3, .int .i64 b4, .int .i64 b5, .int .i64 b6]] w fun e w' => ∃ r : Bool, e = .returned (.bool r) ∧ (r = true ↔ (⟨a0, a1, a2, a3, a4, a5, a6⟩ : Hd7) = ⟨b0, b1, b2, b3, b4, b5, b6⟩) ∧ Below w.heap.size w w' := by
 go_enter Tryz.func52, Tryz.ntmps52
 go_upto_region 1 with (fail)
 obtain ⟨w1, hw1⟩ : ∃ x, x = (w.alloc (.cells #[.int .i64 a0, .int .i64 a1, .int .i64 a2, .int .i64 a3, .int .i64 a4, .int .i64 a5, .int .i64 a6] 28)).alloc (.cells #[.int .i64 b0, .int .i64 b1, .int .i64 b2, .int .i64 b3, .int .i64 b4, .int .i64 b5, .int .i64 b6] 28) := ⟨_, rfl⟩
 rw [← hw1]
 have hp := (Below.block (below_alloc (Below.refl _ _) (.cells #[.int .i64 b0, .int .i64 b1, .int .i64 b2, .int .i64 b3, .int .i64 b4, .int .i64 b5, .int .i64 b6] 28)) _ (blk_lt (heap_alloc_new w (.cells #[.int .i64 a0, .int .i64 a1, .int .i64 a2, .int .i64 a3, .int .i64 a4, .int .i64 a5, .int .i64 a6] 28)))).trans (heap_alloc_new w (.cells #[.int .i64 a0, .int .i64 a1, .int .i64 a2, .int .i64 a3, .int .i64 a4, .int .i64 a5, .int .i64 a6] 28))
 have hq := alloc_two w (.cells #[.int .i64 a0, .int .i64 a1, .int .i64 a2, .int .i64 a3, .int .i64 a4, .int .i64 a5, .int .i64 a6] 28) (.cells #[.int .i64 b0, .int .i64 b1, .int .i64 b2, .int .i64 b3, .int .i64 b4, .int .i64 b5, .int .i64 b6] 28)
 have HB : Aside0 (Below w.heap.size w w1) := ⟨by rw [hw1]; exact below_alloc (below_alloc (Below.refl _ _) _) _⟩
 rw [← hw1] at hp hq
 have x0 := (blk_cell hp 0).trans rfl
 have x1 := (blk_cell hp 1).trans rfl
 have x2 := (blk_cell hp 2).trans rfl
 have x3 := (blk_cell hp 3).trans rfl
 have x4 := (blk_cell hp 4).trans rfl
 have x5 := (blk_cell hp 5).trans rfl
 have x6 := (blk_cell hp 6).trans rfl
 have y0 := (blk_cell hq 0).trans rfl
 have y1 := (blk_cell hq 1).trans rfl
 have y2 := (blk_cell hq 2).trans rfl
 have y3 := (blk_cell hq 3).trans rfl
 have y4 := (blk_cell hq 4).trans rfl
 have y5 := (blk_cell hq 5).trans rfl
 have y6 := (blk_cell hq 6).trans rfl
 clear hw1 hp hq
 by_cases c0 : a0 = b0
 rotate_left
 · have d1 : (a0 == b0) = false := beq_eq_false_iff_ne.mpr c0
   have d2 : decide (a0 = b0) = false := decide_eq_false c0
   go_wp2
   go_ret
   exact ⟨false, rfl, ⟨fun h => absurd h (by decide), fun h => by injection h with z0 z1 z2 z3 z4 z5 z6; exact absurd z0 c0⟩, HB.out⟩
 subst c0
 by_cases c1 : a1 = b1
 rotate_left
 · have d1 : (a1 == b1) = false := beq_eq_false_iff_ne.mpr c1
   have d2 : decide (a1 = b1) = false := decide_eq_false c1
   go_wp2
   go_ret
   exact ⟨false, rfl, ⟨fun h => absurd h (by decide), fun h => by injection h with z0 z1 z2 z3 z4 z5 z6; exact absurd z1 c1⟩, HB.out⟩
 subst c1
 by_cases c2 : a2 = b2
 rotate_left
 · have d1 : (a2 == b2) = false := beq_eq_false_iff_ne.mpr c2
   have d2 : decide (a2 = b2) = false := decide_eq_false c2
   go_wp2
   go_ret
   exact ⟨false, rfl, ⟨fun h => absurd h (by decide), fun h => by injection h with z0 z1 z2 z3 z4 z5 z6; exact absurd z2 c2⟩, HB.out⟩
 subst c2
 by_cases c3 : a3 = b3
 rotate_left
 · have d1 : (a3 == b3) = false := beq_eq_false_iff_ne.mpr c3
   have d2 : decide (a3 = b3) = false := decide_eq_false c3
   go_wp2
   go_ret
   exact ⟨false, rfl, ⟨fun h => absurd h (by decide), fun h => by injection h with z0 z1 z2 z3 z4 z5 z6; exact absurd z3 c3⟩, HB.out⟩
 subst c3
 by_cases c4 : a4 = b4
 rotate_left
 · have d1 : (a4 == b4) = false := beq_eq_false_iff_ne.mpr c4
   have d2 : decide (a4 = b4) = false := decide_eq_false c4
   go_wp2
   go_ret
   exact ⟨false, rfl, ⟨fun h => absurd h (by decide), fun h => by injection h with z0 z1 z2 z3 z4 z5 z6; exact absurd z4 c4⟩, HB.out⟩
 subst c4
 by_cases c5 : a5 = b5
 rotate_left
 · have d1 : (a5 == b5) = false := beq_eq_false_iff_ne.mpr c5
   have d2 : decide (a5 = b5) = false := decide_eq_false c5
   go_wp2
   go_ret
   exact ⟨false, rfl, ⟨fun h => absurd h (by decide), fun h => by injection h with z0 z1 z2 z3 z4 z5 z6; exact absurd z5 c5⟩, HB.out⟩
 subst c5
 by_cases c6 : a6 = b6
 rotate_left
 · have d1 : (a6 == b6) = false := beq_eq_false_iff_ne.mpr c6
   have d2 : decide (a6 = b6) = false := decide_eq_false c6
   go_wp2
   go_ret
   exact ⟨false, rfl, ⟨fun h => absurd h (by decide), fun h => by injection h with z0 z1 z2 z3 z4 z5 z6; exact absurd z6 c6⟩, HB.out⟩
 subst c6
 go_wp2
 go_ret
 first | exact ⟨rfl, HB.out⟩ | exact ⟨true, rfl, ⟨fun _ => rfl, fun _ => rfl⟩, HB.out⟩
end Go.Proofs.YtppjphghlclklaaGreatDoor.P
end
section
namespace Go.Proofs.YtppjphghlclklaaGreatDoor.P
open Go.RowKit Go.Proofs.YtppjphghlclklaaGreatDoorW.PrintWords Go.Proofs.YtppjphghlclklaaGreatDoorW.PrintLast Go.Proofs.YtppjphghlclklaaGreatDoorW.PrintMore
set_option linter.unusedVariables false
set_option linter.unusedSimpArgs false
structure Stands (l : List Int) (p : Nat) (r : List Int) : Prop where
 le : p ≤ l.length
 eq : l.drop p = r
theorem Stands.length {l : List Int} {p : Nat} {r : List Int} (h : Stands l p r) : l.length = p + r.length := by
 have h1 : (l.drop p).length = r.length := by rw [h.eq]
 rw [List.length_drop] at h1
 have := h.le
 omega
theorem Stands.step {l : List Int} {p : Nat} {xs r : List Int} (h : Stands l p (xs ++ r)) : Stands l (p + xs.length) r := by
 have hl := h.length
 rw [List.length_append] at hl
 refine ⟨by omega, ?_⟩
 rw [← List.drop_drop, h.eq, List.drop_left]
theorem Stands.step' {l : List Int} {p n : Nat} {xs r : List Int} (h : Stands l p (xs ++ r)) (hn : xs.length = n) : Stands l (p + n) r := hn ▸ h.step
theorem Stands.get {l : List Int} {p : Nat} {x : Int} {r : List Int} (h : Stands l p (x :: r)) : l.getD p 0 = x ∧ p < l.length := by
 have hl := h.length
 rw [List.length_cons] at hl
 refine ⟨?_, by omega⟩
 have h1 : (l.drop p)[0]? = some x := by rw [h.eq]; rfl
 rw [List.getElem?_drop, Nat.add_zero] at h1
 rw [List.getD_eq_getElem?_getD, h1]
 rfl
theorem takeR_st {l : List Int} {p : Nat} {xs r : List Int} {n : Int} (h : Stands l p (xs ++ r)) (hn : n = xs.length) : takeR l p 0 n = (xs, p + xs.length, 0) := by
 have hl := h.length
 rw [List.length_append] at hl
 unfold takeR
 rw [if_pos rfl, if_neg (by omega), show n.toNat = xs.length by omega, List.drop_take, h.eq, show p + xs.length - p = xs.length by omega, List.take_left]
theorem or_add {v y k : Nat} (hv : v < 2 ^ k) : v ||| y * 2 ^ k = v + y * 2 ^ k := by
 rw [Nat.or_comm, Nat.mul_comm, ← Nat.two_pow_add_eq_or_of_lt hv, Nat.add_comm]
theorem or_lay {v b k : Nat} (hv : v < 2 ^ k) (hb : b * 2 ^ k < 18446744073709551616) (hb2 : b < 18446744073709551616) (hv2 : v < 18446744073709551616) (e : Nat) (he : e = k) :
 Go.bits .or .u64 (v : Int) (IntKind.u64.wrap (IntKind.u64.wrap (b : Int) * 2 ^ e)) = ((v + b * 2 ^ k : Nat) : Int) := by
 subst he
 have h1 : IntKind.u64.wrap (b : Int) = (b : Int) := by rw [IntKind.wrap_u64]; omega
 have h2 : (b : Int) * 2 ^ e = ((b * 2 ^ e : Nat) : Int) := by push_cast; rfl
 rw [h1, h2, show IntKind.u64.wrap ((b * 2 ^ e : Nat) : Int) = ((b * 2 ^ e : Nat) : Int) by rw [IntKind.wrap_u64]; omega, Go.bits_or_u64_nat _ _ hv2 hb, or_add hv]
theorem leGo_leB : ∀ (n i v x : Nat), v < 2 ^ (8 * i) → i + n ≤ 8 → x < 2 ^ (8 * n) → leGo i (v : Int) (leB n (x : Int)) = ((v + x * 2 ^ (8 * i) : Nat) : Int)
 | 0, i, v, x, hv, hi, hx => by
  obtain rfl : x = 0 := by simpa using hx
  simp [leB, leGo]
 | n + 1, i, v, x, hv, hi, hx => by
  have hp : (2 : Nat) ^ (8 * (i + 1)) = 256 * 2 ^ (8 * i) := by rw [Nat.mul_add, Nat.pow_add]; omega
  have hq : (2 : Nat) ^ (8 * (n + 1)) = 256 * 2 ^ (8 * n) := by rw [Nat.mul_add, Nat.pow_add]; omega
  have h64 : (2 : Nat) ^ (8 * (i + 1)) ≤ 2 ^ 64 := Nat.pow_le_pow_right (by omega) (by omega)
  have hpos : 0 < 2 ^ (8 * i) := Nat.pow_pos (by omega)
  have hm : x % 256 * 2 ^ (8 * i) + 2 ^ (8 * i) ≤ 256 * 2 ^ (8 * i) := by
   have h1 : (x % 256 + 1) * 2 ^ (8 * i) ≤ 256 * 2 ^ (8 * i) := Nat.mul_le_mul_right _ (by omega)
   rw [Nat.add_mul, Nat.one_mul] at h1
   exact h1
  have e1 : (x : Int) % 256 = ((x % 256 : Nat) : Int) := by omega
  have e2 : (x : Int) / 256 = ((x / 256 : Nat) : Int) := by omega
  simp only [leB, leGo]
  rw [e1, e2, or_lay (k := 8 * i) hv (by omega) (by omega) (by omega) _ (by omega), leGo_leB n (i + 1) (v + x % 256 * 2 ^ (8 * i)) (x / 256) (by omega) (by omega) (by rw [Nat.div_lt_iff_lt_mul (by omega)]; omega), hp]
  congr 1
  have h3 : x / 256 * (256 * 2 ^ (8 * i)) = x / 256 * 256 * 2 ^ (8 * i) := by rw [Nat.mul_assoc]
  rw [h3, Nat.add_assoc, ← Nat.add_mul]
  congr 2
  omega
theorem leGo_le {n x : Nat} (hn : n ≤ 8) (hx : x < 2 ^ (8 * n)) : leGo 0 0 (leB n (x : Int)) = (x : Int) := by
 have h := leGo_leB n 0 0 x (by simp) (by omega) hx
 simpa using h
theorem getR_st {l : List Int} {p n : Nat} {x : Int} {r : List Int} (h : Stands l p (leB n x ++ r)) (hn : n ≤ 8) (h0 : 0 ≤ x) (hx : x < (2 ^ (8 * n) : Nat)) : getR (n : Int) l p 0 = (x, p + n, 0) := by
 obtain ⟨y, rfl⟩ := Int.eq_ofNat_of_zero_le h0
 unfold getR
 rw [takeR_st h (by rw [leB_length]), leB_length]
 simp only
 rw [leGo_le hn (by omega)]
theorem or128 : ∀ y : Fin 256, Go.bits .or .u8 (y.val : Int) 128 = ((y.val % 128 + 128 : Nat) : Int) := by decide +kernel
theorem and127 : ∀ y : Fin 256, Go.bits .and .u8 (y.val : Int) 127 = ((y.val % 128 : Nat) : Int) := by decide +kernel
theorem or128_of {x : Nat} : Go.bits .or .u8 ((x : Int) % 256) 128 = ((x % 128 + 128 : Nat) : Int) := by
 have h := or128 ⟨x % 256, by omega⟩
 simp only at h
 rw [show (x : Int) % 256 = ((x % 256 : Nat) : Int) by omega, h]
 congr 1
 omega
theorem and127_of {y : Nat} (h : y < 256) : Go.bits .and .u8 (y : Int) 127 = ((y % 128 : Nat) : Int) := and127 ⟨y, h⟩
theorem vAdd_lay {v y i : Nat} (hv : v < 2 ^ (7 * i)) (hi : i ≤ 8) (hy : y < 256) : vAdd (v : Int) (y : Int) i = ((v + y % 128 * 2 ^ (7 * i) : Nat) : Int) := by
 have h64 : (2 : Nat) ^ (7 * i) ≤ 2 ^ 56 := Nat.pow_le_pow_right (by omega) (by omega)
 have h1 : y % 128 * 2 ^ (7 * i) ≤ 127 * 2 ^ (7 * i) := Nat.mul_le_mul_right _ (by omega)
 unfold vAdd
 rw [and127_of hy, or_lay (k := 7 * i) hv (by omega) (by omega) (by omega) _ (by omega)]
theorem vGo_vB (l : List Int) (p : Nat) : ∀ (k i d v x : Nat) (r : List Int), Stands l (p + i) (vB k (x : Int) ++ r) → v < 2 ^ (7 * i) → i + k ≤ 8 → x < 2 ^ (7 * (k + 1)) → k < d → (0 < i → 0 < x) →
 vGo l p i d (v : Int) = (((v + x * 2 ^ (7 * i) : Nat) : Int), p + i + (vB k (x : Int)).length, 0)
 | k, i, 0, v, x, r, h, hv, hi, hx, hd, hz => by omega
 | 0, i, d + 1, v, x, r, h, hv, hi, hx, hd, hz => by
  have hx' : x < 128 := by omega
  have e : vB 0 (x : Int) = [(x : Int)] := by simp only [vB]; congr 1; omega
  rw [e] at h ⊢
  obtain ⟨hg, hlt⟩ := h.get
  unfold vGo
  rw [if_neg (by omega), if_neg (by omega), hg, if_neg (by omega), if_neg (by omega), vAdd_lay hv (by omega) (by omega), Nat.mod_eq_of_lt hx']
  rfl
 | k + 1, i, d + 1, v, x, r, h, hv, hi, hx, hd, hz => by
  by_cases c : x < 128
  · have e : vB (k + 1) (x : Int) = [(x : Int)] := by
     unfold vB
     rw [if_neg (by omega)]
     congr 1
     omega
    rw [e] at h ⊢
    obtain ⟨hg, hlt⟩ := h.get
    unfold vGo
    rw [if_neg (by omega), if_neg (by omega), hg, if_neg (by omega), if_neg (by omega), vAdd_lay hv (by omega) (by omega), Nat.mod_eq_of_lt c]
    rfl
  · have e2 : (x : Int) / 128 = ((x / 128 : Nat) : Int) := by omega
    have e : vB (k + 1) (x : Int) = ((x % 128 + 128 : Nat) : Int) :: vB k ((x / 128 : Nat) : Int) := by
     rw [vB, if_pos (by omega), or128_of, e2]
    rw [e] at h ⊢
    obtain ⟨hg, hlt⟩ := h.get
    have hs : Stands l (p + (i + 1)) (vB k ((x / 128 : Nat) : Int) ++ r) := h.step' (xs := [_]) rfl
    have hp : (2 : Nat) ^ (7 * (i + 1)) = 128 * 2 ^ (7 * i) := by rw [Nat.mul_add, Nat.pow_add]; omega
    have hq : (2 : Nat) ^ (7 * (k + 1 + 1)) = 128 * 2 ^ (7 * (k + 1)) := by rw [Nat.mul_add, Nat.pow_add]; omega
    have hm : x % 128 * 2 ^ (7 * i) + 2 ^ (7 * i) ≤ 128 * 2 ^ (7 * i) := by
     have h1 : (x % 128 + 1) * 2 ^ (7 * i) ≤ 128 * 2 ^ (7 * i) := Nat.mul_le_mul_right _ (by omega)
     rw [Nat.add_mul, Nat.one_mul] at h1
     exact h1
    unfold vGo
    rw [if_neg (by omega), if_neg (by omega), hg, if_pos (by omega), vAdd_lay hv (by omega) (by omega), show (x % 128 + 128) % 128 = x % 128 by omega,
     vGo_vB l p k (i + 1) d (v + x % 128 * 2 ^ (7 * i)) (x / 128) r hs (by omega) (by omega) (by rw [Nat.div_lt_iff_lt_mul (by omega)]; omega) (by omega) (by omega), hp]
    have h3 : x / 128 * (128 * 2 ^ (7 * i)) = x / 128 * 128 * 2 ^ (7 * i) := by rw [Nat.mul_assoc]
    have h4 : v + x % 128 * 2 ^ (7 * i) + x / 128 * (128 * 2 ^ (7 * i)) = v + x * 2 ^ (7 * i) := by
     rw [h3, Nat.add_assoc, ← Nat.add_mul]
     congr 2
     omega
    rw [h4, List.length_cons, show p + (i + 1) + (vB k ((x / 128 : Nat) : Int)).length = p + i + ((vB k ((x / 128 : Nat) : Int)).length + 1) by omega]
theorem vB_trim : ∀ (a k x : Nat), x < 2 ^ (7 * (k + 1)) → vB (k + a) (x : Int) = vB k (x : Int)
 | 0, k, x, h => rfl
 | a + 1, 0, x, h => by
  have e : vB (a + 1) (x : Int) = [(x : Int) % 256] := by
   unfold vB
   rw [if_neg (by omega)]
  rw [Nat.zero_add, e]
  rfl
 | a + 1, k + 1, x, h => by
  rw [show k + 1 + (a + 1) = (k + (a + 1)) + 1 by omega]
  unfold vB
  have hq : (2 : Nat) ^ (7 * (k + 1 + 1)) = 128 * 2 ^ (7 * (k + 1)) := by rw [Nat.mul_add, Nat.pow_add]; omega
  have e2 : (x : Int) / 128 = ((x / 128 : Nat) : Int) := by omega
  rw [e2, vB_trim (a + 1) k (x / 128) (by rw [Nat.div_lt_iff_lt_mul (by omega)]; omega)]
theorem vR_st {l : List Int} {p : Nat} {x : Nat} {r : List Int} (h : Stands l p (vB 9 (x : Int) ++ r)) (hx : x < 9223372036854775808) : vR l p 0 = ((x : Int), p + (vB 9 (x : Int)).length, 0) := by
 have ht : vB 9 (x : Int) = vB 8 (x : Int) := vB_trim 1 8 x (by omega)
 rw [ht] at h ⊢
 unfold vR
 rw [if_pos rfl]
 have hg := vGo_vB l p 8 0 10 0 x r h (by omega) (by omega) (by omega) (by omega) (by omega)
 simpa using hg
theorem kidR_st {l : List Int} {p : Nat} {k : Kid} {r : List Int} (h : Stands l p (kidBytes k ++ r)) (h0 : 0 ≤ k.f0) (h1 : k.f0 ≤ 4294967295) (h2 : 0 ≤ k.f1) (h3 : k.f1 ≤ 4294967295) : kidR l p 0 = (k, p + 8, 0) := by
 unfold kidBytes at h
 rw [List.append_assoc, show k.f0 % 4294967296 = k.f0 by omega, show k.f1 % 4294967296 = k.f1 by omega] at h
 have hs := h.step' (leB_length 4 _)
 have e1 : getR 4 l p 0 = (k.f0, p + 4, 0) := getR_st (n := 4) h (by omega) h0 (by omega)
 have e2 : getR 4 l (p + 4) 0 = (k.f1, p + 4 + 4, 0) := getR_st (n := 4) hs (by omega) h2 (by omega)
 unfold kidR
 rw [e1]
 simp only
 rw [e2]
 simp only
 rw [show k.f0 % 4294967296 = k.f0 by omega, show k.f1 % 4294967296 = k.f1 by omega]
def ByteL (l : List Int) : Prop := ∀ x ∈ l, 0 ≤ x ∧ x < 256
theorem ByteL.take {l : List Int} (h : ByteL l) (n : Nat) : ByteL (l.take n) := fun x hx => h x (List.mem_of_mem_take hx)
theorem ByteL.drop {l : List Int} (h : ByteL l) (n : Nat) : ByteL (l.drop n) := fun x hx => h x (List.mem_of_mem_drop hx)
theorem chainHead_take (k next n : Int) (r : List Int) : ((chainHead k next n ++ r).take 7).drop 1 = leB 4 (next % 4294967296) ++ leB 2 (n % 65536) := by
 rw [List.take_left' (chainHead_length k next n)]
 rfl
theorem readR_ok (k next n : Int) (r : List Int) (hn0 : 0 ≤ next) (hn1 : next < 4294967296) (h0 : 0 ≤ n) (h1 : n < 65536) (hl : (chainHead k next n ++ r).length = 4092) : readR k (chainHead k next n ++ r) = (next, n, nextB next) := by
 have hs : Stands (leB 4 next ++ leB 2 n) 0 (leB 4 next ++ (leB 2 n ++ [])) := ⟨Nat.zero_le _, by rw [List.append_nil]; rfl⟩
 have e1 : getR 4 (leB 4 next ++ leB 2 n) 0 0 = (next, 0 + 4, 0) := getR_st (n := 4) hs (by omega) hn0 (by omega)
 have e2 : getR 2 (leB 4 next ++ leB 2 n) (0 + 4) 0 = (n, 0 + 4 + 2, 0) := getR_st (n := 2) (hs.step' (leB_length 4 _)) (by omega) h0 (by omega)
 unfold readR
 rw [if_pos ⟨hl, rfl⟩, chainHead_take, show next % 4294967296 = next by omega, show n % 65536 = n by omega, e1]
 simp only
 rw [e2]
 simp only
 rw [show next % 4294967296 = next by omega, show n % 65536 = n by omega]
theorem nextB_range {x : Int} (h : nextB x = true) : 0 ≤ x ∧ x < 524287 := by
 have := of_decide_eq_true h
 omega
theorem zerosB_zs (n : Nat) : zerosB (zs n) = true := by
 unfold zerosB zs
 rw [List.all_eq_true]
 intro x hx
 rw [List.eq_of_mem_replicate hx]
 rfl
theorem take_drop_mid (H D R : List Int) (h n : Nat) (hh : H.length = h) (hn : D.length = n) : ((H ++ D ++ R).take (h + n)).drop h = D ∧ (H ++ D ++ R).drop (h + n) = R := by
 subst hh hn
 have e : H.length + D.length = (H ++ D).length := by rw [List.length_append]
 rw [e, List.take_left, List.drop_left, List.drop_left]
 exact ⟨rfl, rfl⟩
theorem data_back {next : Int} {d b : List Int} (h : encDataR next d = (b, 0)) : decDataR b = (next, d, 0) ∧ b.length = 4092 ∧ b.getD 0 0 = 3 := by
 unfold encDataR at h
 by_cases c1 : nextB next = true
 · rw [if_pos c1] at h
   by_cases c2 : dataB next d.length = true
   · rw [if_pos c2] at h
     obtain ⟨rfl, _⟩ := Prod.mk.inj h
     have hd := of_decide_eq_true c2
     obtain ⟨a1, a2⟩ := nextB_range c1
     have hl : (chainHead 3 next d.length ++ (d ++ zs (4085 - d.length))).length = 4092 := by
      rw [List.length_append, List.length_append, chainHead_length, zs_length]
      omega
     have hr := readR_ok 3 next d.length _ a1 (by omega) (by omega) (by omega) hl
     rw [← List.append_assoc] at hr hl
     obtain ⟨m1, m2⟩ := take_drop_mid (chainHead 3 next d.length) d (zs (4085 - d.length)) 7 d.length (chainHead_length ..) rfl
     refine ⟨?_, hl, rfl⟩
     unfold decDataR
     rw [hr]
     simp only [c1, c2, Int.toNat_natCast, m1, m2, zerosB_zs, if_true]
   · rw [if_neg c2] at h
     exact absurd (Prod.mk.inj h).2 (by decide)
 · rw [if_neg c1] at h
   exact absurd (Prod.mk.inj h).2 (by decide)
theorem rdNums_st (L : List Int) : ∀ (l : List Int) (p : Nat) (r : List Int), Stands L p (listBytes l ++ r) → (∀ x ∈ l, 0 ≤ x ∧ x < 4294967296) → rdNums L l.length p 0 = l
 | [], p, r, h, hx => rfl
 | x :: l, p, r, h, hx => by
  obtain ⟨a1, a2⟩ := hx x (List.mem_cons_self ..)
  have h2 : Stands L p (leB 4 x ++ (listBytes l ++ r)) := by
   have e : listBytes (x :: l) = leB 4 x ++ listBytes l := by
    unfold listBytes
    rw [List.flatMap_cons, show x % 4294967296 = x by omega]
   rw [e, List.append_assoc] at h
   exact h
  have e1 : getR 4 L p 0 = (x, p + 4, 0) := getR_st (n := 4) h2 (by omega) a1 (by omega)
  rw [List.length_cons]
  unfold rdNums
  rw [e1]
  simp only
  rw [rdNums_st L l (p + 4) r (h2.step' (leB_length 4 _)) (fun y hy => hx y (List.mem_cons_of_mem _ hy)), show x % 4294967296 = x by omega]
theorem risesB_range : ∀ (l : List Int) (a : Int), risesB a l = true → 0 ≤ a → ∀ x ∈ l, 0 ≤ x ∧ x < 4294967296
 | [], a, h, ha, x, hx => by simp at hx
 | y :: l, a, h, ha, x, hx => by
  unfold risesB at h
  simp only [Bool.and_eq_true, decide_eq_true_eq] at h
  rcases List.mem_cons.1 hx with rfl | hx
  · omega
  · exact risesB_range l y h.2 (by omega) x hx
theorem list_back {next : Int} {l b : List Int} (h : encListR next l = (b, 0)) : decListR b = (next, l, 0) ∧ b.length = 4092 ∧ b.getD 0 0 = 4 := by
 unfold encListR at h
 by_cases c1 : nextB next = true
 · rw [if_pos c1] at h
   by_cases c2 : listB next l = true
   · rw [if_pos c2] at h
     obtain ⟨rfl, _⟩ := Prod.mk.inj h
     have c2' := c2
     unfold listB at c2'
     rw [Bool.and_eq_true] at c2'
     have hd := of_decide_eq_true c2'.2
     have hrg := risesB_range l 1 c2'.1 (by omega)
     obtain ⟨a1, a2⟩ := nextB_range c1
     have hl : (chainHead 4 next l.length ++ (listBytes l ++ zs (4085 - 4 * l.length))).length = 4092 := by
      rw [List.length_append, List.length_append, chainHead_length, zs_length, listBytes_length]
      omega
     have hr := readR_ok 4 next l.length _ a1 (by omega) (by omega) (by omega) hl
     rw [← List.append_assoc] at hr hl
     obtain ⟨m1, m2⟩ := take_drop_mid (chainHead 4 next l.length) (listBytes l) (zs (4085 - 4 * l.length)) 7 (4 * l.length) (chainHead_length ..) (listBytes_length l)
     have hn := rdNums_st (listBytes l) l 0 [] ⟨Nat.zero_le _, by rw [List.append_nil]; rfl⟩ hrg
     refine ⟨?_, hl, rfl⟩
     unfold decListR
     rw [hr]
     simp only [c1, Int.toNat_natCast, m1, m2, zerosB_zs, if_true, hn, c2]
     rw [if_pos (by omega)]
   · rw [if_neg c2] at h
     exact absurd (Prod.mk.inj h).2 (by decide)
 · rw [if_neg c1] at h
   exact absurd (Prod.mk.inj h).2 (by decide)
theorem cmn_take_eq : ∀ (a b : List Int), a.take (cmn a b) = b.take (cmn a b)
 | [], b => by simp [cmn]
 | x :: a, [] => by simp [cmn]
 | x :: a, y :: b => by
  unfold cmn
  by_cases c : x = y
  · subst c
    rw [if_pos rfl, List.take_succ_cons, List.take_succ_cons, cmn_take_eq a b]
  · simp [c]
theorem cmnFrom_take (a : List Int) (l : List (List Int)) : ∀ n, n ≤ a.length → ∀ s ∈ l, s.take (cmnFrom a n l) = a.take (cmnFrom a n l) := by
 induction l with
 | nil => intro n hn s hs; simp at hs
 | cons t l ih =>
  intro n hn s hs
  have hm : cmn (a.take n) t ≤ n := cmn_take_le a n t
  have he : cmnFrom a n (t :: l) = cmnFrom a (cmn (a.take n) t) l := rfl
  rw [he]
  rcases List.mem_cons.1 hs with rfl | hs
  · have h1 := cmnFrom_le_n a l (cmn (a.take n) s)
    have h2 := cmn_take_eq (a.take n) s
    have h3 : s.take (cmnFrom a (cmn (a.take n) s) l) = (s.take (cmn (a.take n) s)).take (cmnFrom a (cmn (a.take n) s) l) := by rw [List.take_take, Nat.min_eq_left h1]
    rw [h3, ← h2, List.take_take, List.take_take]
    congr 1
    omega
  · exact ih _ (by omega) s hs
theorem cmnAll_take (a : List Int) (l : List (List Int)) (s : List Int) (hs : s ∈ a :: l) : s.take (cmnAll (a :: l)) = a.take (cmnAll (a :: l)) := by
 have he : cmnAll (a :: l) = cmnFrom a a.length l := rfl
 rcases List.mem_cons.1 hs with rfl | hs
 · rfl
 · rw [he]
   exact cmnFrom_take a l a.length (Nat.le_refl _) s hs
theorem tag_odd {s : Int} (h0 : 0 ≤ s) (h : s > 512) : tagI s % 2 = 1 ∧ tagI s / 2 = s := by
 unfold tagI
 rw [if_pos h]
 omega
theorem tag_even {s : Int} (h0 : 0 ≤ s) (h : ¬ s > 512) : tagI s % 2 = 0 ∧ tagI s / 2 = s := by
 unfold tagI
 rw [if_neg h]
 omega
theorem itemR_st {L P : List Int} {p : Nat} {x : It} {r : List Int} (h : Stands L p (cellBy P.length x ++ r)) (hL : L.length = 4092) (h1 : it1 x = true) (h2 : it2 x = true) (hP : x.f0.take P.length = P) :
 itemR P L p 0 = (x, p + (cellBy P.length x).length, 0) := by
 obtain ⟨⟨a1, a2, a3, a4⟩, a5, a6⟩ := it12 h1 h2
 obtain ⟨q, hq⟩ : ∃ q, x.f0.length - P.length = q := ⟨_, rfl⟩
 have hdl : (x.f0.drop P.length).length = q := by rw [List.length_drop, hq]
 have hpre : P ++ x.f0.drop P.length = x.f0 := by
  have := List.take_append_drop P.length x.f0
  rw [hP] at this
  exact this
 obtain ⟨tg, htg⟩ : ∃ tg : Nat, tagI x.f2 = (tg : Int) := ⟨tagOf x.f2, tagI_of a3 a4⟩
 have htg2 : tg ≤ 524289 := by
  have h3 := tagI_of a3 a4
  have h4 := tagOf_le x.f2
  omega
 have hc : cellBy P.length x = vB 9 (q : Int) ++ (x.f0.drop P.length ++ (vB 9 (tg : Int) ++ (if x.f2 > 512 then leB 4 (x.f3 % 4294967296) else x.f1))) := by
  unfold cellBy
  rw [hq, htg]
  simp only [List.append_assoc]
 obtain ⟨x0, x1, x2, x3⟩ := x
 simp only at *
 rw [hc] at h ⊢
 simp only [List.append_assoc] at h
 have hlen := h.length
 simp only [List.length_append, hL] at hlen
 have e1 := vR_st h (by omega)
 have s1 := h.step
 have e2 : takeR L (p + (vB 9 (q : Int)).length) 0 (min (q : Int) 4092) = (x0.drop P.length, p + (vB 9 (q : Int)).length + (x0.drop P.length).length, 0) := takeR_st s1 (by omega)
 have s2 := s1.step
 have e3 := vR_st s2 (by omega)
 have s3 := s2.step
 unfold itemR
 simp only [e1, e2, e3]
 rw [if_neg (by omega)]
 by_cases c : x2 > 512
 · obtain ⟨t1, t2⟩ := tag_odd a3 c
   rw [htg] at t1 t2
   obtain ⟨b1, b2, b3⟩ := a5 c
   rw [if_pos c] at s3 ⊢
   rw [show x3 % 4294967296 = x3 by omega] at s3 ⊢
   have e4 : getR 4 L _ 0 = (x3, _ + 4, 0) := getR_st (n := 4) s3 (by omega) (by omega) (by omega)
   rw [if_pos t1, e4]
   simp only
   rw [hpre, t2, show x3 % 4294967296 = x3 by omega, List.eq_nil_of_length_eq_zero b1]
   simp only [List.length_append, leB_length, Nat.add_assoc]
 · obtain ⟨t1, t2⟩ := tag_even a3 c
   rw [htg] at t1 t2
   obtain ⟨b1, b2⟩ := a6 c
   rw [if_neg c] at s3 ⊢
   have e4 : takeR L _ 0 ((tg : Int) / 2) = (x1, _ + x1.length, 0) := takeR_st s3 (by omega)
   rw [if_neg (by omega), e4]
   simp only
   rw [hpre, t2, b2]
   simp only [List.length_append, Nat.add_assoc]
theorem rdItems_st (L P : List Int) (hL : L.length = 4092) : ∀ (l : List It) (p : Nat) (r : List Int), Stands L p (cellsL P.length l ++ r) → (∀ x ∈ l, it1 x = true ∧ it2 x = true ∧ x.f0.take P.length = P) → rdItems P L l.length p 0 = some l
 | [], p, r, h, hx => rfl
 | x :: l, p, r, h, hx => by
  obtain ⟨h1, h2, h3⟩ := hx x (List.mem_cons_self ..)
  have hs : Stands L p (cellBy P.length x ++ (cellsL P.length l ++ r)) := by
   have e : cellsL P.length (x :: l) = cellBy P.length x ++ cellsL P.length l := by simp [cellsL]
   rw [e, List.append_assoc] at h
   exact h
  have e1 := itemR_st hs hL h1 h2 h3
  rw [List.length_cons]
  unfold rdItems
  rw [e1]
  simp only
  rw [if_pos trivial, rdItems_st L P hL l _ r hs.step (fun y hy => hx y (List.mem_cons_of_mem _ hy))]
  rfl
theorem leaf_back {l : List It} {b : List Int} (hs : Small l) (h : encLeafR l = (b, 0)) : decLeafR b = (l, 0) ∧ b.length = 4092 ∧ b.getD 0 0 = 1 := by
 have h0 := h
 unfold encLeafR at h
 by_cases c1 : mayR l = 0
 · rw [if_pos c1] at h
   by_cases c2 : sizeL l ≤ 4092
   · rw [if_pos c2] at h
     obtain ⟨hb, _⟩ := Prod.mk.inj h
     obtain ⟨m0, m1, m2, m3⟩ := mayR_zero c1
     have hz := size_eq l hs c1
     have hl : b.length = 4092 := by
      rw [← hb]
      unfold leafBody
      simp only [List.length_append, zs_length, slotsL_length]
      omega
     obtain ⟨P, hP⟩ : ∃ P, (l.head?.elim [] fun x => x.f0).take (pre l) = P := ⟨_, rfl⟩
     have hPl : P.length = pre l := by
      have ht := topL_length l hs m0
      unfold topL at ht
      rw [hP] at ht
      simp only [List.length_append, leB_length, List.length_cons, List.length_nil] at ht
      rw [vB_len64 _ (by have := pre_small l hs; omega)] at ht
      omega
     have hpre : ∀ x ∈ l, it1 x = true ∧ it2 x = true ∧ x.f0.take P.length = P := fun x hx => by
      refine ⟨List.all_eq_true.1 m1 x hx, List.all_eq_true.1 m2 x hx, ?_⟩
      rw [hPl, ← hP]
      match l, hx with
      | y :: l, hx => exact cmnAll_take y.f0 (l.map (·.f0)) x.f0 (by
          rcases List.mem_cons.1 hx with rfl | hx
          · exact List.mem_cons_self ..
          · exact List.mem_cons_of_mem _ (List.mem_map.2 ⟨x, hx, rfl⟩))
     obtain ⟨SL, hSL⟩ : ∃ SL, slotsL (pre l) ((topL l).length + 2 * l.length) l = SL := ⟨_, rfl⟩
     have hSLl : SL.length = 2 * l.length := by rw [← hSL, slotsL_length]
     obtain ⟨Z, hZ⟩ : ∃ Z, zs (4092 - sizeL l) = Z := ⟨_, rfl⟩
     have hbs : b = [1] ++ (leB 2 ((l.length : Int) % 65536) ++ (vB 9 (pre l : Int) ++ (P ++ (SL ++ (cellsL P.length l ++ Z))))) := by
      rw [← hb, hPl]
      unfold leafBody topL
      rw [hP]
      have hSL' := hSL
      unfold topL at hSL'
      rw [hP] at hSL'
      rw [hSL', hZ]
      simp only [List.append_assoc]
     have hln : l.length < 65536 := by
      have h3 := congrArg List.length hbs
      rw [hl] at h3
      simp only [List.length_append, hSLl] at h3
      omega
     rw [show (l.length : Int) % 65536 = l.length by omega] at hbs
     have hb0 : b.getD 0 0 = 1 := by rw [hbs]; rfl
     refine ⟨?_, hl, hb0⟩
     have t0 : Stands b 0 b := ⟨Nat.zero_le _, rfl⟩
     have t0' : Stands b 0 ([1] ++ (leB 2 (l.length : Int) ++ (vB 9 (pre l : Int) ++ (P ++ (SL ++ (cellsL P.length l ++ Z)))))) := ⟨Nat.zero_le _, by rw [List.drop_zero]; exact hbs⟩
     have e0 : takeR b 0 0 1 = ([1], 1, 0) := takeR_st t0' rfl
     have t1 := t0'.step' (n := 1) rfl
     have e1 : getR 2 b (0 + 1) 0 = ((l.length : Int), 0 + 1 + 2, 0) := getR_st (n := 2) t1 (by omega) (by omega) (by omega)
     have t2 := t1.step' (leB_length 2 _)
     have e2 := vR_st t2 (by have := pre_small l hs; omega)
     have t3 := t2.step
     have e3 : takeR b (0 + 1 + 2 + (vB 9 (pre l : Int)).length) 0 (min (pre l : Int) 4092) = (P, 0 + 1 + 2 + (vB 9 (pre l : Int)).length + P.length, 0) := takeR_st t3 (by
      have h3 := t3.length
      simp only [List.length_append, hl] at h3
      omega)
     have t4 := t3.step
     have e4 : takeR b (0 + 1 + 2 + (vB 9 (pre l : Int)).length + P.length) 0 (2 * (l.length : Int)) = (SL, 0 + 1 + 2 + (vB 9 (pre l : Int)).length + P.length + SL.length, 0) := takeR_st t4 (by omega)
     have t5 := t4.step
     have hh : leafHead b = (l.length, P, 0 + 1 + 2 + (vB 9 (pre l : Int)).length + P.length + SL.length, 0) := by
      unfold leafHead
      simp only [e0]
      simp only [Nat.zero_add] at e1 e2 e3 e4 ⊢
      simp only [e1, e2, e3]
      rw [show (l.length : Int) % 65536 = l.length by omega]
      simp only [e4, Int.toNat_natCast]
     unfold decLeafR
     rw [if_pos hl, hh]
     simp only
     rw [rdItems_st b P hl l _ Z t5 hpre]
     simp only
     rw [h0]
     simp only
     rw [if_pos trivial, if_pos trivial]
   · rw [if_neg c2] at h
     exact absurd (Prod.mk.inj h).2 (by decide)
 · rw [if_neg c1] at h
   exact absurd (Prod.mk.inj h).2 c1
theorem ByteL.append {a b : List Int} (ha : ByteL a) (hb : ByteL b) : ByteL (a ++ b) := fun x hx => by
 rcases List.mem_append.1 hx with h | h
 · exact ha x h
 · exact hb x h
theorem leB_byte : ∀ (n : Nat) (x : Int), ByteL (leB n x)
 | 0, x, y, hy => by simp [leB] at hy
 | n + 1, x, y, hy => by
  simp only [leB, List.mem_cons] at hy
  rcases hy with rfl | hy
  · omega
  · exact leB_byte n _ y hy
theorem vB_byte : ∀ (d : Nat) (x : Nat), ByteL (vB d (x : Int))
 | 0, x, y, hy => by
  simp only [vB, List.mem_singleton] at hy
  omega
 | d + 1, x, y, hy => by
  unfold vB at hy
  by_cases c : (x : Int) ≥ 128
  · rw [if_pos c, or128_of, show (x : Int) / 128 = ((x / 128 : Nat) : Int) by omega] at hy
    rcases List.mem_cons.1 hy with rfl | hy
    · omega
    · exact vB_byte d _ y hy
  · rw [if_neg c, List.mem_singleton] at hy
    omega
theorem zs_byte (n : Nat) : ByteL (zs n) := fun x hx => by
 unfold zs at hx
 rw [List.eq_of_mem_replicate hx]
 decide
theorem kidBytes_byte (k : Kid) : ByteL (kidBytes k) := (leB_byte _ _).append (leB_byte _ _)
theorem ofNums_inj : ∀ {a b : List Int}, ByteL a → ByteL b → (a.map fun n => UInt8.ofNat n.toNat) = (b.map fun n => UInt8.ofNat n.toNat) → a = b
 | [], [], _, _, _ => rfl
 | [], y :: b, _, _, h => by simp at h
 | x :: a, [], _, _, h => by simp at h
 | x :: a, y :: b, ha, hb, h => by
  simp only [List.map_cons, List.cons.injEq] at h
  obtain ⟨a0, a1⟩ := ha x (List.mem_cons_self ..)
  obtain ⟨b0, b1⟩ := hb y (List.mem_cons_self ..)
  have h1 := congrArg UInt8.toNat h.1
  simp only [UInt8.toNat_ofNat'] at h1
  rw [ofNums_inj (fun z hz => ha z (List.mem_cons_of_mem _ hz)) (fun z hz => hb z (List.mem_cons_of_mem _ hz)) h.2]
  congr 1
  omega
theorem eqStr_of {a b : List Int} (ha : ByteL a) (hb : ByteL b) (h : eqStr a b = true) : a = b := by
 unfold eqStr at h
 have h2 := eq_of_beq h
 rw [ByteArray.toList_eq, ByteArray.toList_eq, strOfNums_data, strOfNums_data] at h2
 exact ofNums_inj ha hb h2
theorem eqStr_self (a : List Int) : eqStr a a = true := by
 unfold eqStr
 simp
theorem cellsK_byte (p : Nat) : ∀ (l : List (List Int × Kid)), (∀ x ∈ l, ByteL x.1) → ByteL (cellsK p l)
 | [], h => fun x hx => by simp [cellsK] at hx
 | y :: l, h => by
  have e : cellsK p (y :: l) = cellK p y ++ cellsK p l := by simp [cellsK]
  rw [e]
  refine ByteL.append ?_ (cellsK_byte p l (fun x hx => h x (List.mem_cons_of_mem _ hx)))
  unfold cellK
  exact ((vB_byte _ _).append ((h y (List.mem_cons_self ..)).drop _)).append (kidBytes_byte _)
theorem slotsK_byte (p : Nat) : ∀ (l : List (List Int × Kid)) (a : Nat), ByteL (slotsK p a l)
 | [], a => fun x hx => by simp [slotsK] at hx
 | y :: l, a => (leB_byte _ _).append (slotsK_byte p l _)
theorem branchBody_byte (lv : Int) (seps : List (List Int)) (kids : List Kid) (h0 : 0 ≤ lv) (h1 : lv < 256) (hs : ∀ s ∈ seps, ByteL s) : ByteL (branchBody lv seps kids) := by
 have hz : ∀ x ∈ seps.zip kids.tail, ByteL x.1 := fun x hx => hs x.1 (List.of_mem_zip hx).1
 unfold branchBody
 refine ((ByteL.append ?_ (slotsK_byte _ _ _)).append (ByteL.append ?_ (cellsK_byte _ _ hz))).append (zs_byte _)
 · unfold topB
   refine ((ByteL.append ?_ (leB_byte _ _)).append (vB_byte _ _)).append ?_
   · intro x hx
     simp only [List.mem_cons, List.not_mem_nil, or_false] at hx
     omega
   · refine ByteL.take ?_ _
     match seps, hs with
     | [], _ => exact fun x hx => by simp at hx
     | y :: l, hs => exact hs y (List.mem_cons_self ..)
 · unfold firstB
   cases kids with
   | nil => exact fun x hx => by simp at hx
   | cons k ks => exact kidBytes_byte k
theorem rdCells_st (L P : List Int) (hL : L.length = 4092) : ∀ (seps : List (List Int)) (ks : List Kid) (p : Nat) (r : List Int), ks.length = seps.length → Stands L p (cellsK P.length (seps.zip ks) ++ r) → (∀ x ∈ seps, x.take P.length = P) → (∀ k ∈ ks, kidB k = true) → rdCells P L seps.length p 0 = (seps, ks)
 | [], [], p, r, hk, h, h1, h2 => rfl
 | [], k :: ks, p, r, hk, h, h1, h2 => by simp at hk
 | s :: l, [], p, r, hk, h, h1, h2 => by simp at hk
 | s :: l, k :: ks, p, r, hk, h, h1, h2 => by
  obtain ⟨q, hq⟩ : ∃ q, s.length - P.length = q := ⟨_, rfl⟩
  have hdl : (s.drop P.length).length = q := by rw [List.length_drop, hq]
  have hpre : P ++ s.drop P.length = s := by
   have := List.take_append_drop P.length s
   rw [h1 s (List.mem_cons_self ..)] at this
   exact this
  have e : cellsK P.length ((s :: l).zip (k :: ks)) = vB 9 (q : Int) ++ (s.drop P.length ++ (kidBytes k ++ cellsK P.length (l.zip ks))) := by
   simp only [cellsK, List.zip_cons_cons, List.flatMap_cons, cellK, hq, List.append_assoc]
  rw [e] at h
  simp only [List.append_assoc] at h
  have hlen := h.length
  simp only [List.length_append, hL, kidBytes_length] at hlen
  obtain ⟨k1, k2, k3, k4⟩ := of_decide_eq_true (h2 k (List.mem_cons_self ..))
  have e1 := vR_st h (by omega)
  have s1 := h.step
  have e2 : takeR L (p + (vB 9 (q : Int)).length) 0 (min (q : Int) 4092) = (s.drop P.length, p + (vB 9 (q : Int)).length + (s.drop P.length).length, 0) := takeR_st s1 (by omega)
  have s2 := s1.step
  have e3 := kidR_st s2 (by omega) (by omega) (by omega) (by omega)
  have s3 := s2.step' (kidBytes_length k)
  have hlf : ¬ leftR L p 0 = 0 := by
   unfold leftR
   rw [if_pos rfl, hL]
   omega
  rw [List.length_cons]
  unfold rdCells
  rw [if_neg hlf]
  simp only [e1, e2, e3]
  rw [rdCells_st L P hL l ks _ r (by simpa using hk) s3 (fun y hy => h1 y (List.mem_cons_of_mem _ hy)) (fun y hy => h2 y (List.mem_cons_of_mem _ hy)), hpre]
theorem branch_back {lv : Int} {seps : List (List Int)} {kids : List Kid} {b : List Int} (hs : SmallB seps) (h : encBranchR lv seps kids = (b, 0)) : decBranchR b = ⟨lv, seps, kids, 0⟩ ∧ b.length = 4092 ∧ b.getD 0 0 = 2 := by
 have h0 := h
 unfold encBranchR at h
 by_cases c1 : wrongR lv seps kids = 0
 · rw [if_pos c1] at h
   obtain ⟨hb, _⟩ := Prod.mk.inj h
   obtain ⟨w1, w2, w3, w4, w5, w6, w7⟩ := wrongR_zero c1
   have hz := sizeB_eq lv seps kids hs w3
   obtain ⟨k0, ks, rfl⟩ : ∃ k0 ks, kids = k0 :: ks := by
    match kids, w3 with
    | k :: ks, _ => exact ⟨k, ks, rfl⟩
   have hkl : ks.length = seps.length := by simpa using w3
   have hzl : (seps.zip ks).length = seps.length := by rw [List.length_zip]; omega
   have hf : firstB (k0 :: ks) = kidBytes k0 := rfl
   have htl : (k0 :: ks).tail = ks := rfl
   rw [htl] at hz
   have hl : b.length = 4092 := by
    rw [← hb]
    unfold branchBody
    rw [hf, htl]
    simp only [List.length_append, zs_length, slotsK_length, kidBytes_length, hzl]
    omega
   obtain ⟨P, hP⟩ : ∃ P, (seps.head?.getD []).take (cmnAll seps) = P := ⟨_, rfl⟩
   have hPl : P.length = cmnAll seps := by
    have ht := topB_length lv seps hs
    unfold topB at ht
    rw [hP] at ht
    simp only [List.length_append, leB_length, List.length_cons, List.length_nil] at ht
    rw [vB_len64 _ (by have := cmnAll_small seps hs; omega)] at ht
    omega
   have hpre : ∀ x ∈ seps, x.take P.length = P := fun x hx => by
    rw [hPl, ← hP]
    match seps, hx with
    | y :: l, hx => exact cmnAll_take y l x hx
   obtain ⟨SL, hSL⟩ : ∃ SL, slotsK (cmnAll seps) ((topB lv seps).length + 2 * seps.length + 8) (seps.zip ks) = SL := ⟨_, rfl⟩
   have hSLl : SL.length = 2 * seps.length := by rw [← hSL, slotsK_length, hzl]
   obtain ⟨Z, hZ⟩ : ∃ Z, zs (4092 - sizeB seps) = Z := ⟨_, rfl⟩
   have hln : seps.length < 65535 := by omega
   have hbs : b = leB 1 2 ++ (leB 1 lv ++ (leB 2 ((seps.length + 1 : Nat) : Int) ++ (vB 9 (cmnAll seps : Int) ++ (P ++ (SL ++ (kidBytes k0 ++ (cellsK P.length (seps.zip ks) ++ Z))))))) := by
    rw [← hb, hPl]
    unfold branchBody
    rw [hf, htl, hSL, hZ]
    unfold topB
    rw [hP, show ((seps.length + 1 : Nat) : Int) % 65536 = ((seps.length + 1 : Nat) : Int) by omega]
    have e2 : leB 1 2 = [2] := rfl
    have e3 : leB 1 lv = [lv] := by simp only [leB]; congr 1; omega
    rw [e2, e3]
    simp only [List.append_assoc, List.cons_append, List.nil_append]
   have hb0 : b.getD 0 0 = 2 := by rw [hbs]; rfl
   refine ⟨?_, hl, hb0⟩
   have t0 : Stands b 0 (leB 1 2 ++ (leB 1 lv ++ (leB 2 ((seps.length + 1 : Nat) : Int) ++ (vB 9 (cmnAll seps : Int) ++ (P ++ (SL ++ (kidBytes k0 ++ (cellsK P.length (seps.zip ks) ++ Z)))))))) := ⟨Nat.zero_le _, by rw [List.drop_zero]; exact hbs⟩
   have e0 : getR 1 b 0 0 = (2, 0 + 1, 0) := getR_st (n := 1) t0 (by omega) (by omega) (by omega)
   have t1 := t0.step' (leB_length 1 _)
   have e1 : getR 1 b (0 + 1) 0 = (lv, 0 + 1 + 1, 0) := getR_st (n := 1) t1 (by omega) (by omega) (by omega)
   have t2 := t1.step' (leB_length 1 _)
   have e2 : getR 2 b (0 + 1 + 1) 0 = (((seps.length + 1 : Nat) : Int), 0 + 1 + 1 + 2, 0) := getR_st (n := 2) t2 (by omega) (by omega) (by omega)
   have t3 := t2.step' (leB_length 2 _)
   have e3 := vR_st t3 (by have := cmnAll_small seps hs; omega)
   have t4 := t3.step
   have e4 : takeR b (0 + 1 + 1 + 2 + (vB 9 (cmnAll seps : Int)).length) 0 (min (cmnAll seps : Int) 4092) = (P, 0 + 1 + 1 + 2 + (vB 9 (cmnAll seps : Int)).length + P.length, 0) := takeR_st t4 (by
    have h3 := t4.length
    simp only [List.length_append, hl] at h3
    omega)
   have t5 := t4.step
   have e5 : takeR b (0 + 1 + 1 + 2 + (vB 9 (cmnAll seps : Int)).length + P.length) 0 (2 * max 0 (((seps.length + 1 : Nat) : Int) - 1)) = (SL, 0 + 1 + 1 + 2 + (vB 9 (cmnAll seps : Int)).length + P.length + SL.length, 0) := takeR_st t5 (by omega)
   have t6 := t5.step
   have hk0 := of_decide_eq_true (List.all_eq_true.1 w4 k0 (List.mem_cons_self ..))
   have e6 := kidR_st t6 (by omega) (by omega) (by omega) (by omega)
   have t7 := t6.step' (kidBytes_length k0)
   have hh : branchHead b = (lv, seps.length, P, k0, 0 + 1 + 1 + 2 + (vB 9 (cmnAll seps : Int)).length + P.length + SL.length + 8, 0) := by
    unfold branchHead
    simp only [Nat.zero_add] at e0 e1 e2 e3 e4 e5 e6 ⊢
    simp only [e0, e1, e2, e3, e4]
    rw [show ((seps.length + 1 : Nat) : Int) % 65536 = ((seps.length + 1 : Nat) : Int) by omega, show lv % 256 = lv by omega]
    simp only [e5, e6]
    rw [show (max 0 (((seps.length + 1 : Nat) : Int) - 1)).toNat = seps.length by omega]
   have hrd : readBranchR b = (lv, seps, k0 :: ks) := by
    unfold readBranchR
    rw [hh]
    simp only
    rw [rdCells_st b P hl seps ks _ Z hkl t7 hpre (fun k hk => List.all_eq_true.1 w4 k (List.mem_cons_of_mem _ hk))]
   unfold decBranchR
   rw [if_pos hl, hrd]
   simp only
   rw [h0]
   simp only [eqStr_self, if_true]
 · rw [if_neg c1] at h
   exact absurd (Prod.mk.inj h).2 c1
theorem meta_back {x : Hd7} {b : List Int} (h : encHd x = (b, 0)) : decMetaR b = (x, 0) ∧ b.length = 4092 ∧ b.getD 0 0 = 5 := by
 have h0 := h
 unfold encHd encMetaR at h
 by_cases c1 : mayB x.v x.c x.r x.h x.k x.f x.n = true
 · rw [if_pos c1] at h
   obtain ⟨hb, _⟩ := Prod.mk.inj h
   obtain ⟨⟨m1, m2⟩, ⟨m3, m4⟩, ⟨m5, m6⟩, ⟨m7, m8⟩, ⟨m9, m10⟩, ⟨m11, m12⟩, ⟨m13, m14⟩⟩ := mayB_true c1
   obtain ⟨v, c, r, hh, k, f, n⟩ := x
   simp only at *
   obtain ⟨Z, hZ⟩ : ∃ Z, zs 4051 = Z := ⟨_, rfl⟩
   have hZl : Z.length = 4051 := by rw [← hZ, zs_length]
   have hl : b.length = 4092 := by
    rw [← hb]
    simp only [List.length_append, headBytes_length, zs_length]
    rfl
   have hbs : b = metaBegin ++ (leB 8 v ++ (leB 4 c ++ (leB 4 r ++ (leB 1 hh ++ (leB 8 k ++ (leB 4 f ++ (leB 4 n ++ (Z ++ metaEnd)))))))) := by
    rw [← hb, hZ]
    unfold headBytes
    simp only [List.append_assoc]
   have ht : b.take 4 = metaBegin := by rw [hbs]; rfl
   have hd : b.drop 4 = leB 8 v ++ (leB 4 c ++ (leB 4 r ++ (leB 1 hh ++ (leB 8 k ++ (leB 4 f ++ (leB 4 n ++ (Z ++ metaEnd))))))) := by rw [hbs]; rfl
   have he : b.drop 4088 = metaEnd := by
    rw [← hb, List.drop_left' (by simp only [List.length_append, headBytes_length, zs_length])]
   have hb0 : b.getD 0 0 = 5 := by rw [hbs]; rfl
   refine ⟨?_, hl, hb0⟩
   have t0 : Stands (b.drop 4) 0 _ := ⟨Nat.zero_le _, hd⟩
   have e0 : getR 8 (b.drop 4) 0 0 = (v, 0 + 8, 0) := getR_st (n := 8) t0 (by omega) (by omega) (by omega)
   have t1 := t0.step' (leB_length 8 _)
   have e1 : getR 4 (b.drop 4) (0 + 8) 0 = (c, 0 + 8 + 4, 0) := getR_st (n := 4) t1 (by omega) (by omega) (by omega)
   have t2 := t1.step' (leB_length 4 _)
   have e2 : getR 4 (b.drop 4) (0 + 8 + 4) 0 = (r, 0 + 8 + 4 + 4, 0) := getR_st (n := 4) t2 (by omega) (by omega) (by omega)
   have t3 := t2.step' (leB_length 4 _)
   have e3 : getR 1 (b.drop 4) (0 + 8 + 4 + 4) 0 = (hh, 0 + 8 + 4 + 4 + 1, 0) := getR_st (n := 1) t3 (by omega) (by omega) (by omega)
   have t4 := t3.step' (leB_length 1 _)
   have e4 : getR 8 (b.drop 4) (0 + 8 + 4 + 4 + 1) 0 = (k, 0 + 8 + 4 + 4 + 1 + 8, 0) := getR_st (n := 8) t4 (by omega) (by omega) (by omega)
   have t5 := t4.step' (leB_length 8 _)
   have e5 : getR 4 (b.drop 4) (0 + 8 + 4 + 4 + 1 + 8) 0 = (f, 0 + 8 + 4 + 4 + 1 + 8 + 4, 0) := getR_st (n := 4) t5 (by omega) (by omega) (by omega)
   have t6 := t5.step' (leB_length 4 _)
   have e6 : getR 4 (b.drop 4) (0 + 8 + 4 + 4 + 1 + 8 + 4) 0 = (n, 0 + 8 + 4 + 4 + 1 + 8 + 4 + 4, 0) := getR_st (n := 4) t6 (by omega) (by omega) (by omega)
   have hr : rdHead (b.drop 4) = ⟨v, c, r, hh, k, f, n⟩ := by
    unfold rdHead
    simp only [e0, e1, e2, e3, e4, e5, e6]
    rw [show wrap64 v = v by unfold wrap64; omega, show wrap64 k = k by unfold wrap64; omega, show c % 4294967296 = c by omega, show r % 4294967296 = r by omega, show hh % 256 = hh by omega, show f % 4294967296 = f by omega, show n % 4294967296 = n by omega]
   unfold decMetaR
   rw [if_pos ⟨hl, ht, he⟩, hr, h0]
   simp only [eqStr_self, if_true]
 · rw [if_neg c1] at h
   exact absurd (Prod.mk.inj h).2 (by decide)
theorem sealR_open {b : List Int} (h : b.length = 4092) : openR (sealR b) = (b, 0) ∧ (sealR b).length = 4096 := by
 have hm : (markOf (crcSum b)).length = 4 := rfl
 have hl : (sealR b).length = 4096 := by unfold sealR; rw [List.length_append, hm]; omega
 have h1 : (sealR b).take 4092 = b := List.take_left' h
 have h2 : (sealR b).drop 4092 = markOf (crcSum b) := List.drop_left' h
 refine ⟨?_, hl⟩
 unfold openR
 rw [if_pos hl, h1, h2, if_pos rfl]
theorem page_back {p : Pg} {c : List Int} (hs : SmallP p) (h : encPageR p = (c, 0)) :
 decPageR c = (p, 0) ∧ c.length = 4096 ∧ openR c = (c.take 4092, 0) ∧ (c.take 4092).length = 4092 ∧ (c.take 4092).getD 0 0 = p.kind := by
 unfold encPageR at h
 by_cases c0 : p.kind < 1 ∨ 5 < p.kind
 · rw [if_pos c0] at h
   exact absurd (Prod.mk.inj h).2 (by decide)
 rw [if_neg c0] at h
 by_cases c1 : bareB p = true
 rotate_left
 · rw [if_neg c1] at h
   exact absurd (Prod.mk.inj h).2 (by decide)
 rw [if_pos c1] at h
 by_cases c2 : (bodyR p).2 = 0
 rotate_left
 · rw [if_neg c2] at h
   exact absurd (Prod.mk.inj h).2 c2
 rw [if_pos c2] at h
 obtain ⟨hc, _⟩ := Prod.mk.inj h
 obtain ⟨b, hb⟩ : ∃ b, (bodyR p).1 = b := ⟨_, rfl⟩
 have hbr : bodyR p = (b, 0) := by rw [← hb, ← c2]
 rw [hb] at hc
 suffices hk : decKindR p.kind b = ({p with kind := 0}, 0) ∧ b.length = 4092 ∧ b.getD 0 0 = p.kind by
  obtain ⟨k1, k2, k3⟩ := hk
  obtain ⟨o1, o2⟩ := sealR_open k2
  have ht : c.take 4092 = b := by rw [← hc]; exact List.take_left' k2
  rw [ht]
  refine ⟨?_, by rw [← hc]; exact o2, by rw [← hc]; exact o1, k2, k3⟩
  have hw : IntKind.i64.wrap (b.getD 0 0) = p.kind := by rw [k3, IntKind.wrap_i64]; omega
  unfold decPageR
  rw [← hc, o1]
  simp only [if_true]
  unfold bodyDecR
  rw [hw, if_neg c0, k1]
  simp only [if_true]
 obtain ⟨kind, items, level, seps, kids, next, data, list, ⟨v, c, r, hh, k, f, n⟩⟩ := p
 obtain ⟨s1, s2, s3, s4⟩ := hs
 simp only at c0 s1 s2 s3 s4 ⊢
 rcases (by omega : kind = 1 ∨ kind = 2 ∨ kind = 3 ∨ kind = 4 ∨ kind = 5) with rfl | rfl | rfl | rfl | rfl
 · have hx : encLeafR items = (b, 0) := hbr
   obtain ⟨y1, y2, y3⟩ := leaf_back s1 hx
   simp [bareB, plainL, hasP, pg0, hd0, eqLs] at c1
   obtain ⟨rfl, rfl, rfl, rfl, rfl, rfl, rfl, rfl, rfl, rfl, rfl, rfl, rfl⟩ := c1
   refine ⟨?_, y2, y3⟩
   unfold decKindR
   rw [if_pos rfl, y1]
   rfl
 · have hx : encBranchR level seps kids = (b, 0) := hbr
   obtain ⟨y1, y2, y3⟩ := branch_back s2 hx
   simp [bareB, plainL, hasP, pg0, hd0, eqLs] at c1
   obtain ⟨rfl, rfl, rfl, rfl, rfl, rfl, rfl, rfl, rfl, rfl, rfl⟩ := c1
   refine ⟨?_, y2, y3⟩
   unfold decKindR
   rw [if_neg (by decide), if_pos rfl, y1]
   rfl
 · have hx : encDataR next data = (b, 0) := hbr
   obtain ⟨y1, y2, y3⟩ := data_back hx
   simp [bareB, plainL, hasP, pg0, hd0, eqLs] at c1
   obtain ⟨rfl, rfl, rfl, rfl, rfl, rfl, rfl, rfl, rfl, rfl, rfl, rfl⟩ := c1
   refine ⟨?_, y2, y3⟩
   unfold decKindR
   rw [if_neg (by decide), if_neg (by decide), if_pos rfl, y1]
   rfl
 · have hx : encListR next list = (b, 0) := hbr
   obtain ⟨y1, y2, y3⟩ := list_back hx
   simp [bareB, plainL, hasP, pg0, hd0, eqLs] at c1
   obtain ⟨rfl, rfl, rfl, rfl, rfl, rfl, rfl, rfl, rfl, rfl, rfl, rfl⟩ := c1
   refine ⟨?_, y2, y3⟩
   unfold decKindR
   rw [if_neg (by decide), if_neg (by decide), if_neg (by decide), if_pos rfl, y1]
   rfl
 · have hx : encHd ⟨v, c, r, hh, k, f, n⟩ = (b, 0) := hbr
   obtain ⟨y1, y2, y3⟩ := meta_back hx
   simp [bareB, plainL, hasP, pg0, hd0, eqLs] at c1
   obtain ⟨rfl, rfl, rfl, rfl, rfl, rfl, rfl⟩ := c1
   refine ⟨?_, y2, y3⟩
   unfold decKindR
   rw [if_neg (by decide), if_neg (by decide), if_neg (by decide), if_neg (by decide), y1]
   rfl
theorem page_enc_no {p : Pg} (h : ¬ (encPageR p).2 = 0) : (encPageR p).1 = [] := by
 unfold encPageR at h ⊢
 by_cases c0 : p.kind < 1 ∨ 5 < p.kind
 · rw [if_pos c0]
 · rw [if_neg c0] at h ⊢
   by_cases c1 : bareB p = true
   · rw [if_pos c1] at h ⊢
     by_cases c2 : (bodyR p).2 = 0
     · rw [if_pos c2] at h
       exact absurd rfl h
     · rw [if_neg c2]
   · rw [if_neg c1]
end Go.Proofs.YtppjphghlclklaaGreatDoor.P
end
section
namespace Go.Proofs.YtppjphghlclklaaGreatDoor.P
open Go.RowKit Go.Proofs.YtppjphghlclklaaGreatDoorW.PrintWords Go.Proofs.YtppjphghlclklaaGreatDoorW.PrintLast Go.Proofs.YtppjphghlclklaaGreatDoorW.PrintMore
attribute [local go_sem] max2_int min2_int max_two min_two max_three min_three max_four min_four
set_option linter.unusedVariables false
set_option linter.unusedSimpArgs false
theorem same_loop {α : Type} (L : Nat → Int → Option Bool) (a b : List α) (hl : a.length = b.length) (hend : ∀ k, L (k + 1) (a.length : Int) = some true)
 (hstep : ∀ (k i : Nat) (h : i < a.length) (h' : i < b.length), (a[i] = b[i] ∧ L (k + 1) (i : Int) = L k ((i + 1 : Nat) : Int)) ∨ (a[i] ≠ b[i] ∧ L (k + 1) (i : Int) = some false)) :
 ∃ r, L (a.length + 1) ((0 : Nat) : Int) = some r ∧ (r = true ↔ a = b) := by
 have key : ∀ (d i : Nat), i + d = a.length → ∃ r, L (d + 1) (i : Int) = some r ∧ (r = true ↔ a.drop i = b.drop i) := by
  intro d
  induction d with
  | zero =>
   intro i hi
   refine ⟨true, ?_, ?_⟩
   · rw [show (i : Int) = (a.length : Int) by omega]
     exact hend 0
   · rw [List.drop_of_length_le (by omega), List.drop_of_length_le (by omega)]
     simp
  | succ d ih =>
   intro i hi
   have h1 : i < a.length := by omega
   have h2 : i < b.length := by omega
   rw [List.drop_eq_getElem_cons h1, List.drop_eq_getElem_cons h2]
   rcases hstep (d + 1) i h1 h2 with ⟨he, hs⟩ | ⟨he, hs⟩
   · obtain ⟨r, hr, hi2⟩ := ih (i + 1) (by omega)
     refine ⟨r, hs.trans hr, ?_⟩
     rw [hi2, he]
     exact ⟨fun h => by rw [h], fun h => (List.cons.inj h).2⟩
   · refine ⟨false, hs, ?_⟩
     simp only [Bool.false_eq_true, false_iff]
     exact fun h => he (List.cons.inj h).1
 obtain ⟨r, h1, h2⟩ := key a.length 0 (by omega)
 exact ⟨r, h1, by simpa using h2⟩
theorem same_bytes {a b : List Int} (ha : ByteL a) (hb : ByteL b) : ∃ r, coppiceref_SameBytes.f a b = some r ∧ (r = true ↔ a = b) :=
 ⟨_, rfl, ⟨fun h => eqStr_of ha hb h, fun h => by rw [h]; exact eqStr_self b⟩⟩
def ByteIt (x : It) : Prop := ByteL x.f0 ∧ ByteL x.f1
theorem same_item {x y : It} (hx : ByteIt x) (hy : ByteIt y) : ∃ r, coppiceref_SameItem.f x.f0 x.f1 x.f2 x.f3 y.f0 y.f1 y.f2 y.f3 = some r ∧ (r = true ↔ x = y) := by
 obtain ⟨r1, e1, i1⟩ := same_bytes hx.1 hy.1
 obtain ⟨r2, e2, i2⟩ := same_bytes hx.2 hy.2
 obtain ⟨x0, x1, x2, x3⟩ := x
 obtain ⟨y0, y1, y2, y3⟩ := y
 simp only at *
 unfold coppiceref_SameItem.f
 rw [e1, e2]
 simp only [Option.bind_some, S77.mk.injEq, ← i1, ← i2]
 cases r1 <;> cases r2 <;> by_cases c : x2 = y2 <;> simp [c]
theorem same_items {a b : List It} (ha : ∀ x ∈ a, ByteIt x) (hb : ∀ x ∈ b, ByteIt x) (hm : a.length ≤ 9223372036854775807) : ∃ r, coppiceref_SameItems.f (a.length + 1) a b = some r ∧ (r = true ↔ a = b) := by
 unfold coppiceref_SameItems.f
 by_cases c : a.length = b.length
 · rw [if_pos (by omega)]
   refine same_loop (fun k i => coppiceref_SameItems.l0 k a b i) a b c (fun k => ?_) (fun k i h h' => ?_)
   · show coppiceref_SameItems.l0 (k + 1) a b a.length = _
     unfold coppiceref_SameItems.l0
     rw [if_neg (by omega)]
   · show (_ ∧ coppiceref_SameItems.l0 (k + 1) a b i = coppiceref_SameItems.l0 k a b _) ∨ (_ ∧ coppiceref_SameItems.l0 (k + 1) a b i = _)
     obtain ⟨r, hr, hi⟩ := same_item (ha a[i] (List.getElem_mem h)) (hb b[i] (List.getElem_mem h'))
     have e1 : rd_T77 a (i : Int) = a[i] := by simp [rd_T77, h]
     have e2 : rd_T77 b (i : Int) = b[i] := by simp [rd_T77, h']
     rw [coppiceref_SameItems.l0, if_pos (by omega), if_pos (by omega), if_pos (by omega), e1, e2, hr, wrap_id _ (by omega) (by omega)]
     cases r with
     | true => exact .inl ⟨hi.1 rfl, rfl⟩
     | false => exact .inr ⟨fun e => absurd (hi.2 e) (by decide), rfl⟩
 · rw [if_neg (by omega)]
   exact ⟨false, rfl, by simp only [Bool.false_eq_true, false_iff]; exact fun e => c (by rw [e])⟩
theorem same_lists {a b : List (List Int)} (ha : ∀ x ∈ a, ByteL x) (hb : ∀ x ∈ b, ByteL x) (hm : a.length ≤ 9223372036854775807) : ∃ r, coppiceref_SameByteLists.f (a.length + 1) a b = some r ∧ (r = true ↔ a = b) := by
 unfold coppiceref_SameByteLists.f
 by_cases c : a.length = b.length
 · rw [if_pos (by omega)]
   refine same_loop (fun k i => coppiceref_SameByteLists.l0 k a b i) a b c (fun k => ?_) (fun k i h h' => ?_)
   · show coppiceref_SameByteLists.l0 (k + 1) a b a.length = _
     unfold coppiceref_SameByteLists.l0
     rw [if_neg (by omega)]
   · show (_ ∧ coppiceref_SameByteLists.l0 (k + 1) a b i = coppiceref_SameByteLists.l0 k a b _) ∨ (_ ∧ coppiceref_SameByteLists.l0 (k + 1) a b i = _)
     obtain ⟨r, hr, hi⟩ := same_bytes (ha a[i] (List.getElem_mem h)) (hb b[i] (List.getElem_mem h'))
     rw [coppiceref_SameByteLists.l0, if_pos (by omega), if_pos (by omega), if_pos (by omega), rd_list a i h, rd_list b i h', hr, wrap_id _ (by omega) (by omega)]
     cases r with
     | true => exact .inl ⟨hi.1 rfl, rfl⟩
     | false => exact .inr ⟨fun e => absurd (hi.2 e) (by decide), rfl⟩
 · rw [if_neg (by omega)]
   exact ⟨false, rfl, by simp only [Bool.false_eq_true, false_iff]; exact fun e => c (by rw [e])⟩
theorem same_kids {a b : List Kid} (hm : a.length ≤ 9223372036854775807) : ∃ r, coppiceref_SameKids.f (a.length + 1) a b = some r ∧ (r = true ↔ a = b) := by
 unfold coppiceref_SameKids.f
 by_cases c : a.length = b.length
 · rw [if_pos (by omega)]
   refine same_loop (fun k i => coppiceref_SameKids.l0 k a b i) a b c (fun k => ?_) (fun k i h h' => ?_)
   · show coppiceref_SameKids.l0 (k + 1) a b a.length = _
     unfold coppiceref_SameKids.l0
     rw [if_neg (by omega)]
   · show (_ ∧ coppiceref_SameKids.l0 (k + 1) a b i = coppiceref_SameKids.l0 k a b _) ∨ (_ ∧ coppiceref_SameKids.l0 (k + 1) a b i = _)
     rw [coppiceref_SameKids.l0, if_pos (by omega), if_pos (by omega), if_pos (by omega), rd_kid a i h, rd_kid b i h', wrap_id _ (by omega) (by omega)]
     obtain ⟨x, hx⟩ : ∃ x, a[i] = x := ⟨_, rfl⟩
     obtain ⟨y, hy⟩ : ∃ y, b[i] = y := ⟨_, rfl⟩
     rw [hx, hy]
     obtain ⟨x0, x1⟩ := x
     obtain ⟨y0, y1⟩ := y
     simp only [S82.mk.injEq]
     by_cases c1 : x0 = y0
     · by_cases c2 : x1 = y1
       · rw [if_pos c1, if_pos c2]
         exact .inl ⟨⟨c1, c2⟩, rfl⟩
       · rw [if_pos c1, if_neg c2]
         exact .inr ⟨fun e => c2 (by injection e), rfl⟩
     · rw [if_neg c1]
       exact .inr ⟨fun e => c1 (by injection e), rfl⟩
 · rw [if_neg (by omega)]
   exact ⟨false, rfl, by simp only [Bool.false_eq_true, false_iff]; exact fun e => c (by rw [e])⟩
theorem same_ints {a b : List Int} (hm : a.length ≤ 9223372036854775807) : ∃ r, coppiceref_SameInts.f (a.length + 1) a b = some r ∧ (r = true ↔ a = b) := by
 unfold coppiceref_SameInts.f
 by_cases c : a.length = b.length
 · rw [if_pos (by omega)]
   refine same_loop (fun k i => coppiceref_SameInts.l0 k a b i) a b c (fun k => ?_) (fun k i h h' => ?_)
   · show coppiceref_SameInts.l0 (k + 1) a b a.length = _
     unfold coppiceref_SameInts.l0
     rw [if_neg (by omega)]
   · show (_ ∧ coppiceref_SameInts.l0 (k + 1) a b i = coppiceref_SameInts.l0 k a b _) ∨ (_ ∧ coppiceref_SameInts.l0 (k + 1) a b i = _)
     have e1 : rd a (i : Int) = a[i] := by simp [rd, h]
     have e2 : rd b (i : Int) = b[i] := by simp [rd, h']
     rw [coppiceref_SameInts.l0, if_pos (by omega), if_pos (by omega), if_pos (by omega), e1, e2, wrap_id _ (by omega) (by omega)]
     by_cases c1 : a[i] = b[i]
     · rw [if_pos c1]
       exact .inl ⟨c1, rfl⟩
     · rw [if_neg c1]
       exact .inr ⟨c1, rfl⟩
 · rw [if_neg (by omega)]
   exact ⟨false, rfl, by simp only [Bool.false_eq_true, false_iff]; exact fun e => c (by rw [e])⟩
def ByteP (p : Pg) : Prop := (∀ x ∈ p.items, ByteIt x) ∧ (∀ x ∈ p.seps, ByteL x) ∧ ByteL p.data
def SamePost (w : World) (p q : Pg) (e : Ending) (w' : World) : Prop := ∃ b : Bool, e = .returned (.bool b) ∧ (b = true ↔ p = q) ∧ Below w.heap.size w w'
theorem coppiceref_SamePage_any (p q : Pg) (u v : Value) (w : World) (hp : PgC w p u) (hq : PgC w q v) (hbp : ByteP p) (hbq : ByteP q) :
 Calls Tryz.prog 22 #[u, v] w (SamePost w p q) := by
 obtain ⟨P1, pc1, P3, pc3, P4, pc4, P6, pc6, P7, pc7, rfl, ⟨pl1, pr1⟩, ⟨pl3, pr3⟩, ⟨pl4, pr4⟩, ⟨pl6, pr6⟩, ⟨pl7, pr7⟩⟩ := hp
 obtain ⟨Q1, qc1, Q3, qc3, Q4, qc4, Q6, qc6, Q7, qc7, rfl, ⟨ql1, qr1⟩, ⟨ql3, qr3⟩, ⟨ql4, qr4⟩, ⟨ql6, qr6⟩, ⟨ql7, qr7⟩⟩ := hq
 obtain ⟨pk, pitems, plv, pseps, pkids, pnx, pdata, plist, ph⟩ := p
 obtain ⟨qk, qitems, qlv, qseps, qkids, qnx, qdata, qlist, qh⟩ := q
 obtain ⟨i1, i2, i3⟩ := hbp
 obtain ⟨j1, j2, j3⟩ := hbq
 simp only at i1 i2 i3 j1 j2 j3 pl1 pr1 ql1 qr1 pl3 pr3 ql3 qr3 pl4 pr4 ql4 qr4 pl6 pr6 ql6 qr6 pl7 pr7 ql7 qr7 ⊢
 obtain ⟨b1, e1, s1⟩ := same_items i1 j1 pr1.2.1
 obtain ⟨b2, e2, s2⟩ := same_lists i2 j2 pr3.2.1
 obtain ⟨b3, e3, s3⟩ := same_kids (b := qkids) pr4.2.1
 obtain ⟨b4, e4, s4⟩ := same_bytes i3 j3
 obtain ⟨b5, e5, s5⟩ := same_ints (b := qlist) pr7.2.1
 obtain ⟨ph0, ph1, ph2, ph3, ph4, ph5, ph6⟩ := ph
 obtain ⟨qh0, qh1, qh2, qh3, qh4, qh5, qh6⟩ := qh
 have H1 := Aside0.mk (fun (W : World) (hb : Below w.heap.size w W) => coppiceref_SameItems.calls _ P1 pc1 pitems Q1 qc1 qitems b1 W (Kd.C_below pr1 hb) pl1 (Kd.C_below qr1 hb) ql1 e1)
 have H2 := Aside0.mk (fun (W : World) (hb : Below w.heap.size w W) => coppiceref_SameByteLists.calls _ P3 pc3 pseps Q3 qc3 qseps b2 W (Kd.C_below pr3 hb) pl3 (Kd.C_below qr3 hb) ql3 e2)
 have H3 := Aside0.mk (fun (W : World) (hb : Below w.heap.size w W) => coppiceref_SameKids.calls _ P4 pc4 pkids Q4 qc4 qkids b3 W (Kd.C_below pr4 hb) pl4 (Kd.C_below qr4 hb) ql4 e3)
 have H4 := Aside0.mk (fun (W : World) (hb : Below w.heap.size w W) => coppiceref_SameBytes.calls P6 pc6 pdata Q6 qc6 qdata b4 W (Kd.C_below pr6 hb) pl6 (Kd.C_below qr6 hb) ql6 e4)
 have H5 := Aside0.mk (fun (W : World) (hb : Below w.heap.size w W) => coppiceref_SameInts.calls _ P7 pc7 plist Q7 qc7 qlist b5 W (Kd.C_below pr7 hb) pl7 (Kd.C_below qr7 hb) ql7 e5)
 have H6 := Aside0.mk (fun (W : World) => sameHead_any ph0 ph1 ph2 ph3 ph4 ph5 ph6 qh0 qh1 qh2 qh3 qh4 qh5 qh6 W)
 have HS := Aside0.mk (And.intro s1 (And.intro s2 (And.intro s3 (And.intro s4 s5))))
 clear s1 s2 s3 s4 s5 e1 e2 e3 e4 e5 i1 i2 i3 j1 j2 j3 pl1 pr1 ql1 qr1 pl3 pr3 ql3 qr3 pl4 pr4 ql4 qr4 pl6 pr6 ql6 qr6 pl7 pr7 ql7 qr7
 go_enter Tryz.func22, Tryz.ntmps22
 go_upto_region 1 with (fail)
 obtain ⟨w1, hw1⟩ : ∃ x, x = (w.alloc (.cells #[.int .i64 pk, .slice P1 pitems.length pc1, .int .i64 plv, .slice P3 pseps.length pc3, .slice P4 pkids.length pc4, .int .i64 pnx, .slice P6 pdata.length pc6, .slice P7 plist.length pc7, .int .i64 ph0, .int .i64 ph1, .int .i64 ph2, .int .i64 ph3, .int .i64 ph4, .int .i64 ph5, .int .i64 ph6] 30)).alloc (.cells #[.int .i64 qk, .slice Q1 qitems.length qc1, .int .i64 qlv, .slice Q3 qseps.length qc3, .slice Q4 qkids.length qc4, .int .i64 qnx, .slice Q6 qdata.length qc6, .slice Q7 qlist.length qc7, .int .i64 qh0, .int .i64 qh1, .int .i64 qh2, .int .i64 qh3, .int .i64 qh4, .int .i64 qh5, .int .i64 qh6] 30) := ⟨_, rfl⟩
 rw [← hw1]
 have hp := (Below.block (below_alloc (Below.refl _ _) (.cells #[.int .i64 qk, .slice Q1 qitems.length qc1, .int .i64 qlv, .slice Q3 qseps.length qc3, .slice Q4 qkids.length qc4, .int .i64 qnx, .slice Q6 qdata.length qc6, .slice Q7 qlist.length qc7, .int .i64 qh0, .int .i64 qh1, .int .i64 qh2, .int .i64 qh3, .int .i64 qh4, .int .i64 qh5, .int .i64 qh6] 30)) _ (blk_lt (heap_alloc_new w (.cells #[.int .i64 pk, .slice P1 pitems.length pc1, .int .i64 plv, .slice P3 pseps.length pc3, .slice P4 pkids.length pc4, .int .i64 pnx, .slice P6 pdata.length pc6, .slice P7 plist.length pc7, .int .i64 ph0, .int .i64 ph1, .int .i64 ph2, .int .i64 ph3, .int .i64 ph4, .int .i64 ph5, .int .i64 ph6] 30)))).trans (heap_alloc_new w (.cells #[.int .i64 pk, .slice P1 pitems.length pc1, .int .i64 plv, .slice P3 pseps.length pc3, .slice P4 pkids.length pc4, .int .i64 pnx, .slice P6 pdata.length pc6, .slice P7 plist.length pc7, .int .i64 ph0, .int .i64 ph1, .int .i64 ph2, .int .i64 ph3, .int .i64 ph4, .int .i64 ph5, .int .i64 ph6] 30))
 have hq := alloc_two w (.cells #[.int .i64 pk, .slice P1 pitems.length pc1, .int .i64 plv, .slice P3 pseps.length pc3, .slice P4 pkids.length pc4, .int .i64 pnx, .slice P6 pdata.length pc6, .slice P7 plist.length pc7, .int .i64 ph0, .int .i64 ph1, .int .i64 ph2, .int .i64 ph3, .int .i64 ph4, .int .i64 ph5, .int .i64 ph6] 30) (.cells #[.int .i64 qk, .slice Q1 qitems.length qc1, .int .i64 qlv, .slice Q3 qseps.length qc3, .slice Q4 qkids.length qc4, .int .i64 qnx, .slice Q6 qdata.length qc6, .slice Q7 qlist.length qc7, .int .i64 qh0, .int .i64 qh1, .int .i64 qh2, .int .i64 qh3, .int .i64 qh4, .int .i64 qh5, .int .i64 qh6] 30)
 have HB : Aside0 (Below w.heap.size w w1) := ⟨by rw [hw1]; exact below_alloc (below_alloc (Below.refl _ _) _) _⟩
 rw [← hw1] at hp hq
 have HP := Aside0.mk hp
 have HQ := Aside0.mk hq
 obtain ⟨x0, x1, x2, x3, x4, x5, x6, x7, x8, x9, x10, x11, x12, x13, x14⟩ := cells15 hp
 obtain ⟨y0, y1, y2, y3, y4, y5, y6, y7, y8, y9, y10, y11, y12, y13, y14⟩ := cells15 hq
 clear hw1 hp hq
 go_wp2_with fail
 refine (H1.out _ HB.out).mono ?_
 rintro e W1 ⟨rfl, hd⟩
 have hb : Below w1.heap.size w1 W1 := (by first | exact hd | (obtain ⟨m, rfl⟩ := hd; exact pw_below_drewN (Below.refl _ _) m))
 have hp := (hb.block _ (blk_lt HP.out)).trans HP.out
 have hq := (hb.block _ (blk_lt HQ.out)).trans HQ.out
 have HB' := Aside0.mk (below_step HB.out hb)
 clear HP HQ HB hb hd H1 x0 y0 x1 y1 x2 y2 x3 y3 x4 y4 x5 y5 x6 y6 x7 y7 x8 y8 x9 y9 x10 y10 x11 y11 x12 y12 x13 y13 x14 y14
 have HP := Aside0.mk hp
 have HQ := Aside0.mk hq
 have HB := HB'
 obtain ⟨x0, x1, x2, x3, x4, x5, x6, x7, x8, x9, x10, x11, x12, x13, x14⟩ := cells15 hp
 obtain ⟨y0, y1, y2, y3, y4, y5, y6, y7, y8, y9, y10, y11, y12, y13, y14⟩ := cells15 hq
 clear hp hq HB'
 go_wp2_with fail
 refine (H2.out _ HB.out).mono ?_
 rintro e W2 ⟨rfl, hd⟩
 have hb : Below W1.heap.size W1 W2 := (by first | exact hd | (obtain ⟨m, rfl⟩ := hd; exact pw_below_drewN (Below.refl _ _) m))
 have hp := (hb.block _ (blk_lt HP.out)).trans HP.out
 have hq := (hb.block _ (blk_lt HQ.out)).trans HQ.out
 have HB' := Aside0.mk (below_step HB.out hb)
 clear HP HQ HB hb hd H2 x0 y0 x1 y1 x2 y2 x3 y3 x4 y4 x5 y5 x6 y6 x7 y7 x8 y8 x9 y9 x10 y10 x11 y11 x12 y12 x13 y13 x14 y14
 have HP := Aside0.mk hp
 have HQ := Aside0.mk hq
 have HB := HB'
 obtain ⟨x0, x1, x2, x3, x4, x5, x6, x7, x8, x9, x10, x11, x12, x13, x14⟩ := cells15 hp
 obtain ⟨y0, y1, y2, y3, y4, y5, y6, y7, y8, y9, y10, y11, y12, y13, y14⟩ := cells15 hq
 clear hp hq HB'
 go_wp2_with fail
 refine (H3.out _ HB.out).mono ?_
 rintro e W3 ⟨rfl, hd⟩
 have hb : Below W2.heap.size W2 W3 := (by first | exact hd | (obtain ⟨m, rfl⟩ := hd; exact pw_below_drewN (Below.refl _ _) m))
 have hp := (hb.block _ (blk_lt HP.out)).trans HP.out
 have hq := (hb.block _ (blk_lt HQ.out)).trans HQ.out
 have HB' := Aside0.mk (below_step HB.out hb)
 clear HP HQ HB hb hd H3 x0 y0 x1 y1 x2 y2 x3 y3 x4 y4 x5 y5 x6 y6 x7 y7 x8 y8 x9 y9 x10 y10 x11 y11 x12 y12 x13 y13 x14 y14
 have HP := Aside0.mk hp
 have HQ := Aside0.mk hq
 have HB := HB'
 obtain ⟨x0, x1, x2, x3, x4, x5, x6, x7, x8, x9, x10, x11, x12, x13, x14⟩ := cells15 hp
 obtain ⟨y0, y1, y2, y3, y4, y5, y6, y7, y8, y9, y10, y11, y12, y13, y14⟩ := cells15 hq
 clear hp hq HB'
 go_wp2_with fail
 refine (H4.out _ HB.out).mono ?_
 rintro e W4 ⟨rfl, hd⟩
 have hb : Below W3.heap.size W3 W4 := (by first | exact hd | (obtain ⟨m, rfl⟩ := hd; exact pw_below_drewN (Below.refl _ _) m))
 have hp := (hb.block _ (blk_lt HP.out)).trans HP.out
 have hq := (hb.block _ (blk_lt HQ.out)).trans HQ.out
 have HB' := Aside0.mk (below_step HB.out hb)
 clear HP HQ HB hb hd H4 x0 y0 x1 y1 x2 y2 x3 y3 x4 y4 x5 y5 x6 y6 x7 y7 x8 y8 x9 y9 x10 y10 x11 y11 x12 y12 x13 y13 x14 y14
 have HP := Aside0.mk hp
 have HQ := Aside0.mk hq
 have HB := HB'
 obtain ⟨x0, x1, x2, x3, x4, x5, x6, x7, x8, x9, x10, x11, x12, x13, x14⟩ := cells15 hp
 obtain ⟨y0, y1, y2, y3, y4, y5, y6, y7, y8, y9, y10, y11, y12, y13, y14⟩ := cells15 hq
 clear hp hq HB'
 go_wp2_with fail
 refine (H5.out _ HB.out).mono ?_
 rintro e W5 ⟨rfl, hd⟩
 have hb : Below W4.heap.size W4 W5 := (by first | exact hd | (obtain ⟨m, rfl⟩ := hd; exact pw_below_drewN (Below.refl _ _) m))
 have hp := (hb.block _ (blk_lt HP.out)).trans HP.out
 have hq := (hb.block _ (blk_lt HQ.out)).trans HQ.out
 have HB' := Aside0.mk (below_step HB.out hb)
 clear HP HQ HB hb hd H5 x0 y0 x1 y1 x2 y2 x3 y3 x4 y4 x5 y5 x6 y6 x7 y7 x8 y8 x9 y9 x10 y10 x11 y11 x12 y12 x13 y13 x14 y14
 have HP := Aside0.mk hp
 have HQ := Aside0.mk hq
 have HB := HB'
 obtain ⟨x0, x1, x2, x3, x4, x5, x6, x7, x8, x9, x10, x11, x12, x13, x14⟩ := cells15 hp
 obtain ⟨y0, y1, y2, y3, y4, y5, y6, y7, y8, y9, y10, y11, y12, y13, y14⟩ := cells15 hq
 clear hp hq HB'
 go_wp2_with fail
 refine (H6.out _).mono ?_
 rintro e W6 ⟨b6, rfl, hs6, hd⟩
 have HS6 := Aside0.mk hs6
 clear hs6
 have hb : Below W5.heap.size W5 W6 := (by first | exact hd | (obtain ⟨m, rfl⟩ := hd; exact pw_below_drewN (Below.refl _ _) m))
 have hp := (hb.block _ (blk_lt HP.out)).trans HP.out
 have hq := (hb.block _ (blk_lt HQ.out)).trans HQ.out
 have HB' := Aside0.mk (below_step HB.out hb)
 clear HP HQ HB hb hd H6 x0 y0 x1 y1 x2 y2 x3 y3 x4 y4 x5 y5 x6 y6 x7 y7 x8 y8 x9 y9 x10 y10 x11 y11 x12 y12 x13 y13 x14 y14
 have HP := Aside0.mk hp
 have HQ := Aside0.mk hq
 have HB := HB'
 obtain ⟨x0, x1, x2, x3, x4, x5, x6, x7, x8, x9, x10, x11, x12, x13, x14⟩ := cells15 hp
 obtain ⟨y0, y1, y2, y3, y4, y5, y6, y7, y8, y9, y10, y11, y12, y13, y14⟩ := cells15 hq
 clear hp hq HB'
 cases b1 with
 | false =>
  go_wp2
  go_ret
  exact ⟨false, rfl, ⟨fun h => absurd h (by decide), fun h => by injection h with z1 z2 z3 z4 z5 z6 z7 z8 z9; exact absurd (HS.out.1.2 z2) (by decide)⟩, HB.out⟩
 | true =>
  cases b2 with
  | false =>
   go_wp2
   go_ret
   exact ⟨false, rfl, ⟨fun h => absurd h (by decide), fun h => by injection h with z1 z2 z3 z4 z5 z6 z7 z8 z9; exact absurd (HS.out.2.1.2 z4) (by decide)⟩, HB.out⟩
  | true =>
   cases b3 with
   | false =>
    go_wp2
    go_ret
    exact ⟨false, rfl, ⟨fun h => absurd h (by decide), fun h => by injection h with z1 z2 z3 z4 z5 z6 z7 z8 z9; exact absurd (HS.out.2.2.1.2 z5) (by decide)⟩, HB.out⟩
   | true =>
    cases b4 with
    | false =>
     go_wp2
     go_ret
     exact ⟨false, rfl, ⟨fun h => absurd h (by decide), fun h => by injection h with z1 z2 z3 z4 z5 z6 z7 z8 z9; exact absurd (HS.out.2.2.2.1.2 z7) (by decide)⟩, HB.out⟩
    | true =>
     cases b5 with
     | false =>
      go_wp2
      go_ret
      exact ⟨false, rfl, ⟨fun h => absurd h (by decide), fun h => by injection h with z1 z2 z3 z4 z5 z6 z7 z8 z9; exact absurd (HS.out.2.2.2.2.2 z8) (by decide)⟩, HB.out⟩
     | true =>
      cases b6 with
      | false =>
       go_wp2
       go_ret
       exact ⟨false, rfl, ⟨fun h => absurd h (by decide), fun h => by injection h with z1 z2 z3 z4 z5 z6 z7 z8 z9; exact absurd (HS6.out.2 z9) (by decide)⟩, HB.out⟩
      | true =>
       by_cases cz1 : pk = qk
       rotate_left
       · have d1 : (pk == qk) = false := beq_eq_false_iff_ne.mpr cz1
         have d2 : decide (pk = qk) = false := decide_eq_false cz1
         go_wp2
         go_ret
         exact ⟨false, rfl, ⟨fun h => absurd h (by decide), fun h => by injection h with z1 z2 z3 z4 z5 z6 z7 z8 z9; exact absurd z1 cz1⟩, HB.out⟩
       subst cz1
       by_cases cz3 : plv = qlv
       rotate_left
       · have d1 : (plv == qlv) = false := beq_eq_false_iff_ne.mpr cz3
         have d2 : decide (plv = qlv) = false := decide_eq_false cz3
         go_wp2
         go_ret
         exact ⟨false, rfl, ⟨fun h => absurd h (by decide), fun h => by injection h with z1 z2 z3 z4 z5 z6 z7 z8 z9; exact absurd z3 cz3⟩, HB.out⟩
       subst cz3
       by_cases cz6 : pnx = qnx
       rotate_left
       · have d1 : (pnx == qnx) = false := beq_eq_false_iff_ne.mpr cz6
         have d2 : decide (pnx = qnx) = false := decide_eq_false cz6
         go_wp2
         go_ret
         exact ⟨false, rfl, ⟨fun h => absurd h (by decide), fun h => by injection h with z1 z2 z3 z4 z5 z6 z7 z8 z9; exact absurd z6 cz6⟩, HB.out⟩
       subst cz6
       go_wp2
       go_ret
       have t1 := HS.out.1.1 (by simp)
       have t2 := HS.out.2.1.1 (by simp)
       have t3 := HS.out.2.2.1.1 (by simp)
       have t4 := HS.out.2.2.2.1.1 (by simp)
       have t5 := HS.out.2.2.2.2.1 (by simp)
       have t6 := HS6.out.1 (by simp)
       exact ⟨true, rfl, ⟨fun _ => by rw [t1, t2, t3, t4, t5, t6], fun _ => rfl⟩, HB.out⟩
end Go.Proofs.YtppjphghlclklaaGreatDoor.P
end
section
namespace Go.Proofs.YtppjphghlclklaaGreatDoorW.Open
open Go.RowKit Go.Deep Go.Proofs.YtppjphghlclklaaGreatDoorW.PrintWords
def Opens {α : Type} (P : Program) (d : Kd α) (t : TypeId) (B : α → Prop) : Prop :=
 ∀ (H : Type) (enc : TypeId × Value → H) (w : World) (base : Nat) (spare : Nat → Bool) (held : Bool) (fuel : Nat) (cs : List Value) (x : DataW H × List MemPlace), DataW.trod enc P w base spare held fuel t cs = some x → (∀ n ∈ x.1.weights P t, n ≤ reachBytes) → ∃ a, d.K w a cs ∧ B a
theorem Opens.imp {α : Type} {P : Program} {d : Kd α} {t : TypeId} {B B' : α → Prop} (h : Opens P d t B) (hB : ∀ a, B a → B' a) : Opens P d t B' := fun H enc w base spare held fuel cs x hx hw => by
 obtain ⟨a, ha, hb⟩ := h H enc w base spare held fuel cs x hx hw
 exact ⟨a, ha, hB a hb⟩
theorem opens_int {P : Program} {t : TypeId} {k : IntKind} (ht : P.underlying t = some (.int k)) : Opens P (Kd.int k) t (fun n => (Lit.int k n).wf = true) := fun H enc w base spare held fuel cs x hx _ => by
 obtain ⟨n, rfl, _, hwf⟩ := DataW.trod_int ht hx
 exact ⟨n, rfl, hwf⟩
theorem mem_weightsAll {H : Type} (P : Program) (e : TypeId) (l : List (DataW H)) (d : DataW H) (hd : d ∈ l) (n : Nat) (hn : n ∈ d.weights P e) : n ∈ DataW.weightsAll P e l := by
 induction l with
 | nil => cases hd
 | cons a l ih =>
  simp only [DataW.weightsAll, List.mem_append]
  rcases List.mem_cons.1 hd with rfl | h
  · exact .inl hn
  · exact .inr (ih h)
theorem mem_weightsEach {H : Type} (P : Program) : ∀ (ts : List TypeId) (l : List (DataW H)) (i : Nat) (t : TypeId) (d : DataW H), ts[i]? = some t → l[i]? = some d → ∀ n, n ∈ d.weights P t → n ∈ DataW.weightsEach P ts l
 | [], _, _, _, _, ht, _, _, _ => by simp at ht
 | _ :: _, [], _, _, _, _, hd, _, _ => by simp at hd
 | t0 :: ts, d0 :: l, 0, t, d, ht, hd, n, hn => by
  simp only [List.getElem?_cons_zero, Option.some.injEq] at ht hd
  subst ht
  subst hd
  simp only [DataW.weightsEach, List.mem_append]
  exact .inl hn
 | t0 :: ts, d0 :: l, i + 1, t, d, ht, hd, n, hn => by
  simp only [List.getElem?_cons_succ] at ht hd
  simp only [DataW.weightsEach, List.mem_append]
  exact .inr (mem_weightsEach P ts l i t d ht hd n hn)
theorem opens_slice {α : Type} {P : Program} {d : Kd α} {t e : TypeId} {B : α → Prop} {b : Nat} (ho : Opens P d e B) (ht : P.underlying t = some (.slice e)) (hc : P.cellsOf e = d.sz) (hb : P.bytesOf e = b) :
 Opens P (Kd.slice e d) t (fun l => (∀ a ∈ l, B a) ∧ l.length * b ≤ 140737488351232) := fun H enc w base spare held fuel cs x hx hw => by
 rcases open_slice ht hx with ⟨rfl, rfl⟩ | ⟨a, len, cap, m, n, D, Pl, rfl, hba, hl, hm, hmm, rfl, hel⟩
 · exact ⟨[], ⟨none, 0, rfl, Nat.le_refl _, Kd.C_nil d w⟩, by simp, by simp⟩
 · have hlm : len ≤ m := by rw [hmm]; split <;> omega
   have hwt : ∀ i, i < len → ∀ q, q ∈ (D i).weights P e → q ≤ reachBytes := fun i hi q hq => by
    refine hw q ?_
    simp only [DataW.weights, ht, List.mem_cons, List.mem_append]
    exact .inr (.inl (mem_weightsAll P e _ (D i) (List.mem_map.2 ⟨i, List.mem_range.2 hi, rfl⟩) q hq))
   have hlen : len * b ≤ 140737488351232 := by
    have h2 := hw ((((List.range len).map D).length + ((List.range (m - len)).map fun j => D (len + j)).length) * P.bytesOf e) (by
     simp only [DataW.weights, ht]
     exact List.mem_cons_self ..)
    rw [hb] at h2
    simp only [List.length_map, List.length_range] at h2
    exact Nat.le_trans (Nat.mul_le_mul_right _ (by omega)) h2
   rcases Nat.eq_zero_or_pos len with h0 | h0
   · subst h0
     exact ⟨[], ⟨some a, cap, rfl, Nat.zero_le _, ⟨rfl, by simp, fun h => absurd h (by simp)⟩⟩, by simp, by simp⟩
   have hone : ∀ i, ∃ p : α, i < len → B p ∧ ∃ c, c.length = d.sz ∧ d.K w p c ∧ ∀ j u, c[j]? = some u → w.cell? (a.add (i * d.sz + j)) = some u := fun i => by
    by_cases hi : i < len
    · obtain ⟨cs', h1, h2⟩ := hel i (by omega)
      obtain ⟨p, hk, hB⟩ := ho H enc w base spare held n cs' _ h2 (hwt i hi)
      obtain ⟨_, hcl, hcell⟩ := World.cells?_some h1
      refine ⟨p, fun _ => ⟨hB, cs', by rw [hcl, hc], hk, fun j u hu => ?_⟩⟩
      have hj : j < P.cellsOf e := by
       have := (List.getElem?_eq_some_iff.1 hu).1
       omega
      have h3 := hcell j hj
      rw [Addr.add_add, hc] at h3
      rw [h3, hu]
    · obtain ⟨cs', h1, h2⟩ := hel 0 (by omega)
      obtain ⟨p, hk, hB⟩ := ho H enc w base spare held n cs' _ h2 (hwt 0 (by omega))
      exact ⟨p, fun h => absurd h hi⟩
   obtain ⟨f, hf⟩ := Classical.axiomOfChoice hone
   refine ⟨(List.range len).map f, ⟨some a, cap, by simp, by simpa using hl, by simp, by simpa [maxLen] using Nat.le_trans hl hm, fun _ => ⟨a, rfl, fun j p hj => ?_⟩⟩, ?_, by simpa using hlen⟩
   · have hjl : j < len := by
      have := (List.getElem?_eq_some_iff.1 hj).1
      simpa using this
     have hp : f j = p := by simpa [hjl] using hj
     subst hp
     obtain ⟨_, c, h1, h2, h3⟩ := hf j hjl
     exact ⟨c, h1, h2, h3⟩
   · intro p hp
     obtain ⟨i, hi, rfl⟩ := List.mem_map.1 hp
     exact (hf i (List.mem_range.1 hi)).1
def OpensFs {α : Type} (P : Program) (d : Kd α) (fs : List Field) (off : Nat) (B : α → Prop) : Prop :=
 ∀ (H : Type) (enc : TypeId × Value → H) (w : World) (base : Nat) (spare : Nat → Bool) (held : Bool) (fuel : Nat) (cs : List Value) (xs : List (DataW H × List MemPlace)), xs.length = fs.length →
  (∀ (i : Nat) (f : Field), fs[i]? = some f → DataW.trod enc P w base spare held fuel f.type ((cs.drop f.offset).take (P.cellsOf f.type)) = xs[i]?) → (∀ n ∈ DataW.weightsEach P (fs.map (·.type)) (xs.map (·.1)), n ≤ reachBytes) →
  ∃ a, d.K w a ((cs.drop off).take d.sz) ∧ B a
theorem opens_one {α : Type} {P : Program} {d : Kd α} {f : Field} {off : Nat} {B : α → Prop} (h : Opens P d f.type B) (hoff : f.offset = off) (hc : P.cellsOf f.type = d.sz) : OpensFs P d [f] off B := fun H enc w base spare held fuel cs xs hl hx hw => by
 match xs, hl with
 | [x], _ =>
  have h1 := hx 0 f rfl
  rw [hoff, hc] at h1
  exact h H enc w base spare held fuel _ x h1 (fun n hn => hw n (by simpa [DataW.weightsEach] using hn))
theorem opens_more {α β : Type} {P : Program} {d : Kd α} {d' : Kd β} {f : Field} {fs : List Field} {off : Nat} {B : α → Prop} {B' : β → Prop} (h : Opens P d f.type B) (hoff : f.offset = off) (hc : P.cellsOf f.type = d.sz) (h' : OpensFs P d' fs (off + d.sz) B') :
 OpensFs P (Kd.pair d d') (f :: fs) off (fun p => B p.1 ∧ B' p.2) := fun H enc w base spare held fuel cs xs hl hx hw => by
 match xs, hl with
 | x :: xs, hl =>
  have h1 := hx 0 f rfl
  rw [hoff, hc] at h1
  obtain ⟨a, ha, hB⟩ := h H enc w base spare held fuel _ x h1 (fun n hn => hw n (by
   simp only [List.map_cons, DataW.weightsEach, List.mem_append]
   exact .inl hn))
  obtain ⟨b, hb, hB'⟩ := h' H enc w base spare held fuel cs xs (by simpa using hl) (fun i g hg => by simpa using hx (i + 1) g (by simpa using hg)) (fun n hn => hw n (by
   simp only [List.map_cons, DataW.weightsEach, List.mem_append]
   exact .inr hn))
  refine ⟨(a, b), ⟨_, _, ?_, ha, hb⟩, hB, hB'⟩
  rw [show (Kd.pair d d').sz = d.sz + d'.sz from rfl, List.take_add, List.drop_drop]
theorem opens_struct {α : Type} {P : Program} {d : Kd α} {t : TypeId} {fs : Array Field} {B : α → Prop} (ht : P.underlying t = some (.struct fs)) (h : OpensFs P d fs.toList 0 B) (hc : P.cellsOf t = d.sz) : Opens P d t B := fun H enc w base spare held fuel cs x hx hw => by
 obtain ⟨xs, n, rfl, rfl, hl, hxl, hel⟩ := DataW.trod_struct ht hx
 obtain ⟨a, ha, hB⟩ := h H enc w base spare held n cs xs (by rw [hxl, Array.length_toList]) (fun i f hf => hel i f (by simpa using hf)) (fun q hq => hw q (by simpa [DataW.weights, ht] using hq))
 refine ⟨a, ?_, hB⟩
 rwa [List.drop_zero, List.take_of_length_le (by omega)] at ha
theorem opens_iso {α β : Type} {P : Program} {d : Kd α} {t : TypeId} {B : α → Prop} (f : β → α) (g : α → β) (hfg : ∀ a, f (g a) = a) (h : Opens P d t B) : Opens P (Kd.iso d f) t (fun b => B (f b)) := fun H enc w base spare held fuel cs x hx hw => by
 obtain ⟨a, ha, hB⟩ := h H enc w base spare held fuel cs x hx hw
 refine ⟨g a, ?_, by show B (f (g a)); rw [hfg]; exact hB⟩
 show d.K w (f (g a)) cs
 rw [hfg]
 exact ha
theorem Opens.slice {α : Type} {P : Program} {d : Kd α} {t e : TypeId} {B : List α → Prop} (h : Opens P (Kd.slice e d) t B) {H : Type} {enc : TypeId × Value → H} {W : World} {base : Nat} {spare : Nat → Bool} {held : Bool} {a : Option Addr} {len cap : Nat} {x : DataW H} {ps : List MemPlace}
 (hx : DataW.Trod enc P W base spare held t (.slice a len cap) x ps) (hw : ∀ n ∈ x.weights P t, n ≤ reachBytes) : ∃ l, len = l.length ∧ len ≤ cap ∧ d.C W a l.length l ∧ B l := by
 obtain ⟨fuel, hf⟩ := hx
 obtain ⟨l, ⟨A, c, hcs, hl, hC⟩, hB⟩ := h H enc W base spare held fuel _ _ hf hw
 simp only [Value.cells, List.cons.injEq, Value.slice.injEq, and_true] at hcs
 obtain ⟨rfl, rfl, rfl⟩ := hcs
 exact ⟨l, rfl, hl, hC, hB⟩
end Go.Proofs.YtppjphghlclklaaGreatDoorW.Open
end
section
namespace Go.Proofs.YtppjphghlclklaaGreatDoor.P
open Go.RowKit Go.Proofs.YtppjphghlclklaaGreatDoorW.PrintWords Go.Proofs.YtppjphghlclklaaGreatDoorW.Open
def Bbytes (l : List Int) : Prop := (∀ a ∈ l, 0 ≤ a ∧ a ≤ 255) ∧ l.length ≤ 140737488351232
def Bint (n : Int) : Prop := -9223372036854775808 ≤ n ∧ n ≤ 9223372036854775807
theorem Bbytes.byteL {l : List Int} (h : Bbytes l) : ByteL l := fun x hx => by have := h.1 x hx; omega
theorem wf_u8 {n : Int} (h : (Lit.int .u8 n).wf = true) : 0 ≤ n ∧ n ≤ 255 := by simpa [Lit.wf, IntKind.min, IntKind.max, IntKind.signed, IntKind.bits] using h
theorem wf_i64 {n : Int} (h : (Lit.int .i64 n).wf = true) : Bint n := by simpa [Lit.wf, Bint, IntKind.min, IntKind.max, IntKind.signed, IntKind.bits] using h
theorem opensInt : Opens Tryz.prog (Kd.int .i64) 3 Bint := (opens_int Tryz.underlying3).imp fun _ h => wf_i64 h
theorem opensByte : Opens Tryz.prog (Kd.int .u8) 5 (fun n => 0 ≤ n ∧ n ≤ 255) := (opens_int Tryz.underlying5).imp fun _ h => wf_u8 h
theorem opensBytes : Opens Tryz.prog (Kd.slice 5 (Kd.int .u8)) 25 Bbytes := (opens_slice (b := 1) opensByte Tryz.underlying25 (by kernel_rfl) (by kernel_rfl)).imp fun _ h => ⟨h.1, by have := h.2; omega⟩
theorem opensLists : Opens Tryz.prog (Kd.slice 25 (Kd.slice 5 (Kd.int .u8))) 23 (fun l => ∀ x ∈ l, Bbytes x) := (opens_slice (b := 24) opensBytes Tryz.underlying23 (by kernel_rfl) (by kernel_rfl)).imp fun _ h => h.1
theorem opensItem : Opens Tryz.prog k77 77 (fun x => Bbytes x.f0 ∧ Bbytes x.f1) :=
 (opens_iso (fun x : S77 => (x.f0, x.f1, x.f2, x.f3)) (fun p => ⟨p.1, p.2.1, p.2.2.1, p.2.2.2⟩) (fun _ => rfl)
  (opens_struct Tryz.underlying77 (opens_more opensBytes rfl (by kernel_rfl) (opens_more opensBytes rfl (by kernel_rfl) (opens_more opensInt rfl (by kernel_rfl) (opens_one opensInt rfl (by kernel_rfl))))) (by kernel_rfl))).imp fun _ h => ⟨h.1, h.2.1⟩
theorem opensItems : Opens Tryz.prog (Kd.slice 77 k77) 22 (fun l => ∀ x ∈ l, Bbytes x.f0 ∧ Bbytes x.f1) := (opens_slice (b := 64) opensItem Tryz.underlying22 (by kernel_rfl) (by kernel_rfl)).imp fun _ h => h.1
theorem opensKid : Opens Tryz.prog k82 82 (fun _ => True) :=
 (opens_iso (fun x : S82 => (x.f0, x.f1)) (fun p => ⟨p.1, p.2⟩) (fun _ => rfl)
  (opens_struct Tryz.underlying82 (opens_more opensInt rfl (by kernel_rfl) (opens_one opensInt rfl (by kernel_rfl))) (by kernel_rfl))).imp fun _ h => trivial
theorem opensKids : Opens Tryz.prog (Kd.slice 82 k82) 24 (fun _ => True) := (opens_slice (b := 16) opensKid Tryz.underlying24 (by kernel_rfl) (by kernel_rfl)).imp fun _ h => trivial
theorem opensInts : Opens Tryz.prog (Kd.slice 3 (Kd.int .i64)) 26 (fun _ => True) := (opens_slice (b := 8) opensInt Tryz.underlying26 (by kernel_rfl) (by kernel_rfl)).imp fun _ h => trivial
abbrev kI : Kd Int := Kd.int .i64
def kHead : Kd Hd7 := Kd.iso (Kd.pair kI (Kd.pair kI (Kd.pair kI (Kd.pair kI (Kd.pair kI (Kd.pair kI kI)))))) (fun x : Hd7 => (x.v, x.c, x.r, x.h, x.k, x.f, x.n))
theorem opensHead : Opens Tryz.prog kHead 28 (fun _ => True) :=
 (opens_iso (fun x : Hd7 => (x.v, x.c, x.r, x.h, x.k, x.f, x.n)) (fun p => ⟨p.1, p.2.1, p.2.2.1, p.2.2.2.1, p.2.2.2.2.1, p.2.2.2.2.2.1, p.2.2.2.2.2.2⟩) (fun _ => rfl)
  (opens_struct Tryz.underlying28 (opens_more opensInt rfl (by kernel_rfl) (opens_more opensInt rfl (by kernel_rfl) (opens_more opensInt rfl (by kernel_rfl) (opens_more opensInt rfl (by kernel_rfl) (opens_more opensInt rfl (by kernel_rfl) (opens_more opensInt rfl (by kernel_rfl) (opens_one opensInt rfl (by kernel_rfl)))))))) (by kernel_rfl))).imp fun _ h => trivial
def kPage : Kd Pg := Kd.iso (Kd.pair kI (Kd.pair (Kd.slice 77 k77) (Kd.pair kI (Kd.pair (Kd.slice 25 KSeps) (Kd.pair (Kd.slice 82 k82) (Kd.pair kI (Kd.pair (Kd.slice 5 (Kd.int .u8)) (Kd.pair (Kd.slice 3 kI) kHead)))))))) (fun x : Pg => (x.kind, x.items, x.level, x.seps, x.kids, x.next, x.data, x.list, x.head))
theorem opensPage : Opens Tryz.prog kPage 30 ByteP :=
 (opens_iso (fun x : Pg => (x.kind, x.items, x.level, x.seps, x.kids, x.next, x.data, x.list, x.head)) (fun p => ⟨p.1, p.2.1, p.2.2.1, p.2.2.2.1, p.2.2.2.2.1, p.2.2.2.2.2.1, p.2.2.2.2.2.2.1, p.2.2.2.2.2.2.2.1, p.2.2.2.2.2.2.2.2⟩) (fun _ => rfl)
  (opens_struct Tryz.underlying30 (opens_more opensInt rfl (by kernel_rfl) (opens_more opensItems rfl (by kernel_rfl) (opens_more opensInt rfl (by kernel_rfl) (opens_more opensLists rfl (by kernel_rfl) (opens_more opensKids rfl (by kernel_rfl) (opens_more opensInt rfl (by kernel_rfl) (opens_more opensBytes rfl (by kernel_rfl) (opens_more opensInts rfl (by kernel_rfl) (opens_one opensHead rfl (by kernel_rfl)))))))))) (by kernel_rfl))).imp fun _ h => ⟨fun x hx => ⟨(h.2.1 x hx).1.byteL, (h.2.1 x hx).2.byteL⟩, fun x hx => (h.2.2.2.1 x hx).byteL, h.2.2.2.2.2.2.1.byteL⟩
theorem kHead_open {W : World} {x : Hd7} {cs : List Value} (h : kHead.K W x cs) : cs = [.int .i64 x.v, .int .i64 x.c, .int .i64 x.r, .int .i64 x.h, .int .i64 x.k, .int .i64 x.f, .int .i64 x.n] := by
 obtain ⟨_, _, rfl, rfl, h⟩ := h
 obtain ⟨_, _, rfl, rfl, h⟩ := h
 obtain ⟨_, _, rfl, rfl, h⟩ := h
 obtain ⟨_, _, rfl, rfl, h⟩ := h
 obtain ⟨_, _, rfl, rfl, h⟩ := h
 obtain ⟨_, _, rfl, rfl, h⟩ := h
 obtain rfl := h
 rfl
theorem kPage_open {W : World} {p : Pg} {cs : List Value} (h : kPage.K W p cs) : ∃ A1 c1 A3 c3 A4 c4 A6 c6 A7 c7, cs = [.int .i64 p.kind, .slice A1 p.items.length c1, .int .i64 p.level, .slice A3 p.seps.length c3, .slice A4 p.kids.length c4, .int .i64 p.next, .slice A6 p.data.length c6, .slice A7 p.list.length c7, .int .i64 p.head.v, .int .i64 p.head.c, .int .i64 p.head.r, .int .i64 p.head.h, .int .i64 p.head.k, .int .i64 p.head.f, .int .i64 p.head.n] ∧ (p.items.length ≤ c1 ∧ Kd.C k77 W A1 p.items.length p.items) ∧ (p.seps.length ≤ c3 ∧ Kd.C KSeps W A3 p.seps.length p.seps) ∧ (p.kids.length ≤ c4 ∧ Kd.C k82 W A4 p.kids.length p.kids) ∧ (p.data.length ≤ c6 ∧ Kd.C (Kd.int .u8) W A6 p.data.length p.data) ∧ (p.list.length ≤ c7 ∧ Kd.C (Kd.int .i64) W A7 p.list.length p.list) := by
 obtain ⟨_, _, rfl, rfl, h⟩ := h
 obtain ⟨_, _, rfl, ⟨A1, c1, rfl, l1, g1⟩, h⟩ := h
 obtain ⟨_, _, rfl, rfl, h⟩ := h
 obtain ⟨_, _, rfl, ⟨A3, c3, rfl, l3, g3⟩, h⟩ := h
 obtain ⟨_, _, rfl, ⟨A4, c4, rfl, l4, g4⟩, h⟩ := h
 obtain ⟨_, _, rfl, rfl, h⟩ := h
 obtain ⟨_, _, rfl, ⟨A6, c6, rfl, l6, g6⟩, h⟩ := h
 obtain ⟨_, _, rfl, ⟨A7, c7, rfl, l7, g7⟩, h⟩ := h
 obtain rfl := kHead_open h
 exact ⟨A1, c1, A3, c3, A4, c4, A6, c6, A7, c7, rfl, ⟨l1, g1⟩, ⟨l3, g3⟩, ⟨l4, g4⟩, ⟨l6, g6⟩, ⟨l7, g7⟩⟩
theorem page_open {H : Type} {enc : TypeId × Value → H} {W : World} {r : Reach} {b0 base : Nat} {spare : Nat → Bool} {held : Bool} {v : Value} {d : DataW H} {ps : List MemPlace} (hv : Value.okWide Tryz.prog W r b0 30 v)
 (h : DataW.Trod enc Tryz.prog W base spare held 30 v d ps) (hw : ∀ n ∈ d.weights Tryz.prog 30, n ≤ reachBytes) : ∃ p : Pg, PgC W p v ∧ ByteP p := by
 obtain ⟨cs, rfl, _⟩ := Go.WideShapes.okWide_struct Tryz.underlying30 hv
 obtain ⟨fuel, hf⟩ := h
 obtain ⟨x, hx, hB⟩ := opensPage H enc W base spare held fuel _ _ hf hw
 obtain ⟨A1, c1, A3, c3, A4, c4, A6, c6, A7, c7, hcs, z1, z3, z4, z6, z7⟩ := kPage_open hx
 obtain ⟨l⟩ := cs
 have hl : l = _ := hcs
 subst hl
 exact ⟨x, ⟨A1, c1, A3, c3, A4, c4, A6, c6, A7, c7, rfl, z1, z3, z4, z6, z7⟩, hB⟩
end Go.Proofs.YtppjphghlclklaaGreatDoor.P
end
section
namespace Go.Proofs.YtppjphghlclklaaGreatDoor.P
open Go.RowKit Go.Proofs.YtppjphghlclklaaGreatDoorW.PrintWords
theorem table_cells {P : Program} {w : World} {base : Nat} {spare : Nat → Bool} {held : Bool} {fuel : Nat} {t e : TypeId} {n : Nat} {k : IntKind} {H : Type} {enc : TypeId × Value → H} {nm : String} {g : Nat} {cs : Array Value} {xs : List Int} {ps : List MemPlace}
 (ht : P.underlying t = some (.array n e)) (he : P.underlying e = some (.int k)) (hc : P.cellsOf e = 1) (hg : P.globalNamed nm = some g) (hv : w.var? P nm = some cs)
 (hd : DataW.trod enc P w base spare held fuel t cs.toList = some (.agg (xs.map fun x => .lit (.int k x)), ps)) : ∀ (j : Nat) (x : Int), xs[j]? = some x → w.cell? ⟨g, j, none⟩ = some (.int k x) := fun j x hj => by
 obtain ⟨ys, m, rfl, hx, _, hn, hel⟩ := DataW.trod_array ht hd
 simp only [Prod.mk.injEq, DataW.agg.injEq] at hx
 have hl : xs.length = ys.length := by have := congrArg List.length hx.1; simpa using this
 have hjl : j < xs.length := (List.getElem?_eq_some_iff.1 hj).1
 have h0 := hel j (by omega)
 have hyj : ys[j]? = some (ys[j]'(by omega)) := List.getElem?_eq_getElem (by omega)
 rw [hyj, hc] at h0
 obtain ⟨v, e1, e2, _⟩ := DataW.trod_int he h0
 have h1 : (xs.map fun x => (DataW.lit (H := H) (.int k x)))[j]? = (ys.map (·.1))[j]? := by rw [hx.1]
 rw [List.getElem?_map, List.getElem?_map, hj, hyj] at h1
 simp only [Option.map_some, Option.some.injEq] at h1
 rw [e2] at h1
 have hxv : x = v := by injection h1 with h1; injection h1
 rw [World.var?_cell hg hv j, hxv]
 have h2 : ((cs.toList.drop (j * 1)).take 1)[0]? = some (.int k v) := by rw [e1]; rfl
 rw [List.getElem?_take, if_pos (by decide), List.getElem?_drop, Nat.mul_one, Nat.add_zero, Array.getElem?_toList] at h2
 exact h2
abbrev laid3 : List (String × DataW Unit) := [("coppice/crc.left", Rows.laid_coppice_crc_left), ("coppice/meta.begin", Rows.laid_coppice_meta_begin), ("coppice/meta.end", Rows.laid_coppice_meta_end)]
theorem of_laid {W : World} (h : laidMetH Tryz.prog laid3 W) : CrcLaid W ∧ MetaLaid W := by
 rw [MakeChecks.laidMetH_plain _ _ _ (by kernel_rfl)] at h
 obtain ⟨ps, ⟨g0, t0, cs0, f0, p0, q0, hg0, ht0, hv0, hd0, ⟨g1, t1, cs1, f1, p1, q1, hg1, ht1, hv1, hd1, ⟨g2, t2, cs2, f2, p2, q2, hg2, ht2, hv2, hd2, _, _⟩, _⟩, _⟩, _, _⟩ := h
 obtain rfl := Option.some.inj ((show Tryz.prog.globalNamed "coppice/crc.left" = some 2 by kernel_rfl).symm.trans hg0)
 obtain rfl := Option.some.inj ((show Tryz.prog.globalNamed "coppice/meta.begin" = some 0 by kernel_rfl).symm.trans hg1)
 obtain rfl := Option.some.inj ((show Tryz.prog.globalNamed "coppice/meta.end" = some 1 by kernel_rfl).symm.trans hg2)
 obtain rfl := Option.some.inj ((show (Tryz.prog.globals[2]?).map (·.type) = some 266 by kernel_rfl).symm.trans ht0)
 obtain rfl := Option.some.inj ((show (Tryz.prog.globals[0]?).map (·.type) = some 131 by kernel_rfl).symm.trans ht1)
 obtain rfl := Option.some.inj ((show (Tryz.prog.globals[1]?).map (·.type) = some 131 by kernel_rfl).symm.trans ht2)
 have c0 := table_cells (xs := crcLeft) Tryz.underlying266 Tryz.underlying56 (by kernel_rfl) hg0 hv0 hd0
 have c1 := table_cells (xs := metaBegin) Tryz.underlying131 Tryz.underlying5 (by kernel_rfl) hg1 hv1 hd1
 have c2 := table_cells (xs := metaEnd) Tryz.underlying131 Tryz.underlying5 (by kernel_rfl) hg2 hv2 hd2
 refine ⟨fun j hj => c0 j _ (by rw [List.getD_eq_getElem?_getD, List.getElem?_eq_getElem (by simpa [crcLeft] using hj)]; rfl), fun j v hv => ?_, fun j v hv => ?_⟩
 · rw [List.getElem?_map] at hv
   obtain ⟨x, hx, rfl⟩ := Option.map_eq_some_iff.1 hv
   exact c1 j x hx
 · rw [List.getElem?_map] at hv
   obtain ⟨x, hx, rfl⟩ := Option.map_eq_some_iff.1 hv
   exact c2 j x hx
end Go.Proofs.YtppjphghlclklaaGreatDoor.P
end
section
namespace Go.Proofs.YtppjphghlclklaaGreatDoor.P
open Go.RowKit Go.Proofs.YtppjphghlclklaaGreatDoorW.PrintWords Go.Proofs.YtppjphghlclklaaGreatDoorW.PrintLast Go.Proofs.YtppjphghlclklaaGreatDoorW.PrintMore
set_option linter.unusedVariables false
set_option linter.unusedSimpArgs false
def itE : It := ⟨[107], [118, 118], 2, 0⟩
def pE : Pg := ⟨1, [itE], 0, [], [], 0, [], [], hd0⟩
def pE7 : Pg := ⟨1, [itE], 0, [], [], 7, [], [], hd0⟩
def topE : List Int := [1, 1, 0, 1, 107, 7, 0, 0, 4, 118, 118]
def bE : List Int := topE ++ zs 4081
theorem bE_len : bE.length = 4092 := by
 unfold bE
 rw [List.length_append, zs_length]
 rfl
theorem preE : pre [itE] = 1 := rfl
theorem sizeE : sizeL [itE] = 11 := by
 have h1 : vlen 1 = 1 := vlen_small (by decide)
 have h2 : cellL 1 itE = 6 := by
  have a1 : vlen 0 = 1 := vlen_small (by decide)
  have a2 : vlen 4 = 1 := vlen_small (by decide)
  have a3 : cellL 1 itE = _ := rfl
  unfold cellL
  have b1 : itE.f0.length - 1 = 0 := rfl
  have b2 : tagOf itE.f2 = 4 := by decide
  have b3 : inl itE.f2 = 2 := by decide
  simp only [b1, b2, b3, a1, a2]
 unfold sizeL
 rw [preE, h1]
 simp [h2]
theorem bodyE : encLeafR [itE] = (bE, 0) := by
 unfold encLeafR
 have hm : mayR [itE] = 0 := by decide
 rw [if_pos hm, sizeE, if_pos (by decide)]
 unfold leafBody
 rw [sizeE, preE]
 rfl
theorem crcE : markOf (crcSum bE) = [173, 110, 120, 245] := by decide +kernel
theorem crcZ : markOf (crcSum (zs 4092)) ≠ [0, 0, 0, 0] := by decide +kernel
def cE : List Int := sealR bE
theorem smallE : SmallP pE ∧ SmallP pE7 := by
 have h : Small [itE] := ⟨by decide, fun x hx => by rw [List.mem_singleton.1 hx]; decide⟩
 have h2 : SmallB ([] : List (List Int)) := ⟨by decide, fun x hx => by simp at hx⟩
 exact ⟨⟨h, h2, Nat.zero_le _, Nat.zero_le _⟩, ⟨h, h2, Nat.zero_le _, Nat.zero_le _⟩⟩
theorem byteE : ByteL topE ∧ ByteL [107] ∧ ByteL [118, 118] := by
 refine ⟨fun x hx => ?_, fun x hx => ?_, fun x hx => ?_⟩ <;> simp only [topE, List.mem_cons, List.not_mem_nil, or_false] at hx <;> omega
theorem encE : encPageR pE = (cE, 0) := by
 have h : bodyR pE = (bE, 0) := bodyE
 unfold encPageR
 rw [if_neg (by decide), if_pos (by decide), h]
 rfl
theorem encE7 : encPageR pE7 = ([], 81) := by
 unfold encPageR
 rw [if_neg (by decide), if_neg (by decide)]
theorem backE : decPageR cE = (pE, 0) ∧ cE.length = 4096 := ⟨(page_back smallE.1 encE).1, (page_back smallE.1 encE).2.1⟩
theorem takeE : cE.take 11 = topE := by
 unfold cE sealR bE
 rw [List.append_assoc]
 exact List.take_left' (show topE.length = 11 by decide)
theorem dropE : cE.drop 4092 = [173, 110, 120, 245] := by
 unfold cE sealR
 rw [List.drop_left' bE_len, crcE]
theorem decZ : decPageR (zs 4096) = (pg0, 22) := by
 have ht : (zs 4096).take 4092 = zs 4092 := by unfold zs; rw [List.take_replicate]; rfl
 have hd : (zs 4096).drop 4092 = [0, 0, 0, 0] := by unfold zs; rw [List.drop_replicate]; rfl
 have h : openR (zs 4096) = ([], 22) := by
  unfold openR
  rw [if_pos (zs_length _), ht, hd, if_neg (fun e => crcZ e.symm)]
 unfold decPageR
 rw [h]
 rfl
end Go.Proofs.YtppjphghlclklaaGreatDoor.P
end
section
namespace Go.Proofs.YtppjphghlclklaaGreatDoor.P
open Go.RowKit Go.Proofs.YtppjphghlclklaaGreatDoorW.PrintWords Go.Proofs.YtppjphghlclklaaGreatDoorW.PrintLast Go.Proofs.YtppjphghlclklaaGreatDoorW.PrintMore
attribute [local go_sem] max2_int min2_int max_two min_two max_three min_three max_four min_four
set_option linter.unusedVariables false
set_option linter.unusedSimpArgs false
def FitsP (p : Pg) : Prop := (p.items.length ≤ 2000 ∧ p.seps.length ≤ 2000 ∧ p.kids.length ≤ 2000 ∧ p.data.length ≤ 65536 ∧ p.list.length ≤ 2000) ∧ (∀ x ∈ p.items, x.f0.length ≤ 65536) ∧ (∀ x ∈ p.seps, x.length ≤ 65536)
theorem FitsP.small {p : Pg} (h : FitsP p) : SmallP p := by
 obtain ⟨⟨h1, h2, h3, h4, h5⟩, h6, h7⟩ := h
 exact ⟨⟨by omega, fun x hx => by have := h6 x hx; omega⟩, ⟨by omega, fun x hx => by have := h7 x hx; omega⟩, by omega, by omega⟩
def FitsPost (w : World) (p : Pg) (e : Ending) (w' : World) : Prop := ∃ b : Bool, e = .returned (.bool b) ∧ (b = true → FitsP p) ∧ Below w.heap.size w w'
theorem coppicelaw8_fits_any (p : Pg) (v : Value) (w : World) (hp : PgC w p v) : Calls Tryz.prog 10 #[v] w (FitsPost w p) := by
 obtain ⟨A1, c1, A3, c3, A4, c4, A6, c6, A7, c7, rfl, ⟨l1, r1⟩, ⟨l3, r3⟩, ⟨l4, r4⟩, ⟨l6, r6⟩, ⟨l7, r7⟩⟩ := hp
 obtain ⟨kind, items, level, seps, kids, next, data, list, ⟨h0, h1, h2, h3, h4, h5, h6⟩⟩ := p
 simp only at l1 r1 l3 r3 l4 r4 l6 r6 l7 r7 ⊢
 obtain ⟨n1, hn1⟩ : ∃ n, items.length = n := ⟨_, rfl⟩
 obtain ⟨n3, hn3⟩ : ∃ n, seps.length = n := ⟨_, rfl⟩
 obtain ⟨n4, hn4⟩ : ∃ n, kids.length = n := ⟨_, rfl⟩
 obtain ⟨n6, hn6⟩ : ∃ n, data.length = n := ⟨_, rfl⟩
 obtain ⟨n7, hn7⟩ : ∃ n, list.length = n := ⟨_, rfl⟩
 rw [hn1] at l1 r1 ⊢
 rw [hn3] at l3 r3 ⊢
 rw [hn4, hn6, hn7]
 have HNS := Aside0.mk (And.intro hn1 (And.intro hn3 (And.intro hn4 (And.intro hn6 hn7))))
 have HR1 := Aside0.mk (And.intro l1 r1)
 have HR3 := Aside0.mk (And.intro l3 r3)
 have HM : Aside0 (n1 ≤ 9223372036854775807 ∧ n3 ≤ 9223372036854775807) := ⟨by rw [← hn1, ← hn3]; exact ⟨r1.1 ▸ r1.2.1, r3.1 ▸ r3.2.1⟩⟩
 clear l1 r1 l3 r3 l4 r4 l6 r6 l7 r7 hn1 hn3 hn4 hn6 hn7
 go_enter Tryz.func10, Tryz.ntmps10
 go_upto_region 1 with (fail)
 obtain ⟨w1, hw1⟩ : ∃ x, x = w.alloc (.cells #[.int .i64 kind, .slice A1 n1 c1, .int .i64 level, .slice A3 n3 c3, .slice A4 n4 c4, .int .i64 next, .slice A6 n6 c6, .slice A7 n7 c7, .int .i64 h0, .int .i64 h1, .int .i64 h2, .int .i64 h3, .int .i64 h4, .int .i64 h5, .int .i64 h6] 30) := ⟨_, rfl⟩
 rw [← hw1]
 have HB : Aside0 (Below w.heap.size w w1) := ⟨by rw [hw1]; exact below_alloc (Below.refl _ _) _⟩
 have hp := heap_alloc_new w (.cells #[.int .i64 kind, .slice A1 n1 c1, .int .i64 level, .slice A3 n3 c3, .slice A4 n4 c4, .int .i64 next, .slice A6 n6 c6, .slice A7 n7 c7, .int .i64 h0, .int .i64 h1, .int .i64 h2, .int .i64 h3, .int .i64 h4, .int .i64 h5, .int .i64 h6] 30)
 rw [← hw1] at hp
 have x1 := (blk_cell hp 1).trans rfl
 have x3 := (blk_cell hp 3).trans rfl
 have x4 := (blk_cell hp 4).trans rfl
 have x6 := (blk_cell hp 6).trans rfl
 have x7 := (blk_cell hp 7).trans rfl
 clear hw1 hp
 go_cut [3] (fun v3 wc => wc = w1 ∧ ∃ b : Bool, v3 = .bool b ∧ Aside0 (b = true → n1 ≤ 2000 ∧ n3 ≤ 2000 ∧ n4 ≤ 2000 ∧ n6 ≤ 65536 ∧ n7 ≤ 2000))
 case first =>
  by_cases k1 : n1 ≤ 2000
  rotate_left
  · have d1 : decide ((n1 : Int) ≤ 2000) = false := decide_eq_false (by omega)
    go_wp2
    go_meet
    case rel => exact ⟨rfl, false, rfl, ⟨fun h => absurd h (by decide)⟩⟩
  have d1 : decide ((n1 : Int) ≤ 2000) = true := decide_eq_true (by omega)
  by_cases k3 : n3 ≤ 2000
  rotate_left
  · have d3 : decide ((n3 : Int) ≤ 2000) = false := decide_eq_false (by omega)
    go_wp2
    go_meet
    case rel => exact ⟨rfl, false, rfl, ⟨fun h => absurd h (by decide)⟩⟩
  have d3 : decide ((n3 : Int) ≤ 2000) = true := decide_eq_true (by omega)
  by_cases k4 : n4 ≤ 2000
  rotate_left
  · have d4 : decide ((n4 : Int) ≤ 2000) = false := decide_eq_false (by omega)
    go_wp2
    go_meet
    case rel => exact ⟨rfl, false, rfl, ⟨fun h => absurd h (by decide)⟩⟩
  have d4 : decide ((n4 : Int) ≤ 2000) = true := decide_eq_true (by omega)
  by_cases k6 : n6 ≤ 65536
  rotate_left
  · have d6 : decide ((n6 : Int) ≤ 65536) = false := decide_eq_false (by omega)
    go_wp2
    go_meet
    case rel => exact ⟨rfl, false, rfl, ⟨fun h => absurd h (by decide)⟩⟩
  have d6 : decide ((n6 : Int) ≤ 65536) = true := decide_eq_true (by omega)
  by_cases k7 : n7 ≤ 2000
  rotate_left
  · have d7 : decide ((n7 : Int) ≤ 2000) = false := decide_eq_false (by omega)
    go_wp2
    go_meet
    case rel => exact ⟨rfl, false, rfl, ⟨fun h => absurd h (by decide)⟩⟩
  have d7 : decide ((n7 : Int) ≤ 2000) = true := decide_eq_true (by omega)
  go_wp2
  go_meet
  case rel => exact ⟨rfl, true, rfl, ⟨fun _ => ⟨by omega, by omega, by omega, by omega, by omega⟩⟩⟩
 case rest =>
  obtain ⟨rfl, b, rfl, HA⟩ := hcut
  go_upto_block 0 with (fail)
  go_cut [3] (fun v3 wd => wd = wc ∧ ∃ b : Bool, v3 = .bool b ∧ Aside0 (b = true → (n1 ≤ 2000 ∧ n3 ≤ 2000 ∧ n4 ≤ 2000 ∧ n6 ≤ 65536 ∧ n7 ≤ 2000) ∧ ∀ x ∈ items, x.f0.length ≤ 65536))
  case first =>
   go_wp2_with fail
   go_loopg [3, 4] n1 (fun kq v3 v4 wd => wd = wc ∧ ∃ (i : Nat) (b : Bool), v4 = .int .i64 i ∧ v3 = .bool b ∧ i + kq = n1 ∧ Aside0 (b = true → (n1 ≤ 2000 ∧ n3 ≤ 2000 ∧ n4 ≤ 2000 ∧ n6 ≤ 65536 ∧ n7 ≤ 2000) ∧ ∀ x ∈ items.take i, x.f0.length ≤ 65536))
   case atStart => exact ⟨rfl, 0, b, rfl, rfl, by omega, ⟨fun h => ⟨HA.out h, by simp⟩⟩⟩
   case round =>
    clear HA
    obtain ⟨rfl, i, b', rfl, rfl, hk, HA⟩ := hrel
    cases gk with
    | zero =>
     obtain rfl : i = n1 := by omega
     have cd1 : decide ((i : Int) < (i : Int)) = false := decide_eq_false (by omega)
     have cd2 : decide (i < i) = false := decide_eq_false (by omega)
     go_wp2
     go_meet
     case rel => exact ⟨rfl, b', rfl, ⟨fun h => ⟨(HA.out h).1, by have := (HA.out h).2; rwa [List.take_of_length_le (by rw [HNS.out.1]; exact Nat.le_refl _)] at this⟩⟩⟩
    | succ d =>
     have hin : i < n1 := by omega
     have cd1 : decide ((i : Int) < (n1 : Int)) = true := decide_eq_true (by omega)
     have cd2 : decide (i < n1) = true := decide_eq_true hin
     cases b' with
     | false =>
      go_wp2
      go_meet
      case rel => exact ⟨rfl, false, rfl, ⟨fun h => absurd h (by decide)⟩⟩
     | true =>
      have hA := HA.out rfl
      have HT := Aside0.mk hA
      have hm1 := HM.out.1
      obtain ⟨ad, Ak, ck, Av, cv, had, y0, y1, _⟩ := at_T77 (Kd.C_below HR1.out.2 HB.out) (i : Int) (by omega) (by omega)
      subst had
      rw [Int.toNat_natCast] at y0 y1
      have hil : i < items.length := by rw [HNS.out.1]; exact hin
      have e1 : rd_T77 items (i : Int) = items[i] := by simp [rd_T77, hil]
      obtain ⟨la, hla⟩ : ∃ n, (rd_T77 items (i : Int)).f0.length = n := ⟨_, rfl⟩
      obtain ⟨lb, hlb⟩ : ∃ n, (rd_T77 items (i : Int)).f1.length = n := ⟨_, rfl⟩
      rw [hla] at y0
      rw [hlb] at y1
      have HTA : Aside0 (la ≤ 65536 → ∀ x ∈ items.take (i + 1), x.f0.length ≤ 65536) := ⟨fun h x hx => by
       rw [List.take_succ_eq_append_getElem hil] at hx
       rcases List.mem_append.1 hx with hx | hx
       · exact hA.2 x hx
       · rw [List.mem_singleton.1 hx, ← e1, hla]; exact h⟩
      clear hA HA e1 hla hlb hil
      by_cases ca : la ≤ 65536
      · have da : decide ((la : Int) ≤ 65536) = true := decide_eq_true (by omega)
        by_cases cb : lb ≤ 65536
        · have db : decide ((lb : Int) ≤ 65536) = true := decide_eq_true (by omega)
          go_wp2
          go_roundg d
          case measure => omega
          case rel => exact ⟨rfl, i + 1, true, congrArg (Value.int .i64) (by omega), rfl, by omega, ⟨fun _ => ⟨HT.out.1, HTA.out ca⟩⟩⟩
        · have db : decide ((lb : Int) ≤ 65536) = false := decide_eq_false (by omega)
          go_wp2
          go_roundg d
          case measure => omega
          case rel => exact ⟨rfl, i + 1, false, congrArg (Value.int .i64) (by omega), rfl, by omega, ⟨fun h => absurd h (by decide)⟩⟩
      · have da : decide ((la : Int) ≤ 65536) = false := decide_eq_false (by omega)
        go_wp2
        go_roundg d
        case measure => omega
        case rel => exact ⟨rfl, i + 1, false, congrArg (Value.int .i64) (by omega), rfl, by omega, ⟨fun h => absurd h (by decide)⟩⟩
  case rest =>
   clear HA
   obtain ⟨rfl, b', rfl, HA⟩ := hcut
   go_upto_block 2 with (fail)
   go_cut [3] (fun v3 we => we = wc ∧ ∃ b : Bool, v3 = .bool b ∧ Aside0 (b = true → ((n1 ≤ 2000 ∧ n3 ≤ 2000 ∧ n4 ≤ 2000 ∧ n6 ≤ 65536 ∧ n7 ≤ 2000) ∧ ∀ x ∈ items, x.f0.length ≤ 65536) ∧ ∀ x ∈ seps, x.length ≤ 65536))
   case first =>
    go_wp2_with fail
    go_loopg [3, 5] n3 (fun kq v3 v5 we => we = wc ∧ ∃ (i : Nat) (b : Bool), v5 = .int .i64 i ∧ v3 = .bool b ∧ i + kq = n3 ∧ Aside0 (b = true → ((n1 ≤ 2000 ∧ n3 ≤ 2000 ∧ n4 ≤ 2000 ∧ n6 ≤ 65536 ∧ n7 ≤ 2000) ∧ ∀ x ∈ items, x.f0.length ≤ 65536) ∧ ∀ x ∈ seps.take i, x.length ≤ 65536))
    case atStart => exact ⟨rfl, 0, b', rfl, rfl, by omega, ⟨fun h => ⟨HA.out h, by simp⟩⟩⟩
    case round =>
     clear HA
     obtain ⟨rfl, i, b2, rfl, rfl, hk, HA⟩ := hrel
     cases gk with
     | zero =>
      obtain rfl : i = n3 := by omega
      have cd1 : decide ((i : Int) < (i : Int)) = false := decide_eq_false (by omega)
      have cd2 : decide (i < i) = false := decide_eq_false (by omega)
      go_wp2
      go_meet
      case rel => exact ⟨rfl, b2, rfl, ⟨fun h => ⟨(HA.out h).1, by have := (HA.out h).2; rwa [List.take_of_length_le (by rw [HNS.out.2.1]; exact Nat.le_refl _)] at this⟩⟩⟩
     | succ d =>
      have hin : i < n3 := by omega
      have cd1 : decide ((i : Int) < (n3 : Int)) = true := decide_eq_true (by omega)
      have cd2 : decide (i < n3) = true := decide_eq_true hin
      cases b2 with
      | false =>
       go_wp2
       go_meet
       case rel => exact ⟨rfl, false, rfl, ⟨fun h => absurd h (by decide)⟩⟩
      | true =>
       have hA := HA.out rfl
       have HT := Aside0.mk hA
       have hm1 := HM.out.2
       obtain ⟨ad, As, cs, had, y0, _⟩ := at_L1 (Kd.C_below HR3.out.2 HB.out) (i : Int) (by omega) (by omega)
       subst had
       rw [Int.toNat_natCast] at y0
       have hil : i < seps.length := by rw [HNS.out.2.1]; exact hin
       obtain ⟨la, hla⟩ : ∃ n, (rd_L1 seps (i : Int)).length = n := ⟨_, rfl⟩
       rw [hla] at y0
       have HTA : Aside0 (la ≤ 65536 → ∀ x ∈ seps.take (i + 1), x.length ≤ 65536) := ⟨fun h x hx => by
        rw [List.take_succ_eq_append_getElem hil] at hx
        rcases List.mem_append.1 hx with hx | hx
        · exact hA.2 x hx
        · rw [List.mem_singleton.1 hx, ← rd_list seps i hil, hla]; exact h⟩
       clear hA HA hla hil
       by_cases ca : la ≤ 65536
       · have da : decide ((la : Int) ≤ 65536) = true := decide_eq_true (by omega)
         go_wp2
         go_roundg d
         case measure => omega
         case rel => exact ⟨rfl, i + 1, true, congrArg (Value.int .i64) (by omega), rfl, by omega, ⟨fun _ => ⟨HT.out.1, HTA.out ca⟩⟩⟩
       · have da : decide ((la : Int) ≤ 65536) = false := decide_eq_false (by omega)
         go_wp2
         go_roundg d
         case measure => omega
         case rel => exact ⟨rfl, i + 1, false, congrArg (Value.int .i64) (by omega), rfl, by omega, ⟨fun h => absurd h (by decide)⟩⟩
   case rest =>
    clear HA
    obtain ⟨rfl, b2, rfl, HA⟩ := hcut
    go_wp2
    go_ret
    refine ⟨b2, rfl, fun h => ?_, HB.out⟩
    have hA := HA.out h
    have hn := HNS.out
    refine ⟨⟨?_, ?_, ?_, ?_, ?_⟩, hA.1.2, hA.2⟩
    · show items.length ≤ 2000; omega
    · show seps.length ≤ 2000; omega
    · show kids.length ≤ 2000; omega
    · show data.length ≤ 65536; omega
    · show list.length ≤ 2000; omega
def TruePost (w : World) (e : Ending) (w' : World) : Prop := e = .returned (.bool true) ∧ Below w.heap.size w w'
end Go.Proofs.YtppjphghlclklaaGreatDoor.P
end
