/- Parts of a proof, laid together by a program of this session (slim.py). -/
import Derived.Test.YtppjphghlclklaaGreatDoorY9
import Derived.Test.YtppjphghlclklaaGreatDoorY10
import Derived.Test.YtppjphghlclklaaGreatDoorY7
import Derived.Laws.StructEq
import Derived.Deep.MidRow
import Derived.Laws.Cover3
import Derived.Lib.AppendZeros
import Derived.Test.YtppjphghlclklaaGreatDoorY4
set_option maxHeartbeats 8000000
set_option maxRecDepth 100000
section
namespace Go.Proofs.YtppjphghlclklaaGreatDoor.P
open Go.RowKit Go.Proofs.YtppjphghlclklaaGreatDoorW.PrintWords Go.Proofs.YtppjphghlclklaaGreatDoorW.PrintLast Go.Proofs.YtppjphghlclklaaGreatDoorW.PrintMore
attribute [local go_sem] max2_int min2_int max_two min_two max_three min_three max_four min_four
set_option linter.unusedVariables false
set_option linter.unusedSimpArgs false
def cellB (p : Nat) (s : List Int) : Nat := 10 + vlen (s.length - p) + (s.length - p)
def sizeB (l : List (List Int)) : Nat := 12 + vlen (cmnAll l) + cmnAll l + (l.map (cellB (cmnAll l))).sum
def SmallB (l : List (List Int)) : Prop := l.length ≤ 70000 ∧ ∀ x ∈ l, x.length ≤ 1000000
theorem cellB_le (p : Nat) (s : List Int) (h : s.length ≤ 1000000) : cellB p s ≤ 2000000 := by
 have h1 := vlen_u64 (x := s.length - p) (by omega)
 unfold cellB
 omega
theorem rd_list (l : List (List Int)) (i : Nat) (h : i < l.length) : rd_L1 l (i : Int) = l[i] := by
 simp [rd_L1, h]
theorem drop_sumB (f : List Int → Nat) (l : List (List Int)) (i : Nat) (h : i < l.length) : ((l.drop i).map f).sum = f l[i] + ((l.drop (i + 1)).map f).sum := by
 rw [List.drop_eq_getElem_cons h, List.map_cons, List.sum_cons]
theorem cmnAll_small (l : List (List Int)) (hs : SmallB l) : cmnAll l ≤ 1000000 := by
 cases l with
 | nil => exact Nat.zero_le _
 | cons x l => exact Nat.le_trans (cmnAll_le (x :: l) x (List.mem_cons_self ..)) (hs.2 x (List.mem_cons_self ..))
theorem sizeB_loop (p : Nat) (l : List (List Int)) (hs : SmallB l) (hp : ∀ x ∈ l, p ≤ x.length) (d : Nat) : ∀ (i n : Nat), i + d = l.length → n ≤ (i + 2) * 2000000 →
 Ev (fun k => branch_Size.l0 k p n l l.length i) ((n + ((l.drop i).map (cellB p)).sum : Nat) : Int) := by
 have hlen := hs.1
 induction d with
 | zero =>
  intro i n hi hn
  refine Ev.step (f := fun _ => some (n : Int)) (fun k => ?_) ?_
  · simp only [branch_Size.l0]
    rw [if_neg (by omega)]
  · rw [List.drop_eq_nil_of_le (by omega)]
    exact Ev.now _
 | succ d ih =>
  intro i n hi hn
  have hlt : i < l.length := by omega
  have hkey := hs.2 l[i] (List.getElem_mem hlt)
  have hpk := hp l[i] (List.getElem_mem hlt)
  have hc := cellB_le p l[i] hkey
  have hv1 := vlen_u64 (x := l[i].length - p) (by omega)
  have hrec := ih (i + 1) (n + cellB p l[i]) (by omega) (by omega)
  rw [drop_sumB _ _ _ hlt, ← Nat.add_assoc]
  obtain ⟨K1, h1⟩ := vlen_f (l[i].length - p) (by omega)
  obtain ⟨K3, h3⟩ := hrec
  refine ⟨K1 + K3 + 1, fun k hk => ?_⟩
  obtain ⟨k, rfl⟩ : ∃ m, k = m + 1 := ⟨k - 1, by omega⟩
  have g1 : wire_VLen.f k ((l[i].length - p : Nat) : Int) = some (vlen (l[i].length - p) : Int) := h1 k (by omega)
  have e1 : (l[i].length : Int) - p = ((l[i].length - p : Nat) : Int) := by omega
  have e2 : ((l[i].length - p : Nat) : Int) ≤ 1000000 := by omega
  simp only [branch_Size.l0]
  rw [if_pos (by omega), if_pos (by omega), if_pos (by omega), rd_list l i hlt, wrap_id ((l[i].length : Int) - p) (by omega) (by omega), e1, u64_id _ (by omega) (by omega), g1]
  simp only [Option.bind_some]
  rw [wrap_id (10 + (vlen (l[i].length - p) : Int)) (by omega) (by omega), wrap_id (10 + (vlen (l[i].length - p) : Int) + (l[i].length : Int)) (by omega) (by omega),
   wrap_id (10 + (vlen (l[i].length - p) : Int) + (l[i].length : Int) - (p : Int)) (by omega) (by omega), wrap_id ((i : Int) + 1) (by omega) (by omega), wrap_id _ (by omega) (by omega)]
  rw [← h3 k (by omega)]
  show branch_Size.l0 k _ _ _ _ _ = branch_Size.l0 k _ _ _ _ _
  congr 1
  unfold cellB
  omega
theorem sizeB_f (l : List (List Int)) (hs : SmallB l) : Ev (fun k => branch_Size.f k l) (sizeB l : Int) := by
 have hp := cmnAll_small l hs
 have hv := vlen_u64 (x := cmnAll l) (by omega)
 obtain ⟨K2, h2⟩ := vlen_f (cmnAll l) (by omega)
 obtain ⟨K3, h3⟩ := sizeB_loop (cmnAll l) l hs (cmnAll_le l) l.length 0 (12 + vlen (cmnAll l) + cmnAll l) (by omega) (by omega)
 refine ⟨K2 + K3, fun k hk => ?_⟩
 have g2 : wire_VLen.f k (cmnAll l : Int) = some (vlen (cmnAll l) : Int) := h2 k (by omega)
 have g3 := h3 k (by omega)
 show branch_Size.f k l = _
 unfold branch_Size.f keys_CommonAll.f
 simp only [Option.bind_some]
 rw [u64_id _ (by omega) (by omega), g2]
 simp only [Option.bind_some]
 rw [wrap_id (12 + (vlen (cmnAll l) : Int)) (by omega) (by omega), wrap_id _ (by omega) (by omega)]
 exact g3
def kidB (x : S82) : Bool := decide (2 ≤ x.f0 ∧ x.f0 < 524287 ∧ 1 ≤ x.f1 ∧ x.f1 ≤ 4294967295)
theorem isKid_f (a b : Int) : branch_isKid.f a b = some (decide (2 ≤ a ∧ a < 524287 ∧ 1 ≤ b ∧ b ≤ 4294967295)) := by
 unfold branch_isKid.f
 by_cases c1 : a ≥ 2
 · rw [if_pos c1]
   by_cases c2 : a < 524287
   · rw [if_pos c2]
     by_cases c3 : b ≥ 1
     · rw [if_pos c3]
       exact congrArg some (decide_eq_decide.2 (by omega))
     · rw [if_neg c3]
       exact congrArg some (decide_eq_false (by omega)).symm
   · rw [if_neg c2]
     exact congrArg some (decide_eq_false (by omega)).symm
 · rw [if_neg c1]
   exact congrArg some (decide_eq_false (by omega)).symm
def keyB (s : List Int) : Bool := decide (1 ≤ s.length ∧ s.length ≤ 255)
def wrongR (lv : Int) (seps : List (List Int)) (kids : List S82) : Int :=
 if lv < 1 ∨ lv > 15 ∨ kids.length = 0 ∨ kids.length ≠ seps.length + 1 then 50
 else if kids.all kidB = true then (if seps.all keyB = true then (if ordB seps = true then (if sizeB seps ≤ 4092 then 0 else 42) else 30) else 41) else 51
theorem wrong_l2 (l : List (List Int)) (hs : SmallB l) (d : Nat) : ∀ (i : Nat), i + 1 + d = l.length → Ev (fun k => branch_wrong.l2 k l ((i + 1 : Nat) : Int)) (if ordB (l.drop i) = true then (if sizeB l ≤ 4092 then 0 else 42) else 30) := by
 have hlen := hs.1
 induction d with
 | zero =>
  intro i hd
  have hi : i < l.length := by omega
  obtain ⟨K, hK⟩ := sizeB_f l hs
  refine ⟨K + 1, fun k hk => ?_⟩
  obtain ⟨k, rfl⟩ : ∃ m, k = m + 1 := ⟨k - 1, by omega⟩
  have g := hK k (by omega)
  simp only at g
  simp only [branch_wrong.l2]
  rw [if_neg (by omega), g, List.drop_eq_getElem_cons hi, List.drop_eq_nil_of_le (by omega)]
  simp only [Option.bind_some, ordB, if_true]
  by_cases c : sizeB l ≤ 4092
  · rw [if_neg (by omega), if_pos c]
  · rw [if_pos (by omega), if_neg c]
 | succ d ih =>
  intro i hd
  have hi : i < l.length := by omega
  have h1 : i + 1 < l.length := by omega
  have hw : wrap64 (((i + 1 : Nat) : Int) - 1) = (i : Int) := by unfold wrap64; omega
  have hw2 : wrap64 (((i + 1 : Nat) : Int) + 1) = ((i + 1 + 1 : Nat) : Int) := by unfold wrap64; omega
  have hd2 : l.drop i = l[i] :: l[i + 1] :: l.drop (i + 1 + 1) := by rw [List.drop_eq_getElem_cons hi, List.drop_eq_getElem_cons h1]
  have hd3 : l.drop (i + 1) = l[i + 1] :: l.drop (i + 1 + 1) := List.drop_eq_getElem_cons h1
  have hi2 := ih (i + 1) (by omega)
  rw [hd3] at hi2
  by_cases c : cmpI l[i] l[i + 1] < 0
  · refine Ev.step (f := fun k => branch_wrong.l2 k l ((i + 1 + 1 : Nat) : Int)) (fun k => ?_) ?_
    · simp only [branch_wrong.l2]
      rw [if_pos (by omega), hw, if_pos (by omega), if_pos (by omega), if_pos (by omega), rd_list l i hi, rd_list l (i + 1) h1, compare_f]
      simp only [Option.bind_some]
      rw [if_neg (by omega), hw2]
    · rw [hd2, ordB, show decide (cmpI l[i] l[i + 1] < 0) = true from decide_eq_true c, Bool.true_and]
      exact hi2
  · refine Ev.step (f := fun _ => some 30) (fun k => ?_) ?_
    · simp only [branch_wrong.l2]
      rw [if_pos (by omega), hw, if_pos (by omega), if_pos (by omega), if_pos (by omega), rd_list l i hi, rd_list l (i + 1) h1, compare_f]
      simp only [Option.bind_some]
      rw [if_pos (by omega)]
    · rw [hd2, ordB, show decide (cmpI l[i] l[i + 1] < 0) = false from decide_eq_false c, Bool.false_and]
      exact Ev.now _
theorem wrong_ord (l : List (List Int)) (hs : SmallB l) : Ev (fun k => branch_wrong.l2 k l 1) (if ordB l = true then (if sizeB l ≤ 4092 then 0 else 42) else 30) := by
 by_cases h : l.length = 0
 · obtain rfl : l = [] := List.eq_nil_of_length_eq_zero h
   obtain ⟨K, hK⟩ := sizeB_f [] hs
   refine ⟨K + 1, fun k hk => ?_⟩
   obtain ⟨k, rfl⟩ : ∃ m, k = m + 1 := ⟨k - 1, by omega⟩
   have g := hK k (by omega)
   simp only at g
   simp only [branch_wrong.l2]
   rw [if_neg (by simp), g]
   simp only [Option.bind_some, ordB, if_true]
   by_cases c : sizeB [] ≤ 4092
   · rw [if_neg (by omega), if_pos c]
   · rw [if_pos (by omega), if_neg c]
 · have h := wrong_l2 l hs (l.length - 1) 0 (by omega)
   simpa using h
theorem wrong_l1 (l : List (List Int)) (hs : SmallB l) (d : Nat) : ∀ (i : Nat), i + d = l.length →
 Ev (fun k => branch_wrong.l1 k l l l.length i) (if (l.drop i).all keyB = true then (if ordB l = true then (if sizeB l ≤ 4092 then 0 else 42) else 30) else 41) := by
 have hlen := hs.1
 induction d with
 | zero =>
  intro i hi
  refine Ev.step (f := fun k => branch_wrong.l2 k l 1) (fun k => ?_) ?_
  · simp only [branch_wrong.l1]
    rw [if_neg (by omega)]
  · rw [List.drop_eq_nil_of_le (by omega)]
    simpa using wrong_ord l hs
 | succ d ih =>
  intro i hi
  have hlt : i < l.length := by omega
  have hih := ih (i + 1) (by omega)
  have hw : wrap64 ((i : Int) + 1) = ((i + 1 : Nat) : Int) := by unfold wrap64; omega
  rw [List.drop_eq_getElem_cons hlt, List.all_cons]
  by_cases c : keyB l[i] = true
  · rw [c, Bool.true_and]
    refine Ev.step (f := fun k => branch_wrong.l1 k l l l.length ((i + 1 : Nat) : Int)) (fun k => ?_) hih
    simp only [branch_wrong.l1]
    rw [if_pos (by omega), if_pos (by omega), if_pos (by omega), rd_list l i hlt, valid_f, show decide (1 ≤ l[i].length ∧ l[i].length ≤ 255) = true from c]
    simp only [Option.bind_some, if_true, hw]
  · rw [Bool.eq_false_iff.mpr c, Bool.false_and]
    refine Ev.step (f := fun _ => some 41) (fun k => ?_) (Ev.now _)
    simp only [branch_wrong.l1]
    rw [if_pos (by omega), if_pos (by omega), if_pos (by omega), rd_list l i hlt, valid_f, show decide (1 ≤ l[i].length ∧ l[i].length ≤ 255) = false from Bool.eq_false_iff.mpr c]
    simp
theorem rd_kid (l : List S82) (i : Nat) (h : i < l.length) : rd_T82 l (i : Int) = l[i] := by
 simp [rd_T82, h]
theorem wrong_l0 (l : List (List Int)) (hs : SmallB l) (ks : List S82) (hk : ks.length ≤ 70001) (d : Nat) : ∀ (i : Nat), i + d = ks.length →
 Ev (fun k => branch_wrong.l0 k l ks ks.length i) (if (ks.drop i).all kidB = true then (if l.all keyB = true then (if ordB l = true then (if sizeB l ≤ 4092 then 0 else 42) else 30) else 41) else 51) := by
 induction d with
 | zero =>
  intro i hi
  refine Ev.step (f := fun k => branch_wrong.l1 k l l l.length ((0 : Nat) : Int)) (fun k => ?_) ?_
  · simp only [branch_wrong.l0]
    rw [if_neg (by omega)]
    rfl
  · rw [List.drop_eq_nil_of_le (by omega)]
    simpa using wrong_l1 l hs l.length 0 (by omega)
 | succ d ih =>
  intro i hi
  have hlt : i < ks.length := by omega
  have hih := ih (i + 1) (by omega)
  have hw : wrap64 ((i : Int) + 1) = ((i + 1 : Nat) : Int) := by unfold wrap64; omega
  rw [List.drop_eq_getElem_cons hlt, List.all_cons]
  by_cases c : kidB ks[i] = true
  · rw [c, Bool.true_and]
    refine Ev.step (f := fun k => branch_wrong.l0 k l ks ks.length ((i + 1 : Nat) : Int)) (fun k => ?_) hih
    simp only [branch_wrong.l0]
    rw [if_pos (by omega), if_pos (by omega), if_pos (by omega), rd_kid ks i hlt, isKid_f, show decide (2 ≤ ks[i].f0 ∧ ks[i].f0 < 524287 ∧ 1 ≤ ks[i].f1 ∧ ks[i].f1 ≤ 4294967295) = true from c]
    simp only [Option.bind_some, if_true, hw]
  · rw [Bool.eq_false_iff.mpr c, Bool.false_and]
    refine Ev.step (f := fun _ => some 51) (fun k => ?_) (Ev.now _)
    simp only [branch_wrong.l0]
    rw [if_pos (by omega), if_pos (by omega), if_pos (by omega), rd_kid ks i hlt, isKid_f, show decide (2 ≤ ks[i].f0 ∧ ks[i].f0 < 524287 ∧ 1 ≤ ks[i].f1 ∧ ks[i].f1 ≤ 4294967295) = false from Bool.eq_false_iff.mpr c]
    simp
theorem wrong_f (lv : Int) (l : List (List Int)) (hs : SmallB l) (ks : List S82) (hk : ks.length ≤ 70001) : Ev (fun k => branch_wrong.f k lv l ks) (wrongR lv l ks) := by
 have hlen := hs.1
 have e50 : Ev (fun k => branch_wrong.j0 k l ks true) 50 := Ev.step (f := fun _ => some 50) (fun k => by simp only [branch_wrong.j0, if_true]) (Ev.now _)
 have hw : wrap64 ((l.length : Int) + 1) = ((l.length + 1 : Nat) : Int) := by unfold wrap64; omega
 unfold wrongR branch_wrong.f
 by_cases c1 : lv < 1
 · simp only [if_pos c1]
   rw [if_pos (.inl c1)]
   exact e50
 · by_cases c2 : lv > 15
   · simp only [if_neg c1, if_pos c2]
     rw [if_pos (.inr (.inl c2))]
     exact e50
   · by_cases c3 : ks.length = 0
     · simp only [if_neg c1, if_neg c2, c3]
       rw [if_pos (by simp)]
       exact e50
     · by_cases c4 : ks.length = l.length + 1
       · rw [if_neg (by omega)]
         have e : ((ks.length : Int) != wrap64 ((l.length : Int) + 1)) = false := bne_eq_false_iff_eq.mpr (by rw [hw]; omega)
         have hg : (fun k => if lv < 1 then branch_wrong.j0 k l ks true else if lv > 15 then branch_wrong.j0 k l ks true else if (ks.length : Int) = 0 then branch_wrong.j0 k l ks true else branch_wrong.j0 k l ks ((ks.length : Int) != wrap64 ((l.length : Int) + 1))) = fun k => branch_wrong.j0 k l ks false := by
          funext k
          rw [if_neg c1, if_neg c2, if_neg (by omega), e]
         rw [hg]
         refine Ev.step (f := fun k => branch_wrong.l0 k l ks ks.length ((0 : Nat) : Int)) (fun k => ?_) (by simpa using wrong_l0 l hs ks hk ks.length 0 (by omega))
         simp [branch_wrong.j0]
       · rw [if_pos (by omega)]
         have e : ((ks.length : Int) != wrap64 ((l.length : Int) + 1)) = true := bne_iff_ne.mpr (by rw [hw]; omega)
         have hg : (fun k => if lv < 1 then branch_wrong.j0 k l ks true else if lv > 15 then branch_wrong.j0 k l ks true else if (ks.length : Int) = 0 then branch_wrong.j0 k l ks true else branch_wrong.j0 k l ks ((ks.length : Int) != wrap64 ((l.length : Int) + 1))) = fun k => branch_wrong.j0 k l ks true := by
          funext k
          rw [if_neg c1, if_neg c2, if_neg (by omega), e]
         rw [hg]
         exact e50
end Go.Proofs.YtppjphghlclklaaGreatDoor.P
end
section
namespace Go.Proofs.YtppjphghlclklaaGreatDoorW.PrintWords
open Go.RowKit
set_option linter.unusedVariables false
set_option linter.unusedSimpArgs false
section
variable {P : Program}
theorem run_part_u8 (w : World) (e : TypeId) (he : P.underlying e = some (.int .u8)) (cs : Array Value) (k : Nat) (v : Value) (h : cs[k]? = some v) : (part e cs k).run P w = .ok v w := by
 have hg : (isAgg e).run P w = .ok false w := by simp [isAgg, run_underlying he]
 simp [part, hg, h]
theorem run_equalIn_four (w : World) (d : Nat) (t e : TypeId) {i : TypeInfo} (h : P.underlying t = some (.array 4 e)) (he : P.underlying e = some (.int .u8)) (hi : P.info? e = some i) (hs : i.size = 1) (a0 a1 a2 a3 b0 b1 b2 b3 : Int) :
 (Op.equalIn (d + 2) t (.agg #[.int .u8 a0, .int .u8 a1, .int .u8 a2, .int .u8 a3]) (.agg #[.int .u8 b0, .int .u8 b1, .int .u8 b2, .int .u8 b3])).run P w = .ok ((a0 == b0) && ((a1 == b1) && ((a2 == b2) && (a3 == b3)))) w := by
 have hp : ∀ (cs : Array Value) (k : Nat) (v : Value), cs[k]? = some v → (part e cs k).run P w = .ok v w := fun cs k v h => run_part_u8 w e he cs k v h
 have hq : ∀ a b : Int, (Op.equalIn (d + 1) e (.int .u8 a) (.int .u8 b)).run P w = .ok (a == b) w := fun a b => run_equalIn_int w d e .u8 .u8 a b he
 rw [Op.equalIn]
 simp only [Sem.run_bind, run_underlying h, Result.andThen_ok]
 simp [sizeOf, typeInfo, hi, hs, Std.Legacy.Range.forIn_eq_forIn_range', Std.Legacy.Range.size, List.range']
 have A0 : (part e #[.int .u8 a0, .int .u8 a1, .int .u8 a2, .int .u8 a3] 0).run P w = .ok (.int .u8 a0) w := hp _ 0 _ rfl
 have A1 : (part e #[.int .u8 a0, .int .u8 a1, .int .u8 a2, .int .u8 a3] 1).run P w = .ok (.int .u8 a1) w := hp _ 1 _ rfl
 have A2 : (part e #[.int .u8 a0, .int .u8 a1, .int .u8 a2, .int .u8 a3] 2).run P w = .ok (.int .u8 a2) w := hp _ 2 _ rfl
 have A3 : (part e #[.int .u8 a0, .int .u8 a1, .int .u8 a2, .int .u8 a3] 3).run P w = .ok (.int .u8 a3) w := hp _ 3 _ rfl
 have B0 : (part e #[.int .u8 b0, .int .u8 b1, .int .u8 b2, .int .u8 b3] 0).run P w = .ok (.int .u8 b0) w := hp _ 0 _ rfl
 have B1 : (part e #[.int .u8 b0, .int .u8 b1, .int .u8 b2, .int .u8 b3] 1).run P w = .ok (.int .u8 b1) w := hp _ 1 _ rfl
 have B2 : (part e #[.int .u8 b0, .int .u8 b1, .int .u8 b2, .int .u8 b3] 2).run P w = .ok (.int .u8 b2) w := hp _ 2 _ rfl
 have B3 : (part e #[.int .u8 b0, .int .u8 b1, .int .u8 b2, .int .u8 b3] 3).run P w = .ok (.int .u8 b3) w := hp _ 3 _ rfl
 simp only [A0, A1, A2, A3, B0, B1, B2, B3, hq, Result.andThen_ok]
 cases (a0 == b0) <;> cases (a1 == b1) <;> cases (a2 == b2) <;> cases (a3 == b3) <;> rfl
theorem run_neq_four (w : World) (t e : TypeId) {i : TypeInfo} (h : P.underlying t = some (.array 4 e)) (he : P.underlying e = some (.int .u8)) (hi : P.info? e = some i) (hs : i.size = 1) (a0 a1 a2 a3 b0 b1 b2 b3 : Int) :
 (binOp .neq t (.agg #[.int .u8 a0, .int .u8 a1, .int .u8 a2, .int .u8 a3]) (.agg #[.int .u8 b0, .int .u8 b1, .int .u8 b2, .int .u8 b3])).run P w = .ok (.bool (!((a0 == b0) && ((a1 == b1) && ((a2 == b2) && (a3 == b3)))))) w := by
 rw [run_neq_struct, run_equalIn_four w 9998 t e h he hi hs]
 rfl
end
end Go.Proofs.YtppjphghlclklaaGreatDoorW.PrintWords
end
section
namespace Go.Proofs.YtppjphghlclklaaGreatDoorW.PrintWords
open Go.RowKit
set_option linter.unusedVariables false
set_option linter.unusedSimpArgs false
def zs (n : Nat) : List Int := List.replicate n 0
theorem zs_length (n : Nat) : (zs n).length = n := List.length_replicate
def Full (e : Nat) (W : World) (g : Nat) (B : List Int) : Prop := ∃ cur, W.heap[g]? = some (.cells cur e (0, 0)) ∧ cur.toList = B.map (Value.int .u8)
section
variable {P : Program} {o : Oper} {ops : Array Oper} {rest : List Oper} {Q : Exit → Act → World → Prop} {a : Act} {e : Nat} {W w0 : World} {base : Nat}
theorem Full.lt {g : Nat} {B : List Int} (h : Full e W g B) : g < W.heap.size := by
 obtain ⟨cur, h, _⟩ := h
 exact blk_lt h
theorem Full.step {g : Nat} {B : List Int} {W1 : World} (h : Full e W g B) (hb : W1.heap[g]? = W.heap[g]?) : Full e W1 g B := by
 obtain ⟨cur, h, hc⟩ := h
 exact ⟨cur, hb.trans h, hc⟩
theorem Full.below {g : Nat} {B : List Int} {W1 : World} (h : Full e W g B) (hb : Below W.heap.size W W1) : Full e W1 g B := h.step (hb.block g h.lt)
theorem Full.alloc {g : Nat} {B : List Int} (h : Full e W g B) (ob : Obj) : Full e (W.alloc ob) g B := h.below (below_alloc (Below.refl _ _) ob)
theorem Full.grown {g : Nat} {B : List Int} {W1 : World} {row : Option Nat} (h : Full e W g B) (hg : W.grownBy W1 row) (hne : some g ≠ row) : Full e W1 g B := h.step (hg.block g h.lt hne)
theorem Full.R {g : Nat} {B : List Int} {ok : Nat → Prop} (h : Full e W g B) (hb : base ≤ g) (hok : ok g) (n : Nat) (hn : n ≤ B.length) (hm : B.length ≤ maxLen) : Kd.R (Kd.int .u8) e W base ok (.slice (some ⟨g, 0, none⟩) n B.length) (B.take n) := by
 obtain ⟨cur, h, hc⟩ := h
 have hsz : cur.size = B.length := by rw [← Array.length_toList, hc, List.length_map]
 exact int_R_of hok hb h (by rw [List.length_take]; omega) hn hm hsz (by rw [hc, List.map_take])
theorem Full.C {g : Nat} {B : List Int} (h : Full e W g B) (n : Nat) (hn : n ≤ B.length) (hm : B.length ≤ 9223372036854775807) : Kd.C (Kd.int .u8) W (some ⟨g, 0, none⟩) (B.take n).length (B.take n) := by
 obtain ⟨cur, h, hc⟩ := h
 refine ⟨rfl, by rw [List.length_take]; omega, fun _ => ⟨_, rfl, fun j p hj => ⟨[.int .u8 p], rfl, rfl, fun i u hu => ?_⟩⟩⟩
 match i, hu with
 | 0, hu =>
  obtain rfl : Value.int .u8 p = u := by simpa using hu
  have hj2 : B[j]? = some p := by
   rw [List.getElem?_take] at hj
   split at hj
   · exact hj
   · cases hj
  have hcj : cur[j]? = some (Value.int .u8 p) := by rw [← Array.getElem?_toList, hc, List.getElem?_map, hj2]; rfl
  rw [show (Kd.int IntKind.u8).sz = 1 from rfl, add_at, Nat.zero_add, Nat.mul_one, Nat.add_zero]
  simp [World.cell?, h, hcj]
theorem lit_C (W : World) (e : Nat) (x : Int) : Kd.C (Kd.int .u8) (W.alloc (.cells #[.int .u8 x] e)) (some ⟨W.heap.size, 0, none⟩) 1 [x] :=
 (Full.C (e := e) (B := [x]) ⟨_, heap_alloc_new W _, rfl⟩ 1 (by simp) (by simp))
theorem make_full {N : Tmp} (hgd : o.guard = none) (_hd : o.dst = some N) (t : TypeId) (x y : Operand) (ho : o.op = .makeSlice t x y) (n c : Int) (hx : a.eval x = .int .i64 n) (hy : a.eval y = .int .i64 c)
 (ht : P.underlying t = some (.slice e)) (hinfo : (P.info? e).map (fun i => (i.zero, i.size, i.bytes)) = some (some (.int .u8 0), 1, 1))
 (h0 : 0 ≤ n) (h1 : n ≤ c) (h2 : c ≤ 140737488355328) (HB : Below base w0 W) (hbase : base ≤ W.heap.size)
 (h : ∀ w1, Full e w1 W.heap.size (zs c.toNat) → Below base w0 w1 → W.grownBy w1 none → wpList P ops Q rest (a.put o.dst (.slice (some ⟨W.heap.size, 0, none⟩) n.toNat c.toNat)) w1) : wpList P ops Q (o :: rest) a W := by
 obtain ⟨i0, hi, hzz⟩ := Option.map_eq_some_iff.1 hinfo
 simp only [Prod.mk.injEq] at hzz
 obtain ⟨hz0, hz1, hz2⟩ := hzz
 have hr := run_make (P := P) W t e i0 (.int .u8 0) ht hi hz0 .i64 .i64 n c h0 h1 (by rw [hz2]; omega) (by omega)
 rw [hz1] at hr
 refine Kd.event_run hgd (w1 := W.alloc (.cells (madeCells (Value.int .u8 0).cells (c.toNat * 1)) e)) (v := .slice (some ⟨W.heap.size, 0, none⟩) n.toNat c.toNat) ?_ (h _ ⟨_, heap_alloc_new W _, ?_⟩ (HB.alloc hbase _) (World.grownBy_alloc W _ none))
 · simp [execOp, ho, hx, hy, hr]
 · rw [show (Value.int .u8 0).cells = #[Value.int .u8 0] from rfl, toList_madeCells_one, zs, List.map_replicate, Nat.mul_one]
theorem append_full (hgd : o.guard = none) (s x : Operand) (t : TypeId)
 (ho : o.op = .call { callee := .builtin .append, args := #[s, x], argTypes := #[t, t] })
 (ht : P.underlying t = some (.slice e)) (hinfo : (P.info? e).map (fun i => (i.zero, i.size, i.bytes)) = some (some (.int .u8 0), 1, 1))
 {g n cap : Nat} (B ys : List Int) (A : Option Addr) (m c : Nat) (hs : a.eval s = .slice (some ⟨g, 0, none⟩) n cap) (hx : a.eval x = .slice A m c)
 (HF : Full e W g B) (hcap : cap = B.length) (HC : Kd.C (Kd.int .u8) W A m ys) (hm : 0 < m) (hroom : n + m ≤ cap) (HB : Below base w0 W) (hg : base ≤ g)
 (h : ∀ w1, Full e w1 g (B.take n ++ ys ++ B.drop (n + m)) → Below base w0 w1 → W.grownBy w1 (some g) → wpList P ops Q rest (a.put o.dst (.slice (some ⟨g, 0, none⟩) (n + m) cap)) w1) : wpList P ops Q (o :: rest) a W := by
 obtain ⟨i0, hi, hzz⟩ := Option.map_eq_some_iff.1 hinfo
 simp only [Prod.mk.injEq] at hzz
 obtain ⟨hz0, hz1, hz2⟩ := hzz
 obtain ⟨cur, hh, hc⟩ := HF
 have hl : ys.length = m := HC.1
 subst hl
 obtain ⟨ad, rfl⟩ := int_some HC hm
 have hsz : cur.size = B.length := by rw [← Array.length_toList, hc, List.length_map]
 have hr := run_append_room (P := P) W t o.type e i0 ht hi g n cap cur hh ad ys.length c (ys.map (Value.int .u8)) (by rw [List.length_map, hz1, Nat.mul_one]) (int_cells HC rfl hm) (fun u hu => by obtain ⟨x, _, rfl⟩ := List.mem_map.1 hu; rfl) hroom (by rw [hz1, List.length_map]; omega)
 rw [hz1, List.length_map, Nat.mul_one] at hr
 refine Lib.wpList_append_run W hgd s x t t ho _ _ hs hx _ _ hr (h _ ⟨_, setRow_heap W g cur _ e (0, 0) hh, ?_⟩ (HB.grown (setRow_grown W g _) ?_ ?_) (setRow_grown W g _))
 · simp only [hc, List.map_append, List.map_take, List.map_drop]
 · have := blk_lt hh; omega
 · intro k hk
   injection hk with hk
   omega
theorem copy_full (hgd : o.guard = none) (s x : Operand) (t u : TypeId)
 (ho : o.op = .call { callee := .builtin .copy, args := #[s, x], argTypes := #[t, u] })
 (ht : P.underlying t = some (.slice e)) (hinfo : (P.info? e).map (fun i => (i.zero, i.size, i.bytes)) = some (some (.int .u8 0), 1, 1))
 {g off dl dc : Nat} (B ys : List Int) (A : Option Addr) (m c : Nat) (hs : a.eval s = .slice (some ⟨g, off, none⟩) dl dc) (hx : a.eval x = .slice A m c)
 (HF : Full e W g B) (hB : B.length ≤ maxLen) (HC : Kd.C (Kd.int .u8) W A m ys) (hfit : off + min m dl ≤ B.length) (HB : Below base w0 W) (hg : base ≤ g)
 (h : ∀ w1, Full e w1 g (B.take off ++ ys.take (min m dl) ++ B.drop (off + min m dl)) → Below base w0 w1 → W.grownBy w1 (some g) → wpList P ops Q rest (a.put o.dst (goInt (min m dl : Nat))) w1) : wpList P ops Q (o :: rest) a W := by
 obtain ⟨i0, hi, hzz⟩ := Option.map_eq_some_iff.1 hinfo
 simp only [Prod.mk.injEq] at hzz
 obtain ⟨hz0, hz1, hz2⟩ := hzz
 have hl : ys.length = m := HC.1
 subst hl
 have hR := HF.R (base := base) (ok := fun _ => True) hg trivial B.length (Nat.le_refl _) hB
 rw [List.take_length] at hR
 obtain ⟨W2, hrun, hR2, hg2⟩ := copy_into (P := P) (c := c) (dl := dl) (dc := dc) .u8 t u o.type hR HC ht (by rw [hi]; simp [hz1]) hfit
 obtain ⟨cur, hh, _, hn, hl2, hcm, hsz, htk⟩ := int_R_cur hR2
 have hF2 : Full e W2 g (B.take off ++ ys.take (min ys.length dl) ++ B.drop (off + min ys.length dl)) := ⟨cur, hh, by
  rw [← htk, List.take_of_length_le (by rw [Array.length_toList]; omega)]⟩
 refine wpList_plain hgd fun K hK => ?_
 unfold Oper.wp
 simp [execOp, ho, resolve, invoke, builtin, hs, hx, hrun, Result.andThen]
 exact hK _ _ (h W2 hF2 (HB.grown hg2 (by have := HF.lt; omega) (fun k hk => by injection hk with hk; omega)) hg2)
theorem copy_full_run (P : Program) (t u ty : TypeId) (ht : P.underlying t = some (.slice e)) (hinfo : (P.info? e).map (fun i => (i.zero, i.size, i.bytes)) = some (some (.int .u8 0), 1, 1))
 {g off dl dc : Nat} (B ys : List Int) (A : Option Addr) (m c : Nat) (HF : Full e W g B) (hB : B.length ≤ maxLen) (HC : Kd.C (Kd.int .u8) W A m ys) (hfit : off + min m dl ≤ B.length) :
 ∃ w1, (Builtin.copy_ #[t, u] ty #[.slice (some ⟨g, off, none⟩) dl dc, .slice A m c]).run P W = .ok (goInt (min m dl : Nat)) w1 ∧ Full e w1 g (B.take off ++ ys.take (min m dl) ++ B.drop (off + min m dl)) ∧ W.grownBy w1 (some g) := by
 obtain ⟨i0, hi, hzz⟩ := Option.map_eq_some_iff.1 hinfo
 simp only [Prod.mk.injEq] at hzz
 obtain ⟨hz0, hz1, hz2⟩ := hzz
 have hl : ys.length = m := HC.1
 subst hl
 have hR := HF.R (base := g) (ok := fun _ => True) (Nat.le_refl _) trivial B.length (Nat.le_refl _) hB
 rw [List.take_length] at hR
 obtain ⟨W2, hrun, hR2, hg2⟩ := copy_into (P := P) (c := c) (dl := dl) (dc := dc) .u8 t u ty hR HC ht (by rw [hi]; simp [hz1]) hfit
 obtain ⟨cur, hh, _, hn, hl2, hcm, hsz, htk⟩ := int_R_cur hR2
 exact ⟨W2, hrun, ⟨cur, hh, by rw [← htk, List.take_of_length_le (by rw [Array.length_toList]; omega)]⟩, hg2⟩
theorem splice_mid (X ys Y : List Int) (n m a : Nat) (hX : X.length = n) (hm : ys.length = m) (ha : m ≤ a) : (X ++ zs a ++ Y).take n ++ ys ++ (X ++ zs a ++ Y).drop (n + m) = X ++ ys ++ zs (a - m) ++ Y := by
 subst hX hm
 unfold zs
 rw [List.append_assoc X, List.take_left' rfl, List.drop_append, List.drop_of_length_le (by omega), List.nil_append, show X.length + ys.length - X.length = ys.length by omega, List.drop_append, List.drop_replicate, List.length_replicate, Nat.sub_eq_zero_of_le ha, List.drop_zero]
 simp only [List.append_assoc]
theorem splice_zero (X ys : List Int) (n m k : Nat) (hX : X.length = n) (hm : ys.length = m) (hk : m ≤ k) : (X ++ zs k).take n ++ ys ++ (X ++ zs k).drop (n + m) = (X ++ ys) ++ zs (k - m) := by
 subst hX hm
 unfold zs
 rw [List.take_left' rfl, List.drop_append, List.drop_of_length_le (by omega), List.nil_append, List.drop_replicate]
 congr 2
 omega
end
end Go.Proofs.YtppjphghlclklaaGreatDoorW.PrintWords
end
section
namespace Go.Proofs.YtppjphghlclklaaGreatDoor.P
open Go.RowKit Go.Proofs.YtppjphghlclklaaGreatDoorW.PrintWords Go.Proofs.YtppjphghlclklaaGreatDoorW.PrintLast Go.Proofs.YtppjphghlclklaaGreatDoorW.PrintMore
attribute [local go_sem] max2_int min2_int max_two min_two max_three min_three max_four min_four
set_option linter.unusedVariables false
set_option linter.unusedSimpArgs false
theorem vB_vlen : ∀ (d : Nat) (x : Nat), x < 128 ^ (d + 1) → (vB d (x : Int)).length = vlen x
 | 0, x, h => by
  rw [vlen_small (by omega)]
  rfl
 | d + 1, x, h => by
  unfold vB
  by_cases c : x < 128
  · rw [if_neg (by omega), vlen_small c]
    rfl
  · rw [if_pos (by omega), vlen_big c, List.length_cons]
    have hd : (x : Int) / 128 = ((x / 128 : Nat) : Int) := by omega
    rw [hd, vB_vlen d (x / 128) (by rw [Nat.div_lt_iff_lt_mul (by omega), ← Nat.pow_succ]; exact h)]
theorem vB_len64 (x : Nat) (h : x < 18446744073709551616) : (vB 9 (x : Int)).length = vlen x := vB_vlen 9 x (by omega)
def tagI (s : Int) : Int := if s > 512 then 2 * s + 1 else 2 * s
def cellBy (p : Nat) (x : It) : List Int := vB 9 ((x.f0.length - p : Nat) : Int) ++ x.f0.drop p ++ vB 9 (tagI x.f2) ++ (if x.f2 > 512 then leB 4 (x.f3 % 4294967296) else x.f1)
theorem it12 {x : It} (h1 : it1 x = true) (h2 : it2 x = true) : (1 ≤ x.f0.length ∧ x.f0.length ≤ 255 ∧ 0 ≤ x.f2 ∧ x.f2 ≤ 262144) ∧ (x.f2 > 512 → x.f1.length = 0 ∧ 2 ≤ x.f3 ∧ x.f3 < 524287) ∧ (¬ x.f2 > 512 → (x.f1.length : Int) = x.f2 ∧ x.f3 = 0) := by
 refine ⟨of_decide_eq_true h1, fun c => ?_, fun c => ?_⟩
 · unfold it2 at h2
   rw [if_pos c] at h2
   exact of_decide_eq_true h2
 · unfold it2 at h2
   rw [if_neg c] at h2
   exact of_decide_eq_true h2
theorem tagI_of {s : Int} (h0 : 0 ≤ s) (h1 : s ≤ 262144) : tagI s = (tagOf s : Int) := by
 have hc : (cl s : Int) = s := by
  rw [← cl_mn]
  unfold mn mx
  split <;> split <;> omega
 unfold tagI tagOf
 by_cases c : s > 512
 · rw [if_pos c, if_pos (by omega)]
   omega
 · rw [if_neg c, if_neg (by omega)]
   omega
theorem cellBy_length (p : Nat) (x : It) (h1 : it1 x = true) (h2 : it2 x = true) : (cellBy p x).length + 2 = cellL p x := by
 obtain ⟨⟨a1, a2, a3, a4⟩, a5, a6⟩ := it12 h1 h2
 have hc : (cl x.f2 : Int) = x.f2 := by
  rw [← cl_mn]
  unfold mn mx
  split <;> split <;> omega
 have ht := tagOf_le x.f2
 unfold cellBy cellL
 rw [tagI_of a3 a4]
 simp only [List.length_append, List.length_drop]
 rw [vB_len64 _ (by omega), vB_len64 _ (by omega)]
 by_cases c : x.f2 > 512
 · rw [if_pos c, leB_length]
   unfold inl
   rw [if_pos (by omega)]
   omega
 · rw [if_neg c]
   have := a6 c
   unfold inl
   rw [if_neg (by omega)]
   omega
theorem putV_ev (l : List Int) (x : Int) (hl : (l.length : Int) ≤ 70368744177664) (h0 : 0 ≤ x) (h1 : x < 18446744073709551616) : Ev (fun k => wire_PutV.f k l x) (l ++ vB 9 x) := by
 refine ⟨10, fun k hk => ?_⟩
 show wire_PutV.f k l x = _
 unfold wire_PutV.f wire_grown.f
 rw [if_pos (by omega), if_pos (by omega)]
 simp only [Option.bind_some]
 exact putV_l0 9 k l x (by omega) (by have : (128 : Int) ^ (9 + 1) = 1180591620717411303424 := by decide
                                      omega) (by omega)
theorem put32_ev (l : List Int) (x : Int) (hl : (l.length : Int) ≤ 70368744177664) (h0 : 0 ≤ x) (h1 : x < 4294967296) : Ev (fun k => wire_Put_uint32.f k l x) (l ++ leB 4 x) := by
 refine ⟨5, fun k hk => ?_⟩
 show wire_Put_uint32.f k l x = _
 have hw : IntKind.u64.wrap x = x := by rw [IntKind.wrap_u64]; omega
 unfold wire_Put_uint32.f wire_grown.f
 rw [if_pos (by omega), if_pos (by omega)]
 simp only [Option.bind_some, show wire_width_uint32.f = some 4 from rfl]
 rw [hw]
 exact put_uint32_l0 4 k 0 l x (by omega) (by omega) (by omega)
theorem cell_ev (p : Nat) (x : It) (h1 : it1 x = true) (h2 : it2 x = true) (hp : p ≤ x.f0.length) : Ev (fun k => leaf_cell.f k x.f0 x.f1 x.f2 x.f3 p) (cellBy p x) := by
 obtain ⟨⟨a1, a2, a3, a4⟩, a5, a6⟩ := it12 h1 h2
 have hlen : x.f1.length ≤ 262144 := by
  by_cases c : x.f2 > 512
  · have := a5 c; omega
  · have := a6 c; omega
 have hv1 := vB_length 9 ((x.f0.length - p : Nat) : Int)
 have hv2 := vB_length 9 (tagI x.f2)
 have htg : tagI x.f2 ≤ 524289 ∧ 0 ≤ tagI x.f2 := by unfold tagI; split <;> omega
 obtain ⟨K1, e1⟩ := putV_ev [] ((x.f0.length - p : Nat) : Int) (by simp) (by omega) (by omega)
 obtain ⟨K2, e2⟩ := putV_ev [] (tagI x.f2) (by simp) (by omega) (by omega)
 obtain ⟨K3, e3⟩ := put32_ev (vB 9 ((x.f0.length - p : Nat) : Int) ++ x.f0.drop p ++ vB 9 (tagI x.f2)) (x.f3 % 4294967296) (by simp only [List.length_append, List.length_drop]; omega) (by omega) (by omega)
 refine ⟨K1 + K2 + K3, fun k hk => ?_⟩
 have g1 := e1 k (by omega)
 have g2 := e2 k (by omega)
 have g3 : wire_Put_uint32.f k _ _ = _ := e3 k (by omega)
 simp only [List.nil_append] at g1 g2
 have hw : IntKind.u64.wrap (wrap64 ((x.f0.length : Int) - p)) = ((x.f0.length - p : Nat) : Int) := by rw [wrap_id _ (by omega) (by omega), u64_id _ (by omega) (by omega)]; omega
 have htag : leaf_tag.f x.f2 = some (tagI x.f2) := by
  have h := tag_f x.f2
  have hc : (cl x.f2 : Int) = x.f2 := by
   rw [← cl_mn]
   unfold mn mx
   split <;> split <;> omega
  rw [hc] at h
  rw [h, tagI_of a3 a4]
 show leaf_cell.f k x.f0 x.f1 x.f2 x.f3 p = _
 unfold leaf_cell.f
 rw [hw, g1]
 simp only [Option.bind_some]
 rw [if_pos (by omega), if_pos (by omega), if_pos (by simp only [List.length_drop]; omega), htag, Int.toNat_natCast]
 simp only [Option.bind_some]
 rw [g2]
 simp only [Option.bind_some]
 rw [if_pos (by simp only [List.length_append, List.length_drop]; omega)]
 unfold leaf_chained.f cellBy
 simp only [Option.bind_some]
 by_cases c : x.f2 > 512
 · rw [if_pos (decide_eq_true c), if_pos c, g3]
   rfl
 · rw [if_neg (by simpa using c), if_neg c, if_pos (by simp only [List.length_append, List.length_drop]; omega)]
def slotsL (p : Nat) : Nat → List It → List Int
 | _, [] => []
 | a, x :: l => leB 2 ((a : Int) % 65536) ++ slotsL p (a + (cellBy p x).length) l
def cellsL (p : Nat) (l : List It) : List Int := l.flatMap (cellBy p)
def topL (l : List It) : List Int := [1] ++ leB 2 ((l.length : Int) % 65536) ++ vB 9 (pre l : Int) ++ ((l.head?.elim [] fun x => x.f0).take (pre l))
def leafBody (l : List It) : List Int := topL l ++ slotsL (pre l) ((topL l).length + 2 * l.length) l ++ cellsL (pre l) l ++ zs (4092 - sizeL l)
def encLeafR (l : List It) : List Int × Int := if mayR l = 0 then (if sizeL l ≤ 4092 then (leafBody l, 0) else ([], 42)) else ([], mayR l)
theorem slotsL_snoc (p : Nat) (x : It) : ∀ (l : List It) (a : Nat), slotsL p a (l ++ [x]) = slotsL p a l ++ leB 2 (((a + (cellsL p l).length : Nat) : Int) % 65536)
 | [], a => by simp [slotsL, cellsL]
 | y :: l, a => by
  simp only [List.cons_append, slotsL, slotsL_snoc p x l, cellsL, List.flatMap_cons, List.length_append, List.append_assoc, Nat.add_assoc]
theorem cellsL_snoc (p : Nat) (x : It) (l : List It) : cellsL p (l ++ [x]) = cellsL p l ++ cellBy p x := by simp [cellsL]
theorem slotsL_length (p : Nat) : ∀ (l : List It) (a : Nat), (slotsL p a l).length = 2 * l.length
 | [], _ => rfl
 | x :: l, a => by simp only [slotsL, List.length_append, leB_length, slotsL_length p l, List.length_cons]; omega
theorem topL_length (l : List It) (hs : Small l) (hl : 0 < l.length) : (topL l).length = 3 + vlen (pre l) + pre l := by
 match l, hl with
 | x :: l', _ =>
  have hp := pre_le (x :: l') x (List.mem_cons_self ..)
  have h2 := pre_small (x :: l') hs
  unfold topL
  simp only [List.length_append, leB_length, List.length_take, List.head?_cons, Option.elim_some, List.length_singleton]
  rw [vB_len64 _ (by omega)]
  omega
theorem cells_sum (p : Nat) (l : List It) (h1 : l.all it1 = true) (h2 : l.all it2 = true) : (cellsL p l).length + 2 * l.length = (l.map (cellL p)).sum := by
 induction l with
 | nil => rfl
 | cons x l ih =>
  rw [List.all_cons, Bool.and_eq_true] at h1 h2
  have h := cellBy_length p x h1.1 h2.1
  have hi := ih h1.2 h2.2
  simp only [cellsL, List.flatMap_cons, List.length_append, List.length_cons, List.map_cons, List.sum_cons] at hi ⊢
  omega
theorem mayR_zero {l : List It} (h : mayR l = 0) : 0 < l.length ∧ l.all it1 = true ∧ l.all it2 = true ∧ ordB (l.map (·.f0)) = true := by
 unfold mayR at h
 by_cases c : l.length = 0
 · rw [if_pos c] at h; omega
 · rw [if_neg c] at h
   by_cases c1 : l.all it1 = true
   · rw [if_pos c1] at h
     by_cases c2 : l.all it2 = true
     · rw [if_pos c2] at h
       by_cases c3 : ordB (l.map (·.f0)) = true
       · exact ⟨by omega, c1, c2, c3⟩
       · rw [if_neg c3] at h; omega
     · rw [if_neg c2] at h; omega
   · rw [if_neg c1] at h; omega
theorem size_eq (l : List It) (hs : Small l) (h : mayR l = 0) : sizeL l = (topL l).length + 2 * l.length + (cellsL (pre l) l).length := by
 obtain ⟨h0, h1, h2, _⟩ := mayR_zero h
 have := cells_sum (pre l) l h1 h2
 rw [topL_length l hs h0]
 unfold sizeL
 omega
end Go.Proofs.YtppjphghlclklaaGreatDoor.P
end
