import Derived.Test.YteaiefkadmlabaaWMore
import Derived.Test.YteaiefkadmlabaaWFoot
import Derived.Deep.Slices
import Derived.DataReads
import Derived.DataElems
import Derived.ChangeArms
import Derived.SizedLaws
/-! An argument that reads as data is a row, a number, a struct of the print's own kinds; how long its rows are. -/
namespace Go.Proofs.YteaiefkadmlabaaW.Open
open Go.RowKit Go.Deep Go.Proofs.YteaiefkadmlabaaW.PrintWords
/-- What reads at the type t is of the kind d, and B holds of it. -/
def Opens {α : Type} (P : Program) (d : Kd α) (t : TypeId) (B : α → Prop) : Prop :=
  ∀ (H : Type) (enc : TypeId × Value → H) (w : World) (base : Nat) (spare : Nat → Bool) (held : Bool) (fuel : Nat) (cs : List Value) (x : DataW H × List MemPlace), DataW.trod enc P w base spare held fuel t cs = some x → (∀ n ∈ x.1.weights P t, n ≤ reachBytes) → ∃ a, d.K w a cs ∧ B a
theorem Opens.imp {α : Type} {P : Program} {d : Kd α} {t : TypeId} {B B' : α → Prop} (h : Opens P d t B) (hB : ∀ a, B a → B' a) : Opens P d t B' := fun H enc w base spare held fuel cs x hx hw => by
  obtain ⟨a, ha, hb⟩ := h H enc w base spare held fuel cs x hx hw
  exact ⟨a, ha, hB a hb⟩
theorem opens_int {P : Program} {t : TypeId} {k : IntKind} (ht : P.underlying t = some (.int k)) : Opens P (Kd.int k) t (fun n => (Lit.int k n).wf = true) := fun H enc w base spare held fuel cs x hx _ => by
  obtain ⟨n, rfl, _, hwf⟩ := DataW.trod_int ht hx
  exact ⟨n, rfl, hwf⟩
theorem opens_bool {P : Program} {t : TypeId} (ht : P.underlying t = some .bool) : Opens P Kd.bool t (fun _ => True) := fun H enc w base spare held fuel cs x hx _ => by
  obtain ⟨b, rfl, _⟩ := DataW.trod_bool ht hx
  exact ⟨b, rfl, trivial⟩
theorem mem_weightsAll {H : Type} (P : Program) (e : TypeId) (l : List (DataW H)) (d : DataW H) (hd : d ∈ l) (n : Nat) (hn : n ∈ d.weights P e) : n ∈ DataW.weightsAll P e l := by
  induction l with
  | nil => cases hd
  | cons a l ih =>
    simp only [DataW.weightsAll, List.mem_append]
    rcases List.mem_cons.1 hd with rfl | h
    · exact .inl hn
    · exact .inr (ih h)
theorem mem_weightsEach {H : Type} (P : Program) : ∀ (ts : List TypeId) (l : List (DataW H)) (i : Nat) (t : TypeId) (d : DataW H), ts[i]? = some t → l[i]? = some d → ∀ n, n ∈ d.weights P t → n ∈ DataW.weightsEach P ts l
  | [], _, _, _, _, ht, _, _, _ => by simp at ht
  | _ :: _, [], _, _, _, _, hd, _, _ => by simp at hd
  | t0 :: ts, d0 :: l, 0, t, d, ht, hd, n, hn => by
    simp only [List.getElem?_cons_zero, Option.some.injEq] at ht hd
    subst ht
    subst hd
    simp only [DataW.weightsEach, List.mem_append]
    exact .inl hn
  | t0 :: ts, d0 :: l, i + 1, t, d, ht, hd, n, hn => by
    simp only [List.getElem?_cons_succ] at ht hd
    simp only [DataW.weightsEach, List.mem_append]
    exact .inr (mem_weightsEach P ts l i t d ht hd n hn)
theorem opens_slice {α : Type} {P : Program} {d : Kd α} {t e : TypeId} {B : α → Prop} {b : Nat} (ho : Opens P d e B) (ht : P.underlying t = some (.slice e)) (hc : P.cellsOf e = d.sz) (hb : P.bytesOf e = b) :
    Opens P (Kd.slice e d) t (fun l => (∀ a ∈ l, B a) ∧ l.length * b ≤ 140737488351232) := fun H enc w base spare held fuel cs x hx hw => by
  rcases open_slice ht hx with ⟨rfl, rfl⟩ | ⟨a, len, cap, m, n, D, Pl, rfl, hba, hl, hm, hmm, rfl, hel⟩
  · exact ⟨[], ⟨none, 0, rfl, Nat.le_refl _, Kd.C_nil d w⟩, by simp, by simp⟩
  · have hlm : len ≤ m := by rw [hmm]; split <;> omega
    have hwt : ∀ i, i < len → ∀ q, q ∈ (D i).weights P e → q ≤ reachBytes := fun i hi q hq => by
      refine hw q ?_
      simp only [DataW.weights, ht, List.mem_cons, List.mem_append]
      exact .inr (.inl (mem_weightsAll P e _ (D i) (List.mem_map.2 ⟨i, List.mem_range.2 hi, rfl⟩) q hq))
    have hlen : len * b ≤ 140737488351232 := by
      have h2 := hw ((((List.range len).map D).length + ((List.range (m - len)).map fun j => D (len + j)).length) * P.bytesOf e) (by
        simp only [DataW.weights, ht]
        exact List.mem_cons_self ..)
      rw [hb] at h2
      simp only [List.length_map, List.length_range] at h2
      exact Nat.le_trans (Nat.mul_le_mul_right _ (by omega)) h2
    rcases Nat.eq_zero_or_pos len with h0 | h0
    · subst h0
      exact ⟨[], ⟨some a, cap, rfl, Nat.zero_le _, ⟨rfl, by simp, fun h => absurd h (by simp)⟩⟩, by simp, by simp⟩
    have hone : ∀ i, ∃ p : α, i < len → B p ∧ ∃ c, c.length = d.sz ∧ d.K w p c ∧ ∀ j u, c[j]? = some u → w.cell? (a.add (i * d.sz + j)) = some u := fun i => by
      by_cases hi : i < len
      · obtain ⟨cs', h1, h2⟩ := hel i (by omega)
        obtain ⟨p, hk, hB⟩ := ho H enc w base spare held n cs' _ h2 (hwt i hi)
        obtain ⟨_, hcl, hcell⟩ := World.cells?_some h1
        refine ⟨p, fun _ => ⟨hB, cs', by rw [hcl, hc], hk, fun j u hu => ?_⟩⟩
        have hj : j < P.cellsOf e := by
          have := (List.getElem?_eq_some_iff.1 hu).1
          omega
        have h3 := hcell j hj
        rw [Addr.add_add, hc] at h3
        rw [h3, hu]
      · obtain ⟨cs', h1, h2⟩ := hel 0 (by omega)
        obtain ⟨p, hk, hB⟩ := ho H enc w base spare held n cs' _ h2 (hwt 0 (by omega))
        exact ⟨p, fun h => absurd h hi⟩
    obtain ⟨f, hf⟩ := Classical.axiomOfChoice hone
    refine ⟨(List.range len).map f, ⟨some a, cap, by simp, by simpa using hl, by simp, by simpa [maxLen] using Nat.le_trans hl hm, fun _ => ⟨a, rfl, fun j p hj => ?_⟩⟩, ?_, by simpa using hlen⟩
    · have hjl : j < len := by
        have := (List.getElem?_eq_some_iff.1 hj).1
        simpa using this
      have hp : f j = p := by simpa [hjl] using hj
      subst hp
      obtain ⟨_, c, h1, h2, h3⟩ := hf j hjl
      exact ⟨c, h1, h2, h3⟩
    · intro p hp
      obtain ⟨i, hi, rfl⟩ := List.mem_map.1 hp
      exact (hf i (List.mem_range.1 hi)).1
/-- Fields, one behind the other, from the cell off on. -/
def OpensFs {α : Type} (P : Program) (d : Kd α) (fs : List Field) (off : Nat) (B : α → Prop) : Prop :=
  ∀ (H : Type) (enc : TypeId × Value → H) (w : World) (base : Nat) (spare : Nat → Bool) (held : Bool) (fuel : Nat) (cs : List Value) (xs : List (DataW H × List MemPlace)), xs.length = fs.length →
    (∀ (i : Nat) (f : Field), fs[i]? = some f → DataW.trod enc P w base spare held fuel f.type ((cs.drop f.offset).take (P.cellsOf f.type)) = xs[i]?) → (∀ n ∈ DataW.weightsEach P (fs.map (·.type)) (xs.map (·.1)), n ≤ reachBytes) →
    ∃ a, d.K w a ((cs.drop off).take d.sz) ∧ B a
theorem opens_one {α : Type} {P : Program} {d : Kd α} {f : Field} {off : Nat} {B : α → Prop} (h : Opens P d f.type B) (hoff : f.offset = off) (hc : P.cellsOf f.type = d.sz) : OpensFs P d [f] off B := fun H enc w base spare held fuel cs xs hl hx hw => by
  match xs, hl with
  | [x], _ =>
    have h1 := hx 0 f rfl
    rw [hoff, hc] at h1
    exact h H enc w base spare held fuel _ x h1 (fun n hn => hw n (by simpa [DataW.weightsEach] using hn))
theorem opens_more {α β : Type} {P : Program} {d : Kd α} {d' : Kd β} {f : Field} {fs : List Field} {off : Nat} {B : α → Prop} {B' : β → Prop} (h : Opens P d f.type B) (hoff : f.offset = off) (hc : P.cellsOf f.type = d.sz) (h' : OpensFs P d' fs (off + d.sz) B') :
    OpensFs P (Kd.pair d d') (f :: fs) off (fun p => B p.1 ∧ B' p.2) := fun H enc w base spare held fuel cs xs hl hx hw => by
  match xs, hl with
  | x :: xs, hl =>
    have h1 := hx 0 f rfl
    rw [hoff, hc] at h1
    obtain ⟨a, ha, hB⟩ := h H enc w base spare held fuel _ x h1 (fun n hn => hw n (by
      simp only [List.map_cons, DataW.weightsEach, List.mem_append]
      exact .inl hn))
    obtain ⟨b, hb, hB'⟩ := h' H enc w base spare held fuel cs xs (by simpa using hl) (fun i g hg => by simpa using hx (i + 1) g (by simpa using hg)) (fun n hn => hw n (by
      simp only [List.map_cons, DataW.weightsEach, List.mem_append]
      exact .inr hn))
    refine ⟨(a, b), ⟨_, _, ?_, ha, hb⟩, hB, hB'⟩
    rw [show (Kd.pair d d').sz = d.sz + d'.sz from rfl, List.take_add, List.drop_drop]
theorem opens_struct {α : Type} {P : Program} {d : Kd α} {t : TypeId} {fs : Array Field} {B : α → Prop} (ht : P.underlying t = some (.struct fs)) (h : OpensFs P d fs.toList 0 B) (hc : P.cellsOf t = d.sz) : Opens P d t B := fun H enc w base spare held fuel cs x hx hw => by
  obtain ⟨xs, n, rfl, rfl, hl, hxl, hel⟩ := DataW.trod_struct ht hx
  obtain ⟨a, ha, hB⟩ := h H enc w base spare held n cs xs (by rw [hxl, Array.length_toList]) (fun i f hf => hel i f (by simpa using hf)) (fun q hq => hw q (by simpa [DataW.weights, ht] using hq))
  refine ⟨a, ?_, hB⟩
  rwa [List.drop_zero, List.take_of_length_le (by omega)] at ha
theorem opens_iso {α β : Type} {P : Program} {d : Kd α} {t : TypeId} {B : α → Prop} (f : β → α) (g : α → β) (hfg : ∀ a, f (g a) = a) (h : Opens P d t B) : Opens P (Kd.iso d f) t (fun b => B (f b)) := fun H enc w base spare held fuel cs x hx hw => by
  obtain ⟨a, ha, hB⟩ := h H enc w base spare held fuel cs x hx hw
  refine ⟨g a, ?_, by show B (f (g a)); rw [hfg]; exact hB⟩
  show d.K w (f (g a)) cs
  rw [hfg]
  exact ha
/-- An argument that is a slice. -/
theorem Opens.slice {α : Type} {P : Program} {d : Kd α} {t e : TypeId} {B : List α → Prop} (h : Opens P (Kd.slice e d) t B) {H : Type} {enc : TypeId × Value → H} {W : World} {base : Nat} {spare : Nat → Bool} {held : Bool} {a : Option Addr} {len cap : Nat} {x : DataW H} {ps : List MemPlace}
    (hx : DataW.Trod enc P W base spare held t (.slice a len cap) x ps) (hw : ∀ n ∈ x.weights P t, n ≤ reachBytes) : ∃ l, len = l.length ∧ len ≤ cap ∧ d.C W a l.length l ∧ B l := by
  obtain ⟨fuel, hf⟩ := hx
  obtain ⟨l, ⟨A, c, hcs, hl, hC⟩, hB⟩ := h H enc W base spare held fuel _ _ hf hw
  simp only [Value.cells, List.cons.injEq, Value.slice.injEq, and_true] at hcs
  obtain ⟨rfl, rfl, rfl⟩ := hcs
  exact ⟨l, rfl, hl, hC, hB⟩
end Go.Proofs.YteaiefkadmlabaaW.Open
