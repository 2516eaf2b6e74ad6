import Derived.Test.YteaiefkadmlabaaP0
import Derived.Test.YteaiefkadmlabaaWOpen
import Derived.KernelRfl
import Derived.OpenShut
import Derived.Lib.SmallJoins
/-! What the arguments' types read as. -/
namespace Go.Proofs.Yteaiefkadmlabaa.P
open Go.RowKit Go.Proofs.YteaiefkadmlabaaW.PrintWords Go.Proofs.YteaiefkadmlabaaW.Open
def Bbytes (l : List Int) : Prop := (∀ a ∈ l, 0 ≤ a ∧ a ≤ 255) ∧ l.length ≤ 140737488351232
def Bint (n : Int) : Prop := -9223372036854775808 ≤ n ∧ n ≤ 9223372036854775807
def Bitem (x : S38) : Prop := Bbytes x.f0 ∧ Bbytes x.f1 ∧ Bint x.f2 ∧ Bint x.f3
def Bitems (l : List S38) : Prop := (∀ x ∈ l, Bitem x) ∧ l.length * 64 ≤ 140737488351232
def Blists (l : List (List Int)) : Prop := (∀ x ∈ l, Bbytes x) ∧ l.length * 24 ≤ 140737488351232
def Bbools (l : List Bool) : Prop := l.length ≤ 140737488351232
theorem wf_u8 {n : Int} (h : (Lit.int .u8 n).wf = true) : 0 ≤ n ∧ n ≤ 255 := by simpa [Lit.wf, IntKind.min, IntKind.max, IntKind.signed, IntKind.bits] using h
theorem wf_i64 {n : Int} (h : (Lit.int .i64 n).wf = true) : Bint n := by simpa [Lit.wf, Bint, IntKind.min, IntKind.max, IntKind.signed, IntKind.bits] using h
theorem opensInt : Opens Try.prog (Kd.int .i64) 3 Bint := (opens_int Try.underlying3).imp fun _ h => wf_i64 h
theorem opensByte : Opens Try.prog (Kd.int .u8) 5 (fun n => 0 ≤ n ∧ n ≤ 255) := (opens_int Try.underlying5).imp fun _ h => wf_u8 h
theorem opensBytes : Opens Try.prog (Kd.slice 5 (Kd.int .u8)) 32 Bbytes := (opens_slice (b := 1) opensByte Try.underlying32 (by kernel_rfl) (by kernel_rfl)).imp fun _ h => ⟨h.1, by have := h.2; omega⟩
theorem opensLists : Opens Try.prog (Kd.slice 32 (Kd.slice 5 (Kd.int .u8))) 28 Blists := opens_slice (b := 24) opensBytes Try.underlying28 (by kernel_rfl) (by kernel_rfl)
theorem opensItem : Opens Try.prog k38 38 Bitem :=
  (opens_iso (fun x : S38 => (x.f0, x.f1, x.f2, x.f3)) (fun p => ⟨p.1, p.2.1, p.2.2.1, p.2.2.2⟩) (fun _ => rfl)
    (opens_struct Try.underlying38 (opens_more opensBytes rfl (by kernel_rfl) (opens_more opensBytes rfl (by kernel_rfl) (opens_more opensInt rfl (by kernel_rfl) (opens_one opensInt rfl (by kernel_rfl))))) (by kernel_rfl))).imp fun _ h => h
theorem opensItems : Opens Try.prog (Kd.slice 38 k38) 24 Bitems := opens_slice (b := 64) opensItem Try.underlying24 (by kernel_rfl) (by kernel_rfl)
theorem opensBools : Opens Try.prog (Kd.slice 4 Kd.bool) 36 Bbools := (opens_slice (b := 1) (opens_bool Try.underlying4) Try.underlying36 (by kernel_rfl) (by kernel_rfl)).imp fun l h => by show l.length ≤ _; have := h.2; omega
theorem heap_item : Kd.Heap k38 := Kd.heap_iso _ (Kd.heap_pair (Kd.heap_slice _ (Kd.heap_int _)) (Kd.heap_pair (Kd.heap_slice _ (Kd.heap_int _)) (Kd.heap_pair (Kd.heap_int _) (Kd.heap_int _))))
/-- An item handed in by value. -/
theorem item_open {H : Type} {enc : TypeId × Value → H} {W : World} {r : Reach} {b0 base : Nat} {spare : Nat → Bool} {held : Bool} {v : Value} {d : DataW H} {ps : List MemPlace} (hv : Value.okWide Try.prog W r b0 38 v)
    (h : DataW.Trod enc Try.prog W base spare held 38 v d ps) (hw : ∀ n ∈ d.weights Try.prog 38, n ≤ reachBytes) :
    ∃ (x : S38) (A0 : Option Addr) (c0 : Nat) (A1 : Option Addr) (c1 : Nat), v = .agg #[.slice A0 x.f0.length c0, .slice A1 x.f1.length c1, .int .i64 x.f2, .int .i64 x.f3] ∧ x.f0.length ≤ c0 ∧ (Kd.int .u8).C W A0 x.f0.length x.f0 ∧ x.f1.length ≤ c1 ∧ (Kd.int .u8).C W A1 x.f1.length x.f1 ∧ Bitem x := by
  obtain ⟨cs, rfl, _⟩ := Go.WideShapes.okWide_struct Try.underlying38 hv
  obtain ⟨fuel, hf⟩ := h
  obtain ⟨x, hx, hB⟩ := opensItem H enc W base spare held fuel _ _ hf hw
  obtain ⟨A0, c0, A1, c1, hcs, l0, g0, l1, g1⟩ := k38_open hx
  refine ⟨x, A0, c0, A1, c1, ?_, l0, g0, l1, g1, hB⟩
  congr 1
  exact Array.toList_inj.1 hcs
end Go.Proofs.Yteaiefkadmlabaa.P
