import Derived.Test.YteaiefkadmlabaaTypes
/-! What the row of CutOwn hands its walk: the bounds of the arguments. The plain part of this law stands in <Name>OwnCalls: every call over the same memory answers as the document. -/
namespace Go.Proofs.Yteaiefkadmlabaa.Pure
open Go.RowKit Go.Proofs.YteaiefkadmlabaaW.PrintWords Go.Proofs.YteaiefkadmlabaaW.PrintMore Go.Proofs.Yteaiefkadmlabaa.P
theorem CutOwn (l0 : List S38) (l1 : List (List Int)) (a2 : Int) (h0 : Bitems l0) (h1 : Blists l1) (_ : Bint a2) : Bitems l0 ∧ Blists l1 ∧ true = true := ⟨h0, h1, rfl⟩
end Go.Proofs.Yteaiefkadmlabaa.Pure
