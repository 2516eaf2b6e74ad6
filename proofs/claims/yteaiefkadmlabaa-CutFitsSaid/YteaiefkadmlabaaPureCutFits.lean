import Derived.Test.YteaiefkadmlabaaP10
import Derived.Test.YteaiefkadmlabaaTypes
namespace Go.Proofs.Yteaiefkadmlabaa.Pure
open Go.RowKit Go.Proofs.Yteaiefkadmlabaa.P
theorem CutFits (a0 : Int) (_h : Bint a0) : coppicelaw9_CutFits.f a0 = some true := by
  unfold coppicelaw9_CutFits.f coppicelaw9_first.f cut_Fits.f coppiceref9_Fits.f
  simp only [Option.bind_some]
  split <;> simp
end Go.Proofs.Yteaiefkadmlabaa.Pure
