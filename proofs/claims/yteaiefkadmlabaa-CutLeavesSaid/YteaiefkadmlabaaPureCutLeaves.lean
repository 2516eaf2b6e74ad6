import Derived.Test.YteaiefkadmlabaaM3
/-! Leaf cuts where the document says. -/
namespace Go.Proofs.Yteaiefkadmlabaa.Pure
open Go.RowKit Go.Proofs.YteaiefkadmlabaaW.PrintWords Go.Proofs.YteaiefkadmlabaaW.PrintMore Go.Proofs.Yteaiefkadmlabaa.P
theorem CutLeaves (l : List It) (hB : Bitems l) : ∃ k, coppicelaw9_CutLeaves.f k l = some true := by
  unfold coppicelaw9_CutLeaves.f coppicelaw9_first.f
  simp only [Option.bind_some]
  by_cases h : (l.length : Int) > 400
  · exact ⟨0, by rw [if_pos h]⟩
  · have hs := hB.small (by omega)
    obtain ⟨K1, h1⟩ := items_f l (by omega) hB.1
    obtain ⟨K2, h2⟩ := leaf_f l hs
    obtain ⟨K3, h3⟩ := rleaf_f l hs
    refine ⟨K1 + K2 + K3, ?_⟩
    have g1 : coppiceref_Items.f (K1 + K2 + K3) l = _ := h1 _ (by omega)
    have g2 : cut_Leaf.f (K1 + K2 + K3) l = _ := h2 _ (by omega)
    have g3 : coppiceref9_Leaf.f (K1 + K2 + K3) l = _ := h3 _ (by omega)
    rw [if_neg h, g1]
    simp only [Option.bind_some]
    rw [g2]
    simp only [Option.bind_some, if_true]
    rw [g3]
    simp
end Go.Proofs.Yteaiefkadmlabaa.Pure
