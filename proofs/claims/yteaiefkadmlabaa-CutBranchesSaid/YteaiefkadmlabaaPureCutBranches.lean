import Derived.Test.YteaiefkadmlabaaM3
/-! Branch cuts where the document says. -/
namespace Go.Proofs.Yteaiefkadmlabaa.Pure
open Go.RowKit Go.Proofs.YteaiefkadmlabaaW.PrintWords Go.Proofs.YteaiefkadmlabaaW.PrintMore Go.Proofs.Yteaiefkadmlabaa.P
theorem CutBranches (l : List (List Int)) (hB : Blists l) : ∃ k, coppicelaw9_CutBranches.f k l = some true := by
  unfold coppicelaw9_CutBranches.f coppicelaw9_first.f
  simp only [Option.bind_some]
  by_cases h : (l.length : Int) > 400
  · exact ⟨0, by rw [if_pos h]⟩
  · have hs := hB.small (by omega)
    obtain ⟨K1, h1⟩ := lists_f l (by omega) hB.1
    obtain ⟨K2, h2⟩ := branch_f l hs
    obtain ⟨K3, h3⟩ := rbranch_f l hs
    refine ⟨K1 + K2 + K3, ?_⟩
    have g1 : coppiceref_ByteLists.f (K1 + K2 + K3) l = _ := h1 _ (by omega)
    have g2 : cut_Branch.f (K1 + K2 + K3) l = _ := h2 _ (by omega)
    have g3 : coppiceref9_Branch.f (K1 + K2 + K3) l = _ := h3 _ (by omega)
    rw [if_neg h, g1]
    simp only [Option.bind_some]
    rw [g2]
    simp only [Option.bind_some, if_true]
    rw [g3]
    simp
end Go.Proofs.Yteaiefkadmlabaa.Pure
