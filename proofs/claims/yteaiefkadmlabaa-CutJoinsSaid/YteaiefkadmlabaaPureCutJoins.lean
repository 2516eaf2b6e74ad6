import Derived.Test.YteaiefkadmlabaaM4
/-! JoinLeaves and JoinBranches answer as the document says. -/
namespace Go.Proofs.Yteaiefkadmlabaa.Pure
open Go.RowKit Go.Proofs.YteaiefkadmlabaaW.PrintWords Go.Proofs.YteaiefkadmlabaaW.PrintMore Go.Proofs.Yteaiefkadmlabaa.P
theorem CutJoins (a b : List It) (c : List (List Int)) (s : List Int) (d : List (List Int)) (hA : Bitems a) (hB : Bitems b) (hC : Blists c) (hS : Bbytes s) (hD : Blists d) : ∃ k, coppicelaw9_CutJoins.f k a b c s d = some true := by
  have hj : ∀ k, coppicelaw9_CutJoins.j0 (k + 1) a b c s d true true = some true := fun k => by simp [coppicelaw9_CutJoins.j0]
  unfold coppicelaw9_CutJoins.f coppicelaw9_first.f
  simp only [Option.bind_some]
  by_cases ha : (a.length : Int) > 400
  · exact ⟨1, by rw [if_pos ha]; exact hj 0⟩
  by_cases hb : (b.length : Int) > 400
  · exact ⟨1, by rw [if_neg ha, if_pos hb]; exact hj 0⟩
  by_cases hc : (c.length : Int) > 400
  · exact ⟨1, by rw [if_neg ha, if_neg hb, if_pos hc]; exact hj 0⟩
  by_cases hd : (d.length : Int) > 400
  · exact ⟨1, by rw [if_neg ha, if_neg hb, if_neg hc, decide_eq_true hd]; exact hj 0⟩
  have s1 : Small (a ++ b) := (hA.small (by omega)).append (hB.small (by omega)) (by omega)
  have s2 : SmallB [s] := ⟨by simp, fun x hx => by rw [List.mem_singleton.1 hx]; exact hS.2⟩
  have s3 : SmallB (c ++ [s] ++ d) := (((hC.small (by omega)).append s2 (by simp; omega))).append (hD.small (by omega)) (by simp; omega)
  obtain ⟨K1, h1⟩ := joinL_f a b s1 (by omega) (by omega)
  obtain ⟨K2, h2⟩ := joinB_f c s d s3 (by omega) (by omega)
  obtain ⟨K3, h3⟩ := rjoinL_f a b s1 (by omega) (by omega)
  obtain ⟨K4, h4⟩ := rjoinB_f c s d s3 (by omega) (by omega)
  refine ⟨K1 + K2 + K3 + K4 + 1, ?_⟩
  have g1 : cut_JoinLeaves.f (K1 + K2 + K3 + K4) a b = _ := h1 _ (by omega)
  have g2 : cut_JoinBranches.f (K1 + K2 + K3 + K4) c s d = _ := h2 _ (by omega)
  have g3 : coppiceref9_JoinLeaves.f (K1 + K2 + K3 + K4) a b = _ := h3 _ (by omega)
  have g4 : coppiceref9_JoinBranches.f (K1 + K2 + K3 + K4) c s d = _ := h4 _ (by omega)
  rw [if_neg ha, if_neg hb, if_neg hc, decide_eq_false hd]
  simp only [coppicelaw9_CutJoins.j0]
  rw [g1, g2, g3, g4]
  simp
end Go.Proofs.Yteaiefkadmlabaa.Pure
