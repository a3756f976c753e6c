/- The sum of two texts, one behind the other, is that of the second one, rolled on from that of the first one, and joined of both: for every two texts (those of more than 70000 bytes are let out by the statement itself). -/
import Derived.Test.YtgjgdahjjegbiaaSumB
import Derived.Test.YtgjgdahjjegbiaaPx2
namespace Go.Proofs.Ytgjgdahjjegbiaa.Pure
open Go.RowKit Go.Proofs.Ytgjgdahjjegbiaa.P Go.Proofs.YtgjgdahjjegbiaaW.PrintWords Go.Proofs.Ytgjgdahjjegbiaa.Pl

theorem live_at (k : Nat) (h : 12 ≤ k) : armadalaw02_live.f k = some true :=
  at_rounds armadalaw02_live.mono h (by decide +kernel)
theorem SumParts : armadalaw02_SumParts.Pure := by
  intro a b ha hb
  refine ⟨a.size + b.size + 14, ?_⟩
  have hl := live_at (a.size + b.size + 13) (by omega)
  unfold armadalaw02_SumParts.f
  by_cases h1 : (a.size : Int) > 70000
  · rw [if_pos h1]
    simp only [armadalaw02_SumParts.j0, if_true]
    rw [hl]; rfl
  · rw [if_neg h1]
    by_cases h2 : (b.size : Int) > 70000
    · simp only [armadalaw02_SumParts.j0, h2, decide_true, if_true]
      rw [hl]; rfl
    · simp only [armadalaw02_SumParts.j0, h2, decide_false]
      have hab : (a ++ b).size = a.size + b.size := by simp
      have ia := ofP_in (bs a); have na := num_range ia
      have ib := ofP_in (bs b); have nb := num_range ib
      rw [if_neg (by simp), if_pos (by omega), of_spec (a ++ b) (by omega) _ (by omega), of_spec a ha _ (by omega)]
      simp only [Option.bind_some]
      rw [roll_spec _ b (by omega) (by omega) hb _ (by omega)]
      simp only [Option.bind_some]
      rw [rollSpec_num ia, bs_append, if_pos (by unfold ofP; rw [rollP_append])]
      rw [of_spec b hb _ (by omega)]
      simp only [Option.bind_some]
      rw [join_spec _ _ _ (by omega) (by omega) (by omega) (by omega)]
      simp only [Option.bind_some]
      have hj := join_num (bs a) (bs b) (by rw [bs_length]; omega)
      rw [bs_length] at hj
      rw [hj, if_pos rfl, hl]
      rfl
end Go.Proofs.Ytgjgdahjjegbiaa.Pure
