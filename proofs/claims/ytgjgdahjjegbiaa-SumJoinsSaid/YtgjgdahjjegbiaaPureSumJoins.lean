/- Joined of three texts, either way, it is the same; of nothing more it stays: for every three texts (those of more than 2000 bytes are let out by the statement itself). -/
import Derived.Test.YtgjgdahjjegbiaaSumB
import Derived.Test.YtgjgdahjjegbiaaPx2
namespace Go.Proofs.Ytgjgdahjjegbiaa.Pure
open Go.RowKit Go.Proofs.Ytgjgdahjjegbiaa.P Go.Proofs.YtgjgdahjjegbiaaW.PrintWords Go.Proofs.Ytgjgdahjjegbiaa.Pl

theorem live_at' (k : Nat) (h : 12 ≤ k) : armadalaw02_live.f k = some true :=
  at_rounds armadalaw02_live.mono h (by decide +kernel)
theorem join_at (l m : List Int) (n : Int) (hn : (m.length : Int) = n) (hb : n ≤ 1099511627776) : sum_Join.f (num (ofP l)) (num (ofP m)) n = some (num (ofP (l ++ m))) := by
  have nl := num_range (ofP_in l); have nm := num_range (ofP_in m)
  rw [join_spec _ _ _ (by omega) (by omega) (by omega) (by omega), ← hn, join_num l m (by omega)]
theorem SumJoins : armadalaw02_SumJoins.Pure := by
  intro a b c ha hb hc
  refine ⟨a.size + b.size + c.size + 14, ?_⟩
  have hl := live_at' (a.size + b.size + c.size + 13) (by omega)
  unfold armadalaw02_SumJoins.f
  by_cases h1 : (a.size : Int) > 2000
  · rw [if_pos h1]
    simp only [armadalaw02_SumJoins.j0, if_true]
    rw [hl]; rfl
  · rw [if_neg h1]
    by_cases h2 : (b.size : Int) > 2000
    · rw [if_pos h2]
      simp only [armadalaw02_SumJoins.j0, if_true]
      rw [hl]; rfl
    · rw [if_neg h2]
      by_cases h3 : (c.size : Int) > 2000
      · simp only [armadalaw02_SumJoins.j0, h3, decide_true, if_true]
        rw [hl]; rfl
      · simp only [armadalaw02_SumJoins.j0, h3, decide_false]
        have hab : (a ++ b).size = a.size + b.size := by simp
        have habc : ((a ++ b) ++ c).size = a.size + b.size + c.size := by simp
        have e0 : sum_Join.f (num (ofP (bs a))) 1 0 = some (num (ofP (bs a))) := by
          have := join_at (bs a) [] 0 (by simp) (by omega)
          rw [List.append_nil] at this
          exact this
        have e1 : sum_Join.f 1 (num (ofP (bs b))) (b.size : Int) = some (num (ofP (bs b))) := by
          have := join_at [] (bs b) (b.size : Int) (by rw [bs_length]) (by omega)
          rw [List.nil_append] at this
          exact this
        rw [if_neg (by simp), of_spec a ha _ (by omega), of_spec b hb _ (by omega), of_spec c hc _ (by omega)]
        simp only [Option.bind_some]
        rw [join_at (bs a) (bs b) _ (by rw [bs_length]) (by omega)]
        simp only [Option.bind_some]
        rw [join_at (bs a ++ bs b) (bs c) _ (by rw [bs_length]) (by omega)]
        simp only [Option.bind_some]
        rw [join_at (bs b) (bs c) _ (by rw [bs_length]) (by omega)]
        simp only [Option.bind_some]
        rw [w64 (by omega) (by omega), join_at (bs a) (bs b ++ bs c) _ (by rw [List.length_append, bs_length, bs_length]; omega) (by omega)]
        simp only [Option.bind_some]
        rw [if_pos (by rw [List.append_assoc]), if_pos (by omega), if_pos (by omega), of_spec _ (by omega) _ (by omega)]
        simp only [Option.bind_some]
        rw [if_pos (by rw [bs_append, bs_append]), e0]
        simp only [Option.bind_some]
        rw [if_pos trivial, e1]
        simp only [Option.bind_some]
        rw [if_pos trivial, hl]
        rfl
end Go.Proofs.Ytgjgdahjjegbiaa.Pure
