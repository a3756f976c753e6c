/- rec's Join, of the program and of the document: the same. -/
import Derived.Test.YtajgpmeilpjadaaZRecSpoiltRCut
set_option linter.unusedVariables false
set_option linter.unusedSimpArgs false
namespace Go.Proofs.Ytajgpmeilpjadaa.Pl
set_option linter.unusedSimpArgs false
open Go.RowKit Go.Proofs.Ytajgpmeilpjadaa.P Go.Proofs.YtajgpmeilpjadaaW.PrintWords Go.Proofs.YtajgpmeilpjadaaW.PrintLast Go.Proofs.YtajgpmeilpjadaaW.PrintMore
/-- Do sectors join to a payload of a size? -/
def joins (l : List ByteArray) (n : Int) : Prop := cntP n = (l.length : Int) ∧ odd32 l = false ∧ cutP ((joined l).extract 0 n.toNat) = l
instance (l : List ByteArray) (n : Int) : Decidable (joins l n) := by unfold joins; infer_instance
def joinP (l : List ByteArray) (n : Int) : ByteArray × Bool := if joins l n then ((joined l).extract 0 n.toNat, true) else (⟨#[]⟩, false)
theorem cntP_some {n : Int} {m : Nat} (h : cntP n = (m : Int)) : 0 ≤ n ∧ n ≤ 4096 ∧ m = cntN n.toNat := by
  unfold cntP cntN at *
  split at h <;> omega
theorem cutP_length (s : ByteArray) (h : s.size ≤ 4096) : (cutP s).length = cntN s.size := by unfold cutP; rw [if_pos h, cutN_length]
theorem Join_spec (l : List ByteArray) (n : Int) (k : Nat) (hk : 300 ≤ k) : rec_Join.f k l n = some (joinP l n) := by
  unfold rec_Join.f joinP
  rw [Count_spec, Option.bind_some]
  by_cases h : cntP n = (l.length : Int)
  · rw [if_pos h]
    obtain ⟨h0, h1, h2⟩ := cntP_some h
    by_cases ho : odd32 l = true
    · rw [if_pos ho, if_neg (fun x => by rw [x.2.1] at ho; cases ho)]
    · have ho' : odd32 l = false := by simpa using ho
      have hj := joined_size l ho'
      have hsz : ((joined l).extract 0 n.toNat).size = n.toNat := by rw [ByteArray.size_extract, hj]; unfold cntN at h2; omega
      rw [if_neg ho, if_pos (by unfold cntN at h2; omega), if_pos h0, if_pos (by rw [hj]; unfold cntN at h2; omega), Cut_spec _ k (by omega), Option.bind_some, Equal_spec _ l (by rw [cutP_length _ (by omega), hsz]; unfold cntN; omega) k (by rw [cutP_length _ (by omega), hsz]; unfold cntN; omega), Option.bind_some]
      by_cases hc : cutP ((joined l).extract 0 n.toNat) = l
      · rw [if_pos (decide_eq_true hc), if_pos ⟨h, ho', hc⟩]
      · rw [if_neg (by simpa using hc), if_neg (fun x => hc x.2.2)]
  · rw [if_neg h, if_neg (fun x => h x.1)]
end Go.Proofs.Ytajgpmeilpjadaa.Pl
