/- What any bytes come to, and their digits; what stands behind any number of them; and any block: for every input (texts of more than 600 bytes are let out by the statement itself). -/
import Derived.Test.YtkejacgedipoeaaPx39
import Derived.Test.YtkejacgedipoeaaDRef4
namespace Go.Proofs.Ytkejacgedipoeaa.Pure
open Go.RowKit Go.Proofs.Ytkejacgedipoeaa.P Go.Proofs.YtkejacgedipoeaaW.PrintWords Go.Proofs.YtkejacgedipoeaaW.PrintLast Go.Proofs.Ytkejacgedipoeaa.Pl
theorem block_some (a b : ByteArray) : ∃ r, digest_Block.f a b = some r := by
  unfold digest_Block.f
  split <;> exact ⟨_, rfl⟩
theorem of_some (s : ByteArray) (h : s.size ≤ 1099511627776) : ∃ r, digest_Of.f s = some r := by
  unfold digest_Of.f
  rw [if_pos h]; exact ⟨_, rfl⟩
theorem hex_some (s : ByteArray) (h : s.size ≤ 70000000000000) : ∃ r, digest_Hex.f s = some r := by
  unfold digest_Hex.f
  rw [if_pos h]; exact ⟨_, rfl⟩
theorem pad_some (n : Int) : ∃ r, digest_Pad.f n = some r := by
  unfold digest_Pad.f
  split <;> exact ⟨_, rfl⟩
theorem DigestTells : armadalaw12_DigestTells.Pure := by
  intro a b n ha hb hn
  refine ⟨2001, ?_⟩
  have hL := live_bind
  unfold armadalaw12_DigestTells.f
  by_cases h1 : (a.size : Int) > 600
  · rw [if_pos h1, armadalaw12_DigestTells.j0, if_pos rfl]
    exact hL
  · rw [if_neg h1]
    by_cases h2 : (b.size : Int) > 600
    · rw [show decide ((b.size : Int) > 600) = true from decide_eq_true h2, armadalaw12_DigestTells.j0, if_pos rfl]
      exact hL
    · rw [show decide ((b.size : Int) > 600) = false from decide_eq_false h2, armadalaw12_DigestTells.j0, if_neg (by decide)]
      rw [refBlock_is b a 2000 (by omega), refOf_is a (by omega) 2000 (by omega), refHex_is a (by omega) 2000 (by omega), refPad_is n 2000 (by omega)]
      obtain ⟨r1, e1⟩ := block_some b a
      obtain ⟨r2, e2⟩ := of_some a (by omega)
      obtain ⟨r3, e3⟩ := hex_some a (by omega)
      obtain ⟨r4, e4⟩ := pad_some n
      rw [e1, Option.bind_some, Option.bind_some, e2, Option.bind_some, Option.bind_some, if_pos rfl, e3, Option.bind_some, Option.bind_some, if_pos rfl, e4, Option.bind_some, Option.bind_some, if_pos rfl, if_pos rfl, if_pos (by simp)]
      exact hL
end Go.Proofs.Ytkejacgedipoeaa.Pure
