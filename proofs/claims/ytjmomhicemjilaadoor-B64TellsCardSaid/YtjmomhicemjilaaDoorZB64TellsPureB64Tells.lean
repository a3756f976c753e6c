/- The signs of any bytes, the bytes of any signs, and how many signs any number of bytes has: the program's are the document's. -/
import Derived.Test.YtjmomhicemjilaaDoorZB64TellsM1
import Derived.Test.YtjmomhicemjilaaDoorZB64TellsBRef2
import Derived.Test.YtjmomhicemjilaaDoorZB64TellsBLive
set_option linter.unusedVariables false
set_option linter.unusedSimpArgs false
namespace Go.Proofs.YtjmomhicemjilaaDoor.Pure
open Go.RowKit Go.Proofs.YtjmomhicemjilaaDoor.P Go.Proofs.YtjmomhicemjilaaDoor.Pl Go.Proofs.YtjmomhicemjilaaDoorW.PrintWords Go.Proofs.YtjmomhicemjilaaDoorW.PrintLast
theorem sizes_same (n : Int) : ∃ z, b64_Size.f n = some z ∧ armadaref13_Size.f n = some z := by
  unfold b64_Size.f armadaref13_Size.f
  by_cases h : n < 0
  · exact ⟨_, by rw [if_pos h], by rw [if_pos h]⟩
  · by_cases h2 : n > 1099511627776
    · exact ⟨_, by rw [if_neg h, if_pos h2], by rw [if_neg h, if_pos h2]⟩
    · refine ⟨_, by rw [if_neg h, if_neg h2], ?_⟩
      rw [if_neg h, if_neg h2]
      have e : wrap64 (n + 2) = wrap64 (wrap64 (n + 3) - 1) := by rw [w64 (x := n + 2) (by omega) (by omega), w64 (x := n + 3) (by omega) (by omega), w64 (by omega) (by omega)]; omega
      rw [e]
theorem B64Tells : armadalaw13_B64Tells.Pure := by
  intro s t n _ _ _
  refine ⟨400000, ?_⟩
  unfold armadalaw13_B64Tells.f
  have key : ∀ b : Bool, (b = false → s.size ≤ 4000 ∧ t.size ≤ 4000) → armadalaw13_B64Tells.j0 400000 s t n b = some true := by
    intro b hb
    rw [armadalaw13_B64Tells.j0]
    cases b with
    | true => rw [if_pos rfl]; exact live_bind
    | false =>
      obtain ⟨hs, ht⟩ := hb rfl
      obtain ⟨r, hr, hd⟩ := Decode_spec t (by omega)
      obtain ⟨q, hq, hd2⟩ := refDecode_spec t ht 399999 (by omega)
      obtain ⟨x, hx, hbx, _⟩ := Encode_spec s (by omega)
      obtain ⟨y, hy, hby⟩ := refEncode_spec s hs 399999 (by omega)
      obtain ⟨z, hz1, hz2⟩ := sizes_same n
      have e1 := hd.uniq hd2
      subst e1
      have e2 : x = y := bs_inj (hbx.trans hby.symm)
      subst e2
      rw [if_neg (by decide), hr, Option.bind_some, hq, Option.bind_some, hx, Option.bind_some, hy, Option.bind_some, if_pos rfl, if_pos rfl, if_pos (by simp), hz1, Option.bind_some, hz2, Option.bind_some, if_pos rfl]
      exact live_bind
  by_cases h : (s.size : Int) > 4000
  · rw [if_pos h]; exact key true (by simp)
  · rw [if_neg h]; exact key _ (fun h2 => by have := of_decide_eq_false h2; omega)
end Go.Proofs.YtjmomhicemjilaaDoor.Pure
