/- Signs that are cut behind a group are bytes' signs, if they are not padded: those bytes' beginning. -/
import Derived.Test.YtjmomhicemjilaaDoorZB64CutM1
import Derived.Test.YtjmomhicemjilaaDoorZB64CutBSpec
import Derived.Test.YtjmomhicemjilaaDoorZB64CutBLive
set_option linter.unusedVariables false
set_option linter.unusedSimpArgs false
namespace Go.Proofs.YtjmomhicemjilaaDoor.Pure
open Go.RowKit Go.Proofs.YtjmomhicemjilaaDoor.P Go.Proofs.YtjmomhicemjilaaDoor.Pl Go.Proofs.YtjmomhicemjilaaDoorW.PrintWords Go.Proofs.YtjmomhicemjilaaDoorW.PrintLast
theorem cutDecode (t : ByteArray) (l : List Int) (h : t.size ≤ 70000000000000) (hl : InB l) (e : bs t = encP l) : b64_Decode.f t = some (strOfNums l, true) := by
  obtain ⟨r, hr, hd⟩ := Decode_spec t h
  rw [hr, hd.uniq (Or.inl ⟨l, hl, e, rfl⟩)]
theorem B64Cut : armadalaw13_B64Cut.Pure := by
  intro s g _ _
  refine ⟨4, ?_⟩
  unfold armadalaw13_B64Cut.f
  have key : ∀ b : Bool, (b = false → s.size ≤ 2000 ∧ 0 ≤ g ∧ g ≤ (s.size : Int) / 3) → armadalaw13_B64Cut.j0 4 s g b = some true := by
    intro b hb
    rw [armadalaw13_B64Cut.j0]
    cases b with
    | true => rw [if_pos rfl]; exact live_bind
    | false =>
      obtain ⟨hs, h0, h1⟩ := hb rfl
      obtain ⟨n, rfl⟩ := Int.eq_ofNat_of_zero_le h0
      have hn : 3 * n ≤ s.size := by omega
      obtain ⟨e, he, hbe, hze⟩ := Encode_spec s (by omega)
      have hw : wrap64 (4 * (n : Int)) = ((4 * n : Nat) : Int) := by rw [w64 (by omega) (by omega)]; omega
      have hw3 : wrap64 (3 * (n : Int)) = ((3 * n : Nat) : Int) := by rw [w64 (by omega) (by omega)]; omega
      have hsplit : bs e = encP ((bs s).take (3 * n)) ++ encP ((bs s).drop (3 * n)) := by
        rw [hbe, ← encP_append _ _ (by rw [List.length_take, bs_length]; omega), List.take_append_drop]
      have hlen : (encP ((bs s).take (3 * n))).length = 4 * n := by rw [encP_length, List.length_take, bs_length]; omega
      have hA : bs (e.extract 0 (4 * n)) = encP ((bs s).take (3 * n)) := by
        rw [bs_extract, List.drop_zero, hsplit, ← hlen, List.take_left]
      have hB : bs (e.extract (4 * n) e.size) = encP ((bs s).drop (3 * n)) := by
        rw [bs_extract, List.take_of_length_le (by rw [bs_length]; omega), hsplit, ← hlen, List.drop_left]
      have i1 : InB ((bs s).take (3 * n)) := fun c hc => bs_range s c (List.mem_of_mem_take hc)
      have i2 : InB ((bs s).drop (3 * n)) := fun c hc => bs_range s c (List.mem_of_mem_drop hc)
      rw [if_neg (by decide), he, Option.bind_some, hw, if_neg (by omega), if_pos (by omega), if_pos (by omega), Int.toNat_natCast, cutDecode _ _ (by rw [ByteArray.size_extract]; omega) i1 hA, Option.bind_some, cutDecode _ _ (by rw [ByteArray.size_extract]; omega) i2 hB, Option.bind_some, if_pos rfl, if_pos rfl]
      rw [Pl.strOfNums_size, Pl.strOfNums_size, List.length_take, List.length_drop, bs_length, if_pos (by omega), if_pos (by
        have : strOfNums ((bs s).take (3 * n)) ++ strOfNums ((bs s).drop (3 * n)) = s := by
          apply bs_inj
          rw [bs_append, bs_strOfNums _ i1, bs_strOfNums _ i2, List.take_append_drop]
        show (strOfNums ((bs s).take (3 * n)) ++ strOfNums ((bs s).drop (3 * n))).toList = s.toList
        rw [this]), hw3, if_pos (by omega)]
      exact live_bind
  by_cases h : (s.size : Int) > 2000
  · rw [if_pos h]; exact key true (by simp)
  · rw [if_neg h]
    by_cases h2 : g < 0
    · rw [if_pos h2]; exact key true (by simp)
    · rw [if_neg h2, w64 (by omega) (by omega)]; exact key _ (fun h3 => by have := of_decide_eq_false h3; omega)
end Go.Proofs.YtjmomhicemjilaaDoor.Pure
