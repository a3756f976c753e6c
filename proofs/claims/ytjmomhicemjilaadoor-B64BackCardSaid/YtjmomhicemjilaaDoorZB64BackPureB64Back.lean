/- What is encoded is decoded, and has as many signs as told; signs that are some bytes' are encoded of them; joined behind a number of bytes that three divides signs are those of both. -/
import Derived.Test.YtjmomhicemjilaaDoorZB64BackM1
import Derived.Test.YtjmomhicemjilaaDoorZB64BackBSpec
import Derived.Test.YtjmomhicemjilaaDoorZB64BackBLive
set_option linter.unusedVariables false
set_option linter.unusedSimpArgs false
namespace Go.Proofs.YtjmomhicemjilaaDoor.Pure
open Go.RowKit Go.Proofs.YtjmomhicemjilaaDoor.P Go.Proofs.YtjmomhicemjilaaDoor.Pl Go.Proofs.YtjmomhicemjilaaDoorW.PrintWords Go.Proofs.YtjmomhicemjilaaDoorW.PrintLast
theorem toList_bs {a b : ByteArray} (h : bs a = bs b) : a.toList = b.toList := by rw [bs_inj h]
theorem Size_spec (n : Nat) (h : n ≤ 4000) : b64_Size.f (n : Int) = some ((4 * ((n + 2) / 3) : Nat) : Int) := by
  unfold b64_Size.f
  rw [if_neg (by omega), if_neg (by omega), w64 (x := (n : Int) + 3) (by omega) (by omega), w64 (x := (n : Int) + 3 - 1) (by omega) (by omega), tdiv_pos (by omega), w64 (x := _ / 3) (by omega) (by omega), w64 (by omega) (by omega)]
  congr 1
  omega
theorem strOfNums_bs (s : ByteArray) : strOfNums (bs s) = s := bs_inj (bs_strOfNums _ (bs_range s))
theorem Decode_of (t : ByteArray) (s : ByteArray) (h : t.size ≤ 70000000000000) (e : bs t = encP (bs s)) : b64_Decode.f t = some (s, true) := by
  obtain ⟨r, hr, hd⟩ := Decode_spec t h
  rw [hr, hd.uniq (Or.inl ⟨bs s, bs_range s, e, rfl⟩), strOfNums_bs]
theorem back_j2 (s t e : ByteArray) (hs : s.size ≤ 4000) (ht : t.size ≤ 4000) (he : bs e = encP (bs s)) (k : Nat) (hk : 0 < k) : armadalaw13_B64Back.j2 k s t e false = some true := by
  obtain ⟨k, rfl⟩ : ∃ m, k = m + 1 := ⟨k - 1, by omega⟩
  rw [armadalaw13_B64Back.j2, if_neg (by decide)]
  by_cases h : ((s.size : Int) % 3) = 0
  · obtain ⟨x, hx, hbx, hzx⟩ := Encode_spec (s ++ t) (by rw [ByteArray.size_append]; omega)
    obtain ⟨y, hy, hby, hzy⟩ := Encode_spec t (by omega)
    have hez : e.size ≤ 20000 := by
      have := congrArg List.length he
      rw [bs_length, encP_length, bs_length] at this
      omega
    rw [if_pos h, if_pos (by omega), hx, Option.bind_some, hy, Option.bind_some, if_pos (by omega), if_pos (toList_bs (by rw [bs_append, hbx, hby, he, bs_append, encP_append _ _ (by rw [bs_length]; omega)]))]
    exact live_bind
  · rw [if_neg h]; exact live_bind
theorem B64Back : armadalaw13_B64Back.Pure := by
  intro s t _ _
  refine ⟨4, ?_⟩
  unfold armadalaw13_B64Back.f
  have key : ∀ b : Bool, (b = false → s.size ≤ 4000 ∧ t.size ≤ 4000) → armadalaw13_B64Back.j0 4 s t b = some true := by
    intro b hb
    rw [armadalaw13_B64Back.j0]
    cases b with
    | true => rw [if_pos rfl]; exact live_bind
    | false =>
      obtain ⟨hs, ht⟩ := hb rfl
      obtain ⟨e, he, hbe, hze⟩ := Encode_spec s (by omega)
      rw [if_neg (by decide), he, Option.bind_some, Decode_of e s (by omega) hbe, Option.bind_some, if_pos rfl, if_pos rfl, Size_spec s.size hs, Option.bind_some, hze]
      rw [show ((((4 * ((s.size + 2) / 3) : Nat) : Nat) : Int) != ((4 * ((s.size + 2) / 3) : Nat) : Int)) = false by simp]
      rw [armadalaw13_B64Back.j1, if_neg (by decide)]
      obtain ⟨r, hr, hd⟩ := Decode_spec t (by omega)
      rw [hr, Option.bind_some]
      rcases hd with ⟨l, hl, e1, rfl⟩ | ⟨_, rfl⟩
      · have hln : l.length ≤ 4000 := by
          have := congrArg List.length e1
          rw [bs_length, encP_length] at this
          omega
        obtain ⟨y, hy, hby, _⟩ := Encode_spec (strOfNums l) (by rw [Pl.strOfNums_size]; omega)
        rw [bs_strOfNums l hl] at hby
        rw [if_pos rfl, hy, Option.bind_some, show (y.toList != t.toList) = false by rw [toList_bs (hby.trans e1.symm)]; simp]
        exact back_j2 s t e hs ht hbe 2 (by omega)
      · rw [if_neg (by simp)]
        exact back_j2 s t e hs ht hbe 2 (by omega)
  by_cases h : (s.size : Int) > 4000
  · rw [if_pos h]; exact key true (by simp)
  · rw [if_neg h]; exact key _ (fun h2 => by have := of_decide_eq_false h2; omega)
end Go.Proofs.YtjmomhicemjilaaDoor.Pure
