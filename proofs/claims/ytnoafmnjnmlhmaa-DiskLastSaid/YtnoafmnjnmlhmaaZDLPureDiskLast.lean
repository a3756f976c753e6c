/- DiskLast, plainly. -/
import Derived.Test.YtnoafmnjnmlhmaaZDLM4
import Derived.Test.YtnoafmnjnmlhmaaZDLKHelp
import Derived.Test.YtnoafmnjnmlhmaaZDLKRun
set_option linter.unusedVariables false
set_option linter.unusedSimpArgs false
namespace Go.Proofs.Ytnoafmnjnmlhmaa.Pure
open Go.RowKit Go.Proofs.YtnoafmnjnmlhmaaW.PrintWords Go.Proofs.YtnoafmnjnmlhmaaW.PrintLast Go.Proofs.YtnoafmnjnmlhmaaW.PrintMore Go.Proofs.Ytnoafmnjnmlhmaa.P
theorem last_l0 (s : List ByteArray) (c : List S27) (hs : s.length ≤ 600) (hc : c.length ≤ 300) (hm : mayB s c = true) (k0 : Nat) (hk0 : 2000 ≤ k0) : ∀ (m i k : Nat), i + m = c.length → m + k0 + 2 ≤ k →
    armadalaw01_DiskLast.l0 k (List.replicate i true) (i : Int) s c = some true
  | 0, i, k, hi, hk => by
    obtain ⟨k, rfl⟩ : ∃ k', k = k' + 1 := ⟨k - 1, by omega⟩
    have : i = c.length := by omega
    subst this
    have hfl : flushZ s c = (wrt (fun _ => true) 0 c s, ([] : List S27), 0) := if_pos hm
    have hlen := wrt_length (fun _ => true) c 0 s
    rw [armadalaw01_DiskLast.l0, if_neg (by omega), crash_f, crash_all s c _ (Nat.le_refl _)]
    simp only [Option.bind_some]
    rw [flush_f]
    simp only [Option.bind_some]
    rw [hfl]
    simp only [if_true]
    rw [rsame_self _ _ (by omega) (by simp) k (by simp; omega)]
    simp only [Option.bind_some, if_true]
    rw [live_f k (by omega)]; rfl
  | m + 1, i, k, hi, hk => by
    obtain ⟨k, rfl⟩ : ∃ k', k = k' + 1 := ⟨k - 1, by omega⟩
    rw [armadalaw01_DiskLast.l0, if_pos (by omega), if_pos (by rw [List.length_replicate]; omega), wsucc i (by omega)]
    rw [show List.replicate i true ++ [true] = List.replicate (i + 1) true from (List.replicate_succ').symm]
    exact last_l0 s c hs hc hm k0 hk0 m (i + 1) k (by omega) (by omega)
theorem fil_extract {x : ByteArray} : (fil x).extract 0 x.size = x := by
  unfold fil
  apply ByteArray.ext
  rw [ByteArray.data_extract, ByteArray.data_append]
  apply Array.ext'
  have hz : x.data.toList.length = x.size := by rw [Array.length_toList]; rfl
  rw [Array.toList_extract, Array.toList_append, List.extract_eq_take_drop, List.drop_zero, Nat.sub_zero, List.take_append_of_le_length (by omega), List.take_of_length_le (by omega)]
theorem last_j0 (k : Nat) (s : List ByteArray) (c : List S27) (a : Int) (x : ByteArray) (b : Int) (hs : s.length ≤ 600) (hc : c.length ≤ 200) (hx : x.size ≤ 100) (hk : 4100 ≤ k) :
    armadalaw01_DiskLast.j0 (k + 1) b false s c a x = some true := by
  obtain ⟨k, rfl⟩ : ∃ k', k = k' + 3 := ⟨k - 3, by omega⟩
  rw [armadalaw01_DiskLast.j0, if_neg (by decide), put_f s c a x (by omega) (by omega) _ (by omega)]
  simp only [Option.bind_some]
  by_cases he : (putZ s c a x).2.2 = 0
  · rw [if_pos he]
    have hp : mayB s c = true ∧ isB s a = true ∧ x.size ≤ 32 := by
      unfold putZ at he
      by_cases hi : (mayB s c && isB s a) = true
      · rw [if_pos hi] at he
        rw [Bool.and_eq_true] at hi
        by_cases h32 : x.size ≤ 32
        · exact ⟨hi.1, hi.2, h32⟩
        · rw [if_neg h32] at he; exact absurd he (by simp)
      · rw [if_neg hi] at he; exact absurd he (by simp)
    obtain ⟨hm, hi, h32⟩ := hp
    have hpe : putZ s c a x = (s, c ++ [⟨a, fil x⟩], 0) := by
      unfold putZ
      rw [hm, hi, Bool.true_and, if_pos rfl, if_pos h32]
    have hmw : mayB s (c ++ [⟨a, fil x⟩]) = true := mayB_put hm hi h32
    have hwl : (c ++ [(⟨a, fil x⟩ : S27)]).length = c.length + 1 := by simp
    have hga : getZ s (c ++ [⟨a, fil x⟩]) a = (fil x, 0) := by
      unfold getZ
      rw [hmw, Bool.true_and]
      change (if isB s a = true then _ else _) = _
      rw [if_pos hi, lastW_append, P.lastW, P.lastW, if_pos rfl]
    rw [hpe]
    simp only []
    rw [get_f, hga]
    simp only [Option.bind_some]
    rw [if_pos trivial, if_pos (by rw [fil_size h32]; rfl), if_pos (by omega), if_pos (by rw [fil_size h32]; omega), Int.toNat_natCast, fil_extract, bne_self_eq_false, armadalaw01_DiskLast.j1, if_neg (by decide), get_f]
    simp only [Option.bind_some]
    rw [get_f]
    simp only [Option.bind_some]
    have h2 : (getZ s c b).2 = (getZ s (c ++ [⟨a, fil x⟩]) b).2 := by
      unfold getZ
      rw [hm, hmw]
      split <;> rfl
    have fin : ∀ q : Bool, q = false → armadalaw01_DiskLast.j2 (k + 2) q s (c ++ [⟨a, fil x⟩]) = some true := by
      rintro q rfl
      rw [armadalaw01_DiskLast.j2, if_neg (by decide)]
      have h := last_l0 s (c ++ [⟨a, fil x⟩]) hs (by omega) hmw 2000 (by omega) (c.length + 1) 0 (k + 1) (by omega) (by omega)
      rw [Int.natCast_zero] at h
      exact h
    rw [if_pos h2]
    by_cases hb : b = a
    · rw [if_pos hb]; exact fin false rfl
    · rw [if_neg hb]
      refine fin _ ?_
      have h1 : (getZ s c b).1 = (getZ s (c ++ [⟨a, fil x⟩]) b).1 := by
        unfold getZ
        rw [hm, hmw]
        split
        · rw [lastW_append, P.lastW, P.lastW, if_neg (fun h => hb h.symm)]
        · rfl
      rw [h1, bne_self_eq_false]
  · rw [if_neg he]
    have hpe : (putZ s c a x).1 = s ∧ (putZ s c a x).2.1 = c := by
      unfold putZ at he ⊢
      split
      · split
        · rename_i h1 h2; rw [if_pos h1, if_pos h2] at he; exact absurd rfl he
        · exact ⟨rfl, rfl⟩
      · exact ⟨rfl, rfl⟩
    rw [hpe.1, hpe.2, rsame_self s c (by omega) (by omega) _ (by omega)]
    simp only [Option.bind_some, if_true]
    rw [live_f _ (by omega)]; rfl
theorem last_j0t (k : Nat) (s : List ByteArray) (c : List S27) (a : Int) (x : ByteArray) (b : Int) (hk : 4100 ≤ k) : armadalaw01_DiskLast.j0 (k + 1) b true s c a x = some true := by
  rw [armadalaw01_DiskLast.j0, if_pos rfl, live_f k (by omega)]; rfl
theorem DiskLast (s : List ByteArray) (c : List S27) (a : Int) (x : ByteArray) (b : Int) (hs : s.length ≤ 9223372036854775807) (hc : c.length ≤ 9223372036854775807) : ∃ k, armadalaw01_DiskLast.f k s c a x b = some true := by
  refine ⟨s.length + c.length + 4200 + 1, ?_⟩
  unfold armadalaw01_DiskLast.f
  rw [small_f s c hs hc _ (by omega)]
  simp only [Option.bind_some]
  by_cases hm : smallB s c = true
  · obtain ⟨l1, l2, -, -⟩ := smallB_lim hm
    rw [if_pos hm]
    by_cases hx : x.size ≤ 100
    · rw [decide_eq_false (by omega)]; exact last_j0 _ s c a x b l1 l2 hx (by omega)
    · rw [decide_eq_true (by omega)]; exact last_j0t _ s c a x b (by omega)
  · rw [if_neg hm]; exact last_j0t _ s c a x b (by omega)
end Go.Proofs.Ytnoafmnjnmlhmaa.Pure
