/- DiskKeeps, plainly. -/
import Derived.Test.YtnoafmnjnmlhmaaZDKM4
import Derived.Test.YtnoafmnjnmlhmaaZDKKHelp
import Derived.Test.YtnoafmnjnmlhmaaZDKKRun
set_option linter.unusedVariables false
set_option linter.unusedSimpArgs false
namespace Go.Proofs.Ytnoafmnjnmlhmaa.Pure
open Go.RowKit Go.Proofs.YtnoafmnjnmlhmaaW.PrintWords Go.Proofs.YtnoafmnjnmlhmaaW.PrintLast Go.Proofs.YtnoafmnjnmlhmaaW.PrintMore Go.Proofs.Ytnoafmnjnmlhmaa.P
theorem rd_nat (l : List ByteArray) (i : Nat) : rdOf ByteArray.empty l (i : Int) = l.getD i ByteArray.empty := by unfold rdOf; rw [Int.toNat_natCast]
theorem rd_set (l : List ByteArray) (a i : Nat) (x : ByteArray) (h : i < l.length) : rdOf ByteArray.empty (l.set a x) (i : Int) = if a = i then x else rdOf ByteArray.empty l (i : Int) := by
  rw [rd_nat, rd_nat, List.getD_eq_getElem?_getD, List.getElem?_set]
  by_cases e : a = i
  · subst e; rw [if_pos rfl, if_pos rfl]; simp [h]
  · rw [if_neg e, if_neg e, List.getD_eq_getElem?_getD]
/-- A disk with one write: what it has at a place. -/
theorem get_one {row : List ByteArray} {a : Int} {z : ByteArray} (hm : mayB row [⟨a, z⟩] = true) (i : Nat) (hi : i < row.length) : (getZ row [⟨a, z⟩] (i : Int)).1 = if a = (i : Int) then z else rdOf ByteArray.empty row (i : Int) := by
  unfold getZ
  rw [if_pos (by rw [hm]; simp; omega)]
  rfl
theorem keeps_l0 (row : List ByteArray) (a : Int) (x z : ByteArray) (keep : Bool) (k0 : Nat) (hk0 : 60 ≤ k0) (hm : mayB row [⟨a, z⟩] = true) (hr : row.length ≤ 512) : ∀ (m i k : Nat), i + m = row.length → m + k0 + 2 ≤ k →
    armadalaw01_DiskKeeps.l0 k keep (i : Int) a x row [] row [⟨a, z⟩] (if keep = true then row.set a.toNat z else row) [] = some true
  | 0, i, k, hi, hk => by
    obtain ⟨k, rfl⟩ : ∃ k', k = k' + 1 := ⟨k - 1, by omega⟩
    have hl : ((if keep = true then row.set a.toNat z else row).length : Int) = row.length := by split <;> simp
    rw [armadalaw01_DiskKeeps.l0, hl, if_neg (by omega), live_f k (by omega)]; rfl
  | m + 1, i, k, hi, hk => by
    obtain ⟨k, rfl⟩ : ∃ k', k = k' + 1 := ⟨k - 1, by omega⟩
    have hl : ((if keep = true then row.set a.toNat z else row).length : Int) = row.length := by split <;> simp
    have ih := keeps_l0 row a x z keep k0 hk0 hm hr m (i + 1) k (by omega) (by omega)
    have hg := get_one hm i (by omega)
    obtain ⟨w0, w1, -⟩ := mayB_wr hm ⟨a, z⟩ List.mem_cons_self
    replace w0 : 0 ≤ a := w0
    replace w1 : a < (row.length : Int) := w1
    cases keep with
    | true =>
      simp only [if_true] at ih ⊢
      have hl2 : ((row.set a.toNat z).length : Int) = row.length := by simp
      rw [armadalaw01_DiskKeeps.l0, hl2, if_pos (by omega), get_f]
      simp only [Option.bind_some, if_true]
      have hi0 : (0 : Int) ≤ (i : Int) := by omega
      rw [hg, wsucc i (by omega), if_pos hi0, rd_set row a.toNat i z (by omega)]
      by_cases e : a = (i : Int)
      · have e2 : a.toNat = i := by omega
        rw [if_pos e2, if_pos e, if_pos rfl, if_pos e.symm]
        exact ih
      · have e2 : ¬ a.toNat = i := by omega
        rw [if_neg e2, if_neg e, if_pos rfl, if_neg (fun h => e h.symm), if_pos (by omega), if_pos rfl]
        exact ih
    | false =>
      simp only [Bool.false_eq_true, if_false] at ih ⊢
      rw [armadalaw01_DiskKeeps.l0, if_pos (by omega), get_f]
      simp only [Option.bind_some, Bool.false_eq_true, if_false]
      have hi0 : (0 : Int) ≤ (i : Int) := by omega
      rw [hg, wsucc i (by omega), if_pos hi0, if_pos (by omega)]
      try simp only [if_true]
      by_cases e : a = (i : Int)
      · rw [if_pos e.symm]; exact ih
      · rw [if_neg (fun h => e h.symm), if_neg e, if_pos rfl]; exact ih
theorem keeps_j0 (k : Nat) (s : List ByteArray) (c : List S27) (a : Int) (x : ByteArray) (keep : Bool) (hs : s.length ≤ 600) (hc : c.length ≤ 200) (hx : x.size ≤ 100) (hm : mayB s c = true) (hk : 3100 ≤ k) :
    armadalaw01_DiskKeeps.j0 (k + 1) keep false s c a x = some true := by
  obtain ⟨k, rfl⟩ : ∃ k', k = k' + 2 := ⟨k - 2, by omega⟩
  have hfl : flushZ s c = (wrt (fun _ => true) 0 c s, ([] : List S27), 0) := if_pos hm
  have hrow := mayB_wrt hm (fun _ => true)
  have hlen := wrt_length (fun _ => true) c 0 s
  rw [armadalaw01_DiskKeeps.j0, if_neg (by decide), flush_f, hfl]
  simp only [Option.bind_some]
  generalize wrt (fun _ => true) 0 c s = row at *
  rw [put_f row [] a x (by omega) (by simp) _ (by simp; omega)]
  simp only [Option.bind_some]
  have h0 : ((0 : Int) != 0) = false := rfl
  simp only [List.length_nil, Int.natCast_zero, h0, if_true]
  have hr : row.length ≤ 512 := (mayB_sec hrow).2.1
  rw [armadalaw01_DiskKeeps.j1, if_neg (by decide)]
  by_cases he : (putZ row [] a x).2.2 = 0
  · rw [if_pos he]
    have hp : isB row a = true ∧ x.size ≤ 32 := by
      unfold putZ at he
      rw [hrow, Bool.true_and] at he
      by_cases hi : isB row a = true
      · rw [if_pos hi] at he
        by_cases h32 : x.size ≤ 32
        · exact ⟨hi, h32⟩
        · rw [if_neg h32] at he; exact absurd he (by simp)
      · rw [if_neg hi] at he; exact absurd he (by simp)
    have hpe : putZ row [] a x = (row, [⟨a, fil x⟩], 0) := by
      unfold putZ
      rw [hrow, Bool.true_and, if_pos hp.1, if_pos hp.2]; rfl
    have hmw : mayB row [⟨a, fil x⟩] = true := mayB_put hrow hp.1 hp.2
    rw [hpe]
    have hcr : crashZ row [⟨a, fil x⟩] [keep] = ((if keep = true then row.set a.toNat (fil x) else row), ([] : List S27), 0) := by
      unfold crashZ
      rw [if_pos hmw, wrt, wrt]
      cases keep <;> rfl
    rw [crash_f, hcr]
    simp only [Option.bind_some]
    have hl : ((if keep = true then row.set a.toNat (fil x) else row).length : Int) = row.length := by split <;> simp
    rw [if_pos trivial, if_pos hl, armadalaw01_DiskKeeps.j2]
    simp only [List.length_nil, Int.natCast_zero, h0]
    rw [if_neg (by decide)]
    have h := keeps_l0 row a x (fil x) keep 60 (by omega) hmw hr row.length 0 k (by omega) (by omega)
    rw [Int.natCast_zero] at h
    exact h
  · rw [if_neg he]
    have hpe : (putZ row [] a x).1 = row ∧ (putZ row [] a x).2.1 = [] := by
      unfold putZ at he ⊢
      split
      · split
        · rename_i h1 h2; rw [if_pos h1, if_pos h2] at he; exact absurd rfl he
        · exact ⟨rfl, rfl⟩
      · exact ⟨rfl, rfl⟩
    rw [hpe.1, hpe.2, rsame_self row [] (by omega) (by simp) _ (by simp; omega)]
    simp only [Option.bind_some, if_true]
    rw [live_f _ (by omega)]; rfl
theorem keeps_j0t (k : Nat) (s : List ByteArray) (c : List S27) (a : Int) (x : ByteArray) (keep : Bool) (hk : 3100 ≤ k) : armadalaw01_DiskKeeps.j0 (k + 1) keep true s c a x = some true := by
  rw [armadalaw01_DiskKeeps.j0, if_pos rfl, live_f k (by omega)]; rfl
theorem DiskKeeps (s : List ByteArray) (c : List S27) (a : Int) (x : ByteArray) (keep : Bool) (hs : s.length ≤ 9223372036854775807) (hc : c.length ≤ 9223372036854775807) : ∃ k, armadalaw01_DiskKeeps.f k s c a x keep = some true := by
  refine ⟨s.length + c.length + 3200 + 1, ?_⟩
  unfold armadalaw01_DiskKeeps.f
  rw [small_f s c hs hc _ (by omega)]
  simp only [Option.bind_some]
  by_cases hm : smallB s c = true
  · obtain ⟨l1, l2, -, -⟩ := smallB_lim hm
    rw [if_pos hm]
    by_cases hx : x.size ≤ 100
    · rw [if_neg (by omega), may_f s c hs hc _ (by omega)]
      simp only [Option.bind_some]
      by_cases hmay : mayB s c = true
      · rw [hmay]; exact keeps_j0 _ s c a x keep l1 l2 hx hmay (by omega)
      · rw [Bool.eq_false_iff.mpr hmay]; exact keeps_j0t _ s c a x keep (by omega)
    · rw [if_pos (by omega)]; exact keeps_j0t _ s c a x keep (by omega)
  · rw [if_neg hm]; exact keeps_j0t _ s c a x keep (by omega)
end Go.Proofs.Ytnoafmnjnmlhmaa.Pure
