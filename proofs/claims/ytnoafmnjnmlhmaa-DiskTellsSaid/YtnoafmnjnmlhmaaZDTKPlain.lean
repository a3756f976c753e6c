/- disk: what its functions and the document's ones tell, plainly. -/
import Derived.Test.YtnoafmnjnmlhmaaZDTM2
import Derived.Test.YtnoafmnjnmlhmaaZDTM0
import Derived.Test.YtnoafmnjnmlhmaaZDTM1
import Derived.Test.YtnoafmnjnmlhmaaZDTKFlush
import Derived.Test.YtnoafmnjnmlhmaaZDTKGet
import Derived.Test.YtnoafmnjnmlhmaaZDTKFilled
set_option linter.unusedVariables false
set_option linter.unusedSimpArgs false
namespace Go.Proofs.Ytnoafmnjnmlhmaa.P
open Go.RowKit Go.Proofs.YtnoafmnjnmlhmaaW.PrintWords Go.Proofs.YtnoafmnjnmlhmaaW.PrintLast Go.Proofs.YtnoafmnjnmlhmaaW.PrintMore
def isB (s : List ByteArray) (a : Int) : Bool := decide (0 ≤ a) && decide (a < (s.length : Int))
def fil (x : ByteArray) : ByteArray := x ++ zerosB (32 - x.size)
def putZ (s : List ByteArray) (c : List S27) (a : Int) (x : ByteArray) : List ByteArray × List S27 × Int :=
  if (mayB s c && isB s a) = true then (if x.size ≤ 32 then (s, c ++ [⟨a, fil x⟩], 0) else (s, c, 2)) else (s, c, 1)
def flushZ (s : List ByteArray) (c : List S27) : List ByteArray × List S27 × Int := if mayB s c = true then (wrt (fun _ => true) 0 c s, ([] : List S27), 0) else (s, c, 1)
def crashZ (s : List ByteArray) (c : List S27) (l : List Bool) : List ByteArray × List S27 × Int := if mayB s c = true then (wrt (keptB l) 0 c s, ([] : List S27), 0) else (s, c, 1)
theorem flush_f (s : List ByteArray) (c : List S27) : disk_Flush.f s c = some (flushZ s c) := by unfold disk_Flush.f flushZ; split <;> rfl
theorem crash_f (s : List ByteArray) (c : List S27) (l : List Bool) : disk_Crash.f s c l = some (crashZ s c l) := by unfold disk_Crash.f crashZ; split <;> rfl
theorem put_f (s : List ByteArray) (c : List S27) (a : Int) (x : ByteArray) (hs : s.length ≤ 9223372036854775807) (hc : c.length ≤ 1000000) (k : Nat) (hk : s.length + c.length + 10 ≤ k) : disk_Put.f k s c a x = some (putZ s c a x) := by
  obtain ⟨k, rfl⟩ : ∃ k', k = k' + 1 := ⟨k - 1, by omega⟩
  unfold disk_Put.f putZ
  rw [may_f s c hs (by omega) _ (by omega)]
  simp only [Option.bind_some]
  by_cases hm : mayB s c = true
  · rw [if_pos hm, is_f, hm, Bool.true_and]
    simp only [Option.bind_some]
    rw [disk_Put.j0]
    change (if (!isB s a) = true then _ else _) = _
    by_cases hi : isB s a = true
    · rw [hi, if_neg (by decide), if_pos rfl]
      by_cases hx : x.size ≤ 32
      · rw [if_neg (by omega), if_pos (by simp; omega), if_pos hx]
        simp only [Option.bind_some, List.nil_append]
        rw [show disk_filled.f x = some (fil x) from if_pos hx]
        simp only [Option.bind_some]
        rw [if_pos (by omega)]
      · rw [if_pos (by omega), if_neg hx]
    · rw [if_neg hi, if_pos (by simp [hi])]
  · rw [if_neg hm, disk_Put.j0, if_pos rfl, if_neg (by simp [hm])]
theorem zerosB_succ (n : Nat) : zerosB (n + 1) = (⟨#[0]⟩ : ByteArray) ++ zerosB n := by
  apply ByteArray.ext
  rw [ByteArray.data_append]
  apply Array.ext'
  rw [Array.toList_append]
  show List.replicate (n + 1) (0 : UInt8) = [0] ++ List.replicate n 0
  rw [List.replicate_succ]; rfl
theorem fill_l0 : ∀ (n : Nat) (x : ByteArray) (k : Nat), x.size ≤ 1000000 → n = 32 - x.size → n + 1 ≤ k → armadaref01_fill.l0 k x = some (x ++ zerosB n)
  | 0, x, k, hx, hn, hk => by
    obtain ⟨k, rfl⟩ : ∃ k', k = k' + 1 := ⟨k - 1, by omega⟩
    rw [armadaref01_fill.l0, if_neg (by omega)]
    congr 1
    apply ByteArray.ext
    rw [ByteArray.data_append]
    exact (Array.append_empty).symm
  | n + 1, x, k, hx, hn, hk => by
    obtain ⟨k, rfl⟩ : ∃ k', k = k' + 1 := ⟨k - 1, by omega⟩
    have hz : (x ++ (⟨#[0]⟩ : ByteArray)).size = x.size + 1 := by rw [ByteArray.size_append]; rfl
    rw [armadaref01_fill.l0, if_pos (by omega), if_pos (by omega), fill_l0 n _ k (by omega) (by omega) (by omega), zerosB_succ, ByteArray.append_assoc]
theorem fill_f (x : ByteArray) (hx : x.size ≤ 1000000) (k : Nat) (hk : 40 ≤ k) : armadaref01_fill.f k x = some (fil x) := fill_l0 _ x k hx rfl (by omega)
theorem rmay_l1 (s : List ByteArray) (c : List S27) (hc : c.length ≤ 1000000) : ∀ (r : List S27) (i k : Nat), c.drop i = r → i ≤ c.length → r.length + 2 ≤ k →
    armadaref01_May.l1 k (i : Int) s c = some (r.all (okW s.length) && (decide (1 ≤ s.length) && decide (s.length ≤ 512)))
  | [], i, k, hr, hi, hk => by
    obtain ⟨k, rfl⟩ : ∃ k', k = k' + 1 := ⟨k - 1, by omega⟩
    have : i = c.length := by have := List.drop_eq_nil_iff.1 hr; omega
    subst this
    rw [armadaref01_May.l1, if_neg (by omega), List.all_nil, Bool.true_and]
    by_cases h : 1 ≤ s.length
    · rw [if_pos (by omega), decide_eq_true h, Bool.true_and]; congr 1; exact decide_eq_decide.2 (by omega)
    · rw [if_neg (by omega), decide_eq_false h, Bool.false_and]
  | x :: r, i, k, hr, hi, hk => by
    obtain ⟨k, rfl⟩ : ∃ k', k = k' + 1 := ⟨k - 1, by omega⟩
    obtain ⟨hx, hlt, hd⟩ := rdW_drop hr
    have hk' : r.length + 2 ≤ k := by rw [List.length_cons] at hk; omega
    have ih := rmay_l1 s c hc r (i + 1) k hd (by omega) hk'
    rw [armadaref01_May.l1, if_pos (by omega), if_pos (by omega), hx, wsucc i (by omega), ih, List.all_cons]
    unfold okW
    by_cases h1 : x.f0 < 0
    · rw [if_pos h1, decide_eq_false (show ¬ (0 : Int) ≤ x.f0 by omega)]; simp
    · rw [if_neg h1, decide_eq_true (show (0 : Int) ≤ x.f0 by omega)]
      by_cases h2 : x.f0 ≥ (s.length : Int)
      · rw [if_pos h2, decide_eq_false (show ¬ x.f0 < (s.length : Int) by omega)]; simp
      · rw [if_neg h2, decide_eq_true (show x.f0 < (s.length : Int) by omega)]
        by_cases h3 : x.f1.size = 32
        · rw [if_pos (by omega)]; simp [h3]
        · rw [if_neg (by omega)]; simp [h3]
theorem rmay_l0 (s : List ByteArray) (c : List S27) (hs : s.length ≤ 1000000) (hc : c.length ≤ 1000000) : ∀ (r : List ByteArray) (i k : Nat), s.drop i = r → i ≤ s.length → r.length + c.length + 4 ≤ k →
    armadaref01_May.l0 k (i : Int) s c = some (r.all secB && (c.all (okW s.length) && (decide (1 ≤ s.length) && decide (s.length ≤ 512))))
  | [], i, k, hr, hi, hk => by
    obtain ⟨k, rfl⟩ : ∃ k', k = k' + 1 := ⟨k - 1, by omega⟩
    have : i = s.length := by have := List.drop_eq_nil_iff.1 hr; omega
    subst this
    have h1 := rmay_l1 s c hc c 0 k rfl (Nat.zero_le _) (by simp at hk; omega)
    rw [Int.natCast_zero] at h1
    rw [armadaref01_May.l0, if_neg (by omega), h1]; rfl
  | x :: r, i, k, hr, hi, hk => by
    obtain ⟨k, rfl⟩ : ∃ k', k = k' + 1 := ⟨k - 1, by omega⟩
    obtain ⟨hx, hlt, hd⟩ := rdOf_drop hr
    have hk' : r.length + c.length + 4 ≤ k := by rw [List.length_cons] at hk; omega
    have ih := rmay_l0 s c hs hc r (i + 1) k hd (by omega) hk'
    rw [armadaref01_May.l0, if_pos (by omega), if_pos (by omega), hx, wsucc i (by omega), ih, List.all_cons]
    unfold secB
    by_cases h3 : x.size = 32
    · rw [if_pos (by omega)]; simp [h3]
    · rw [if_neg (by omega)]; simp [h3]
theorem rmay_f (s : List ByteArray) (c : List S27) (hs : s.length ≤ 1000000) (hc : c.length ≤ 1000000) (k : Nat) (hk : s.length + c.length + 6 ≤ k) : armadaref01_May.f k s c = some (mayB s c) := by
  have h := rmay_l0 s c hs hc s 0 k rfl (Nat.zero_le _) (by omega)
  rw [Int.natCast_zero] at h
  unfold armadaref01_May.f mayB
  rw [h]
  congr 1
  cases s.all secB <;> cases c.all (okW s.length) <;> cases decide (1 ≤ s.length) <;> cases decide (s.length ≤ 512) <;> rfl
theorem rput_f (s : List ByteArray) (c : List S27) (a : Int) (x : ByteArray) (hs : s.length ≤ 1000000) (hc : c.length ≤ 1000000) (hx : x.size ≤ 1000000) (k : Nat) (hk : s.length + c.length + 50 ≤ k) : armadaref01_Put.f k s c a x = some (putZ s c a x) := by
  obtain ⟨k, rfl⟩ : ∃ k', k = k' + 1 := ⟨k - 1, by omega⟩
  unfold armadaref01_Put.f putZ
  rw [rmay_f s c hs hc _ (by omega)]
  simp only [Option.bind_some]
  by_cases hm : mayB s c = true
  · rw [if_pos hm, hm, Bool.true_and]
    have core : ∀ b : Bool, b = (!isB s a) → armadaref01_Put.j0 (k + 1) a x b s c = some (if isB s a = true then (if x.size ≤ 32 then (s, c ++ [⟨a, fil x⟩], 0) else (s, c, 2)) else (s, c, 1)) := by
      rintro b rfl
      rw [armadaref01_Put.j0]
      by_cases hi : isB s a = true
      · rw [hi, if_neg (by decide), if_pos rfl]
        by_cases h32 : x.size ≤ 32
        · rw [if_neg (by omega), if_pos h32]
          simp only [Option.bind_some, List.nil_append]
          rw [if_pos (by simp; omega)]
          try simp only [Option.bind_some]
          rw [fill_f x hx k (by omega)]
          simp only [Option.bind_some]
          rw [if_pos (by omega)]
        · rw [if_pos (by omega), if_neg h32]
      · rw [if_neg hi, if_pos (by simp [hi])]
    by_cases h0 : a < 0
    · rw [if_pos h0]; exact core true (by unfold isB; rw [decide_eq_false (show ¬ (0 : Int) ≤ a by omega)]; rfl)
    · rw [if_neg h0]; exact core _ (by unfold isB; rw [decide_eq_true (show (0 : Int) ≤ a by omega), Bool.true_and, ← decide_not]; exact decide_eq_decide.2 (by omega))
  · rw [if_neg hm, armadaref01_Put.j0, if_pos rfl, if_neg (by simp [hm])]
theorem rget_l0 (s : List ByteArray) (c : List S27) (a : Int) (hc : c.length ≤ 1000000) : ∀ (r : List S27) (i k : Nat) (z : ByteArray), c.drop i = r → i ≤ c.length → r.length + 2 ≤ k →
    armadaref01_Get.l0 k a z (i : Int) s c = some (lastW a r z, 0)
  | [], i, k, z, hr, hi, hk => by
    obtain ⟨k, rfl⟩ : ∃ k', k = k' + 1 := ⟨k - 1, by omega⟩
    have : i = c.length := by have := List.drop_eq_nil_iff.1 hr; omega
    subst this
    rw [armadaref01_Get.l0, if_neg (by omega)]; rfl
  | x :: r, i, k, z, hr, hi, hk => by
    obtain ⟨k, rfl⟩ : ∃ k', k = k' + 1 := ⟨k - 1, by omega⟩
    obtain ⟨hx, hlt, hd⟩ := rdW_drop hr
    have hk' : r.length + 2 ≤ k := by rw [List.length_cons] at hk; omega
    rw [armadaref01_Get.l0, if_pos (by omega), if_pos (by omega), hx, wsucc i (by omega), lastW]
    by_cases h : x.f0 = a
    · rw [if_pos h, if_pos h]; exact rget_l0 s c a hc r (i + 1) k _ hd (by omega) hk'
    · rw [if_neg h, if_neg h]; exact rget_l0 s c a hc r (i + 1) k _ hd (by omega) hk'
theorem rget_f (s : List ByteArray) (c : List S27) (a : Int) (hs : s.length ≤ 1000000) (hc : c.length ≤ 1000000) (k : Nat) (hk : s.length + c.length + 50 ≤ k) : armadaref01_Get.f k s c a = some (getZ s c a) := by
  obtain ⟨k, rfl⟩ : ∃ k', k = k' + 1 := ⟨k - 1, by omega⟩
  unfold armadaref01_Get.f getZ
  rw [rmay_f s c hs hc _ (by omega)]
  simp only [Option.bind_some]
  by_cases hm : mayB s c = true
  · rw [if_pos hm, hm, Bool.true_and]
    by_cases h0 : a < 0
    · rw [if_pos h0, armadaref01_Get.j0, if_pos rfl, if_neg (by simp; omega)]
    · rw [if_neg h0, armadaref01_Get.j0]
      by_cases h1 : a < (s.length : Int)
      · rw [if_neg (by simp; omega), if_pos (by omega), if_pos h1, if_pos (by simp; omega)]
        have h := rget_l0 s c a hc c 0 k (rdOf ByteArray.empty s a) rfl (Nat.zero_le _) (by omega)
        rw [Int.natCast_zero] at h
        exact h
      · rw [if_pos (by simp; omega), if_neg (by simp; omega)]
  · rw [if_neg hm, armadaref01_Get.j0, if_pos rfl, if_neg (by simp [hm])]
end Go.Proofs.Ytnoafmnjnmlhmaa.P
