/- DiskParts, plainly. -/
import Derived.Test.YtnoafmnjnmlhmaaZDPM4
import Derived.Test.YtnoafmnjnmlhmaaZDPPureDiskRuns
set_option linter.unusedVariables false
set_option linter.unusedSimpArgs false
namespace Go.Proofs.Ytnoafmnjnmlhmaa.Pure
open Go.RowKit Go.Proofs.YtnoafmnjnmlhmaaW.PrintWords Go.Proofs.YtnoafmnjnmlhmaaW.PrintLast Go.Proofs.YtnoafmnjnmlhmaaW.PrintMore Go.Proofs.Ytnoafmnjnmlhmaa.P
/-- Acts in two parts. -/
theorem runL_split (s0 : List ByteArray) (c0 : List S27) (s1 : List ByteArray) (c1 : List S27) : ∀ (l m : List S49) (s : List ByteArray) (c : List S27),
    ((runL s0 c0 l s c).2.2 ≠ 0 → runL s0 c0 (l ++ m) s c = (s0, c0, (runL s0 c0 l s c).2.2)) ∧
    ((runL s0 c0 l s c).2.2 = 0 → runL s0 c0 (l ++ m) s c = runL s0 c0 m (runL s0 c0 l s c).1 (runL s0 c0 l s c).2.1)
  | [], m, s, c => ⟨fun h => absurd rfl h, fun _ => rfl⟩
  | x :: l, m, s, c => by
    rw [List.cons_append, runL, runL]
    by_cases h : (stepZ s c x).2.2 = 0
    · rw [if_pos h, if_pos h]; exact runL_split s0 c0 s1 c1 l m _ _
    · rw [if_neg h, if_neg h]; exact ⟨fun _ => rfl, fun h2 => absurd h2 h⟩
/-- Whatever is told at an error: the error is the same. -/
theorem runL_base (s0 : List ByteArray) (c0 : List S27) (s1 : List ByteArray) (c1 : List S27) : ∀ (l : List S49) (s : List ByteArray) (c : List S27),
    (runL s0 c0 l s c).2.2 = (runL s1 c1 l s c).2.2 ∧ ((runL s0 c0 l s c).2.2 = 0 → runL s0 c0 l s c = runL s1 c1 l s c) ∧ ((runL s0 c0 l s c).2.2 ≠ 0 → (runL s0 c0 l s c).1 = s0 ∧ (runL s0 c0 l s c).2.1 = c0)
  | [], s, c => ⟨rfl, fun _ => rfl, fun h => absurd rfl h⟩
  | x :: l, s, c => by
    rw [runL, runL]
    by_cases h : (stepZ s c x).2.2 = 0
    · rw [if_pos h, if_pos h]; exact runL_base s0 c0 s1 c1 l _ _
    · rw [if_neg h, if_neg h]; exact ⟨rfl, fun h2 => absurd h2 h, fun _ => ⟨rfl, rfl⟩⟩
theorem pj0t (k : Nat) (s : List ByteArray) (c : List S27) (l : List S49) (n : Int) (hk : 6000 ≤ k) : armadalaw01_DiskParts.j0 (k + 1) l n true s c = some true := by
  rw [armadalaw01_DiskParts.j0, if_pos rfl, live_f k (by omega)]; rfl
theorem flush_twice {s : List ByteArray} {c : List S27} (h : mayB s c = true) : flushZ (flushZ s c).1 (flushZ s c).2.1 = flushZ s c := by
  have h1 : flushZ s c = (wrt (fun _ => true) 0 c s, ([] : List S27), 0) := if_pos h
  rw [h1]
  unfold flushZ
  rw [if_pos (mayB_wrt h _)]; rfl
theorem pj0 (k : Nat) (s : List ByteArray) (c : List S27) (l : List S49) (n : Int) (hs : s.length ≤ 600) (hc : c.length ≤ 200) (hl : l.length ≤ 200) (hn0 : 0 ≤ n) (hn1 : n ≤ (l.length : Int)) (hk : 9000 ≤ k) :
    armadalaw01_DiskParts.j0 (k + 1) l n false s c = some true := by
  obtain ⟨n, rfl⟩ : ∃ m : Nat, n = (m : Int) := ⟨n.toNat, by omega⟩
  have hw : wrap64 ((l.length : Int) - (n : Int)) = ((l.length - n : Nat) : Int) := by unfold wrap64; omega
  have hd : (l.drop n).length = l.length - n := List.length_drop
  have ht : (l.take n).length ≤ l.length := List.length_take_le' _ _
  have e1 : l.take ((l.length : Int)).toNat = l := by rw [Int.toNat_natCast, List.take_of_length_le (Nat.le_refl _)]
  have e2 : (l.drop n).take (((l.length - n : Nat) : Int)).toNat = l.drop n := by rw [Int.toNat_natCast, List.take_of_length_le (by omega)]
  have fa := runZ_len2 s c l
  have fb := runZ_len2 s c (l.take n)
  rw [armadalaw01_DiskParts.j0, if_neg (by decide), run_f s c l _ (by omega) (by omega) (by omega) k (by omega), e1]
  simp only [Option.bind_some]
  rw [run_f s c l (n : Int) (by omega) (by omega) (by omega) k (by omega), Int.toNat_natCast]
  simp only [Option.bind_some]
  rw [if_pos hn0, if_pos hn1, hw]
  have fc := runZ_len2 (runZ s c (l.take n)).1 (runZ s c (l.take n)).2.1 (l.drop n)
  rw [run_f (runZ s c (l.take n)).1 (runZ s c (l.take n)).2.1 (l.drop n) _ (by omega) (by omega) (by omega) k (by omega), e2]
  simp only [Option.bind_some]
  have fin : ((armadalaw01_live.f k).bind fun t => some t) = some true := by rw [live_f k (by omega)]; rfl
  by_cases hm : mayB s c = true
  · have hall : runZ s c l = runL s c l s c := if_pos hm
    have hA : runZ s c (l.take n) = runL s c (l.take n) s c := if_pos hm
    obtain ⟨q1, q2⟩ := runL_split s c s c (l.take n) (l.drop n) s c
    rw [List.take_append_drop] at q1 q2
    by_cases ha : (runL s c (l.take n) s c).2.2 = 0
    · have hq := q2 ha
      obtain ⟨g1, g2, g3⟩ := runZ_len s c (l.take n) s c hm ha
      have hB : runZ (runZ s c (l.take n)).1 (runZ s c (l.take n)).2.1 (l.drop n) = runL (runZ s c (l.take n)).1 (runZ s c (l.take n)).2.1 (l.drop n) (runZ s c (l.take n)).1 (runZ s c (l.take n)).2.1 := by
        rw [hA]; exact if_pos g1
      rw [hA] at hB fc fb ⊢
      rw [hB] at fc ⊢
      obtain ⟨r1, r2, r3⟩ := runL_base s c (runL s c (l.take n) s c).1 (runL s c (l.take n) s c).2.1 (l.drop n) (runL s c (l.take n) s c).1 (runL s c (l.take n) s c).2.1
      rw [← hq, ← hall] at r1 r2 r3
      by_cases he : (runZ s c l).2.2 = 0
      · rw [if_pos he, flush_f]
        simp only [Option.bind_some]
        rw [flush_f]
        simp only [Option.bind_some]
        have hmay : mayB (runZ s c l).1 (runZ s c l).2.1 = true := by
          have := runZ_len s c l s c hm (by rw [← hall]; exact he)
          rw [hall]; exact this.1
        have ff := flush_len (runZ s c l).1 (runZ s c l).2.1
        rw [if_pos ha, if_pos (r1 ▸ he), ← r2 he, rsame_self _ _ (by omega) (by omega) k (by omega)]
        simp only [Option.bind_some, if_true]
        rw [flush_twice hmay, rsame_self _ _ (by omega) (by omega) k (by omega)]
        simp only [Option.bind_some, if_true]
        exact fin
      · obtain ⟨z1, z2⟩ := r3 he
        rw [if_neg he, if_pos ha, if_neg (r1 ▸ he), z1, z2, rsame_self s c (by omega) (by omega) k (by omega)]
        simp only [Option.bind_some, if_true]
        exact fin
    · have hq := q1 ha
      rw [hA, hall, hq]
      simp only []
      rw [if_neg ha, if_neg ha, rsame_self s c (by omega) (by omega) k (by omega)]
      simp only [Option.bind_some, if_true]
      exact fin
  · have hall : runZ s c l = (s, c, 1) := if_neg hm
    have hA : runZ s c (l.take n) = (s, c, 1) := if_neg hm
    rw [hall, hA]
    simp only []
    rw [if_neg (by decide), if_neg (by decide), rsame_self s c (by omega) (by omega) k (by omega)]
    simp only [Option.bind_some, if_true]
    exact fin
theorem DiskParts (s : List ByteArray) (c : List S27) (l : List S49) (n : Int) (hs : s.length ≤ 9223372036854775807) (hc : c.length ≤ 9223372036854775807) (hl : l.length ≤ 9223372036854775807) : ∃ k, armadalaw01_DiskParts.f k s c l n = some true := by
  refine ⟨s.length + c.length + l.length + 9000 + 1, ?_⟩
  unfold armadalaw01_DiskParts.f
  rw [small_f s c hs hc _ (by omega)]
  simp only [Option.bind_some]
  by_cases hm : smallB s c = true
  · obtain ⟨l1, l2, -, -⟩ := smallB_lim hm
    rw [if_pos hm, few_f l hl _ (by omega)]
    simp only [Option.bind_some]
    by_cases hf : fewB l = true
    · obtain ⟨l3, l4⟩ := fewB_lim hf
      rw [if_pos hf]
      by_cases h0 : n < 0
      · rw [if_pos h0]; exact pj0t _ s c l n (by omega)
      · rw [if_neg h0]
        by_cases h1 : n ≤ (l.length : Int)
        · rw [decide_eq_false (by omega)]; exact pj0 _ s c l n l1 l2 l3 (by omega) h1 (by omega)
        · rw [decide_eq_true (by omega)]; exact pj0t _ s c l n (by omega)
    · rw [if_neg hf]; exact pj0t _ s c l n (by omega)
  · rw [if_neg hm]; exact pj0t _ s c l n (by omega)
end Go.Proofs.Ytnoafmnjnmlhmaa.Pure
