/- DiskRuns, plainly. -/
import Derived.Test.YtnoafmnjnmlhmaaZDRM5
import Derived.Test.YtnoafmnjnmlhmaaZDRKHelp
import Derived.Test.YtnoafmnjnmlhmaaZDRKRun
set_option linter.unusedVariables false
set_option linter.unusedSimpArgs false
namespace Go.Proofs.Ytnoafmnjnmlhmaa.Pure
open Go.RowKit Go.Proofs.YtnoafmnjnmlhmaaW.PrintWords Go.Proofs.YtnoafmnjnmlhmaaW.PrintLast Go.Proofs.YtnoafmnjnmlhmaaW.PrintMore Go.Proofs.Ytnoafmnjnmlhmaa.P
theorem step_len (s : List ByteArray) (c : List S27) (x : S49) : (stepZ s c x).1.length = s.length ∧ (stepZ s c x).2.1.length ≤ c.length + 1 := by
  unfold stepZ
  split
  · have := flush_len s c; exact ⟨this.1, by omega⟩
  · have := put_len s c x.f1 x.f2; exact ⟨by rw [this.1], this.2⟩
theorem runL_len (s0 : List ByteArray) (c0 : List S27) : ∀ (l : List S49) (s : List ByteArray) (c : List S27), s.length = s0.length → (runL s0 c0 l s c).1.length = s0.length ∧ (runL s0 c0 l s c).2.1.length ≤ c0.length + c.length + l.length
  | [], s, c, h => ⟨h, by show c.length ≤ c0.length + c.length + 0; omega⟩
  | x :: r, s, c, h => by
    rw [runL]
    have g := step_len s c x
    split
    · have := runL_len s0 c0 r _ (stepZ s c x).2.1 (g.1.trans h)
      rw [List.length_cons]; exact ⟨this.1, by omega⟩
    · rw [List.length_cons]; exact ⟨rfl, by show c0.length ≤ _; omega⟩
theorem runZ_len2 (s : List ByteArray) (c : List S27) (l : List S49) : (runZ s c l).1.length = s.length ∧ (runZ s c l).2.1.length ≤ c.length + c.length + l.length := by
  unfold runZ
  split
  · exact runL_len s c l s c rfl
  · exact ⟨rfl, by show c.length ≤ _; omega⟩
theorem fewB_lim {l : List S49} (h : fewB l = true) : l.length ≤ 200 ∧ ∀ x ∈ l, x.f2.size ≤ 100 := by
  unfold fewB at h
  simp only [Bool.and_eq_true, List.all_eq_true, decide_eq_true_eq] at h
  exact ⟨h.2, h.1⟩
theorem rj0 (k : Nat) (s : List ByteArray) (c : List S27) (l : List S49) (n : Int) (hs : s.length ≤ 600) (hc : c.length ≤ 200) (hl : l.length ≤ 200) (hlz : ∀ x ∈ l, x.f2.size ≤ 100) (hk : 6000 ≤ k) :
    armadalaw01_DiskRuns.j0 (k + 1) l n false s c = some true := by
  have f1 := runZ_len2 s c (l.take n.toNat)
  have f2 : (l.take n.toNat).length ≤ l.length := List.length_take_le' _ _
  rw [armadalaw01_DiskRuns.j0, if_neg (by decide), run_f s c l n (by omega) (by omega) (by omega) k (by omega)]
  simp only [Option.bind_some]
  rw [rrun_f s c l n (by omega) (by omega) (by omega) (fun x hx => Nat.le_trans (hlz x hx) (by omega)) k (by omega)]
  simp only [Option.bind_some]
  rw [rsame_self _ _ (by omega) (by omega) k (by omega)]
  simp only [Option.bind_some, if_true]
  rw [live_f k (by omega)]
  rfl
theorem rj0t (k : Nat) (s : List ByteArray) (c : List S27) (l : List S49) (n : Int) (hk : 6000 ≤ k) : armadalaw01_DiskRuns.j0 (k + 1) l n true s c = some true := by
  rw [armadalaw01_DiskRuns.j0, if_pos rfl, live_f k (by omega)]; rfl
theorem DiskRuns (s : List ByteArray) (c : List S27) (l : List S49) (n : Int) (hs : s.length ≤ 9223372036854775807) (hc : c.length ≤ 9223372036854775807) (hl : l.length ≤ 9223372036854775807) : ∃ k, armadalaw01_DiskRuns.f k s c l n = some true := by
  refine ⟨s.length + c.length + l.length + 6000 + 1, ?_⟩
  unfold armadalaw01_DiskRuns.f
  rw [small_f s c hs hc _ (by omega)]
  simp only [Option.bind_some]
  by_cases hm : smallB s c = true
  · obtain ⟨l1, l2, -, -⟩ := smallB_lim hm
    rw [if_pos hm, few_f l hl _ (by omega)]
    simp only [Option.bind_some]
    by_cases hf : fewB l = true
    · obtain ⟨l3, l4⟩ := fewB_lim hf
      rw [hf]; exact rj0 _ s c l n l1 l2 l3 l4 (by omega)
    · rw [Bool.eq_false_iff.mpr hf]; exact rj0t _ s c l n (by omega)
  · rw [if_neg hm]; exact rj0t _ s c l n (by omega)
end Go.Proofs.Ytnoafmnjnmlhmaa.Pure
