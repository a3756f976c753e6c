/- DiskTells, plainly. -/
import Derived.Test.YtnoafmnjnmlhmaaZDTM4
import Derived.Test.YtnoafmnjnmlhmaaZDTKHelp
set_option linter.unusedVariables false
set_option linter.unusedSimpArgs false
namespace Go.Proofs.Ytnoafmnjnmlhmaa.Pure
open Go.RowKit Go.Proofs.YtnoafmnjnmlhmaaW.PrintWords Go.Proofs.YtnoafmnjnmlhmaaW.PrintLast Go.Proofs.YtnoafmnjnmlhmaaW.PrintMore Go.Proofs.Ytnoafmnjnmlhmaa.P
theorem j1 (k : Nat) (s : List ByteArray) (c : List S27) (a : Int) (x : ByteArray) (l : List Bool) (s' : List ByteArray) (c' : List S27) (hs : s.length ≤ 600) (hc : c.length ≤ 200) (hk : 3000 ≤ k) :
    armadalaw01_DiskTells.j1 (k + 1) l false s c a x s' c' = some true := by
  have f1 := flush_len s c
  have f2 := crash_len s c l
  have f3 := new_len a
  rw [armadalaw01_DiskTells.j1, if_neg (by decide), flush_f]
  simp only [Option.bind_some]
  rw [rflush_f s c (by omega) (by omega) k (by omega)]
  simp only [Option.bind_some]
  rw [crash_f]
  simp only [Option.bind_some]
  rw [rcrash_f s c l (by omega) (by omega) k (by omega)]
  simp only [Option.bind_some]
  rw [new_f]
  simp only [Option.bind_some]
  rw [rnew_f a k (by omega)]
  simp only [Option.bind_some]
  rw [rsame_self _ _ (by omega) (by omega) k (by omega)]
  simp only [Option.bind_some, if_true]
  rw [rsame_self _ _ (by omega) (by omega) k (by omega)]
  simp only [Option.bind_some, if_true]
  rw [rsame_self _ _ (by omega) (by omega) k (by omega)]
  simp only [Option.bind_some, if_true, beq_self_eq_true]
  rw [same_f s c s' c' (by omega) (by omega) k (by omega)]
  simp only [Option.bind_some]
  rw [rsame_f s c s' c' (by omega) (by omega) k (by omega)]
  simp only [Option.bind_some, if_true, beq_self_eq_true]
  rw [live_f k (by omega)]
  rfl
theorem j0 (k : Nat) (s : List ByteArray) (c : List S27) (a : Int) (x : ByteArray) (l : List Bool) (hs : s.length ≤ 600) (hc : c.length ≤ 200) (hx : x.size ≤ 100) (hk : 3100 ≤ k) :
    armadalaw01_DiskTells.j0 (k + 1) l false s c a x = some true := by
  obtain ⟨k, rfl⟩ : ∃ k', k = k' + 1 := ⟨k - 1, by omega⟩
  have f1 := put_len s c a x
  rw [armadalaw01_DiskTells.j0, if_neg (by decide), put_f s c a x (by omega) (by omega) _ (by omega)]
  simp only [Option.bind_some]
  rw [rput_f s c a x (by omega) (by omega) (by omega) _ (by omega)]
  simp only [Option.bind_some]
  rw [get_f]
  simp only [Option.bind_some]
  rw [rget_f s c a (by omega) (by omega) _ (by omega)]
  simp only [Option.bind_some]
  rw [rsame_self _ _ (by rw [f1.1]; omega) (by omega) _ (by rw [f1.1]; omega)]
  simp only [Option.bind_some, if_true]
  rw [may_f s c (by omega) (by omega) _ (by omega)]
  simp only [Option.bind_some]
  rw [rmay_f s c (by omega) (by omega) _ (by omega)]
  simp only [Option.bind_some]
  rw [bne_self_eq_false]
  exact j1 k s c a x l _ _ hs hc (by omega)
theorem j0t (k : Nat) (s : List ByteArray) (c : List S27) (a : Int) (x : ByteArray) (l : List Bool) (hk : 3100 ≤ k) :
    armadalaw01_DiskTells.j0 (k + 1) l true s c a x = some true := by
  rw [armadalaw01_DiskTells.j0, if_pos rfl, live_f k (by omega)]; rfl
theorem DiskTells (s : List ByteArray) (c : List S27) (a : Int) (x : ByteArray) (l : List Bool) (hs : s.length ≤ 9223372036854775807) (hc : c.length ≤ 9223372036854775807) : ∃ k, armadalaw01_DiskTells.f k s c a x l = some true := by
  refine ⟨s.length + c.length + 3200 + 1, ?_⟩
  unfold armadalaw01_DiskTells.f
  rw [small_f s c hs hc _ (by omega)]
  simp only [Option.bind_some]
  by_cases hm : smallB s c = true
  · obtain ⟨l1, l2, -, -⟩ := smallB_lim hm
    rw [if_pos hm]
    by_cases hx : x.size ≤ 100
    · rw [if_neg (by omega)]
      by_cases hl : l.length ≤ 1000
      · rw [decide_eq_false (by omega)]; exact j0 _ s c a x l l1 l2 hx (by omega)
      · rw [decide_eq_true (by omega)]; exact j0t _ s c a x l (by omega)
    · rw [if_pos (by omega)]; exact j0t _ s c a x l (by omega)
  · rw [if_neg hm]; exact j0t _ s c a x l (by omega)
end Go.Proofs.Ytnoafmnjnmlhmaa.Pure
