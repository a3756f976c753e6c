/- LexTells: the words of any line, and the lines of any text. -/
import Derived.Test.YtonjofjdmlblfaaDoorZTM4
import Derived.Test.YtonjofjdmlblfaaDoorZTXTells
set_option linter.unusedVariables false
set_option linter.unusedSimpArgs false
namespace Go.Proofs.YtonjofjdmlblfaaDoor.Pure
open Go.RowKit Go.Proofs.YtonjofjdmlblfaaDoor.P Go.Proofs.YtonjofjdmlblfaaDoorW.PrintWords Go.Proofs.YtonjofjdmlblfaaDoorW.PrintLast Go.Proofs.YtonjofjdmlblfaaDoorW.PrintMore
theorem rd25_get (l : List S25) (i : Nat) (h : i < l.length) : rd_T25 l (i : Int) = l[i] := by
  unfold rd_T25
  rw [Int.toNat_natCast, List.getD_eq_getElem?_getD, List.getElem?_eq_getElem h]; rfl
theorem rd31_map (l : List S25) (i : Nat) (h : i < l.length) : rd_T31 (l.map cvl) (i : Int) = cvl l[i] := by
  unfold rd_T31
  rw [Int.toNat_natCast, List.getD_eq_getElem?_getD, List.getElem?_map, List.getElem?_eq_getElem h]; rfl
theorem tells_l0 (out : List S25) (ho : out.length ≤ 1000000) (N : Nat) (hN : N ≤ 1000000) (hx : ∀ x ∈ out, x.f0.length ≤ N) : ∀ (n i k : Nat), n + i = out.length → n + N + 40 ≤ k → armadalaw09_LexTells.l0 k out (out.map cvl) (i : Int) = some true
  | 0, i, k + 1, hn, hk => by
    rw [armadalaw09_LexTells.l0, if_neg (by omega), live_true (by omega)]; rfl
  | n + 1, i, k + 1, hn, hk => by
    have hi : i < out.length := by omega
    have e1 : wrap64 ((i : Int) + 1) = ((i + 1 : Nat) : Int) := by rw [w64 (by omega) (by omega)]; omega
    have hw := hx _ (List.getElem_mem hi)
    rw [armadalaw09_LexTells.l0, if_pos (by omega), if_pos (by omega), rd25_get _ _ hi, rd31_map _ _ hi, told_f _ _ (by omega) k (by omega)]
    simp only [Option.bind_some]
    rw [if_pos (by rw [List.length_map]; omega), same_f _ _ _ _ (by rfl) (by rfl) (by rw [List.length_map]; omega) k (by rw [List.length_map]; omega)]
    simp only [Option.bind_some]
    rw [if_pos trivial, e1]
    exact tells_l0 out ho N hN hx n (i + 1) k (by omega) (by omega)
theorem LexTells : armadalaw09_LexTells.Pure := by
  intro s hs0
  by_cases c : s.size ≤ 4000
  · obtain ⟨ws, note, e, h1, h2⟩ := one_some s (by omega)
    obtain ⟨out, m, e2, g1, g2, g3, g4⟩ := lines_all s (by omega)
    refine ⟨100000, ?_⟩
    unfold armadalaw09_LexTells.f
    rw [if_neg (by omega), h1]
    simp only [Option.bind_some]
    rw [ref_One s ws note e h1 100000 (by omega)]
    simp only [Option.bind_some]
    rw [g1 100000 (by omega)]
    simp only [Option.bind_some]
    rw [g2 100000 (by omega)]
    simp only [Option.bind_some]
    rw [told_f ws note (by omega) 100000 (by omega)]
    simp only [Option.bind_some]
    rw [same_f _ _ _ _ rfl rfl (by rw [List.length_map]; omega) 100000 (by rw [List.length_map]; omega)]
    simp only [Option.bind_some]
    rw [if_pos True.intro, if_pos True.intro, if_pos True.intro, if_pos True.intro, if_pos (by rw [List.length_map]), split_lns s (by omega)]
    simp only [Option.bind_some]
    rw [refsplit_lns s (by omega) 100000 (by omega)]
    simp only [Option.bind_some]
    have hl := lns_length s
    rw [same03_f _ _ rfl (by omega) 100000 (by omega)]
    simp only [Option.bind_some]
    rw [show (100000 : Nat) = 99999 + 1 from rfl, armadalaw09_LexTells.j0, if_neg (by simp)]
    exact tells_l0 out (by omega) s.size (by omega) g3 out.length 0 99999 (by omega) (by omega)
  · refine ⟨30, ?_⟩
    unfold armadalaw09_LexTells.f
    rw [if_pos (by omega), live_true (Nat.le_refl _)]
    rfl
end Go.Proofs.YtonjofjdmlblfaaDoor.Pure
