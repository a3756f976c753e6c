/- LexStands: each word stands where it says; blanks alone between. -/
import Derived.Test.YtonjofjdmlblfaaDoorZLexStandsM2
import Derived.Test.YtonjofjdmlblfaaDoorZLexStandsXBlank
import Derived.Test.YtonjofjdmlblfaaDoorZLexStandsXLive
set_option linter.unusedVariables false
set_option linter.unusedSimpArgs false
namespace Go.Proofs.YtonjofjdmlblfaaDoor.Pure
open Go.RowKit Go.Proofs.YtonjofjdmlblfaaDoor.P Go.Proofs.YtonjofjdmlblfaaDoorW.PrintWords Go.Proofs.YtonjofjdmlblfaaDoorW.PrintLast Go.Proofs.YtonjofjdmlblfaaDoorW.PrintMore
theorem rd_drop {W : List S47} {x : Nat} {w : S47} {rest : List S47} (h : W.drop x = w :: rest) : rd_T47 W (x : Int) = w ∧ x < W.length ∧ W.drop (x + 1) = rest := by
  have h1 : W[x]? = some w := by
    have := congrArg (fun l => l[0]?) h
    simpa using this
  refine ⟨?_, ?_, ?_⟩
  · unfold rd_T47
    rw [Int.toNat_natCast, List.getD_eq_getElem?_getD, h1]; rfl
  · exact (List.getElem?_eq_some_iff.1 h1).1
  · rw [← List.tail_drop, h]; rfl
theorem row_len {s : ByteArray} : ∀ {p : Nat} {l : List S47} {q : Nat}, Row s p l q → l.length + p ≤ q
  | p, [], q, h => by obtain rfl : p = q := h; simp
  | p, w :: l, q, ⟨a, b, g1, g2, g3, g4, g5, g6⟩ => by have := row_len g6; rw [List.length_cons]; omega
theorem stands_l0 (s : ByteArray) (hs : s.size ≤ 4000) (W : List S47) (hW : W.length ≤ 1000000) (q r : Nat) (hq : q ≤ r) (hr : r ≤ s.size) (hb : blanks s q r) : ∀ (l : List S47) (p x k : Nat), W.drop x = l → Row s p l q → l.length + 4100 ≤ k →
    armadalaw09_LexStands.l0 k s (p : Int) (x : Int) W (s.extract r s.size) = some true
  | [], p, x, k + 1, hd, hrow, hk => by
    obtain rfl : p = q := hrow
    have hx : W.length ≤ x := by rw [List.drop_eq_nil_iff] at hd; exact hd
    have hz : (s.extract r s.size).size = s.size - r := by rw [ByteArray.size_extract]; omega
    have e1 : Aside0 (wrap64 ((s.size : Int) - (p : Int)) = (s.size : Int) - (p : Int)) := ⟨w64 (by omega) (by omega)⟩
    have e2 : Aside0 (wrap64 ((s.size : Int) - ((s.size - r : Nat) : Int)) = (r : Int)) := ⟨by rw [w64 (by omega) (by omega)]; omega⟩
    rw [armadalaw09_LexStands.l0, if_neg (by omega), hz, e1.out, e2.out, if_neg (by omega), if_pos (by omega), if_pos (by omega), Int.toNat_natCast, if_pos rfl, if_pos (by omega), if_pos (by omega), Int.toNat_natCast, blank_ext s (by omega) p r k hr hb (by simp at hk; omega), live_true (by simp at hk; omega)]
    rfl
  | w :: l, p, x, k + 1, hd, hrow, hk => by
    obtain ⟨a, b, g1, g2, g3, g4, g5, g6⟩ := hrow
    obtain ⟨h1, h2, h3⟩ := rd_drop hd
    subst g4
    have hz : (s.extract a b).size = b - a := by rw [ByteArray.size_extract]; omega
    have e1 : Aside0 (wrap64 ((s.size : Int) - (a : Int)) = (s.size : Int) - (a : Int)) := ⟨w64 (by omega) (by omega)⟩
    have e2 : Aside0 (wrap64 ((a : Int) + ((b - a : Nat) : Int)) = (b : Int)) := ⟨by rw [w64 (by omega) (by omega)]; omega⟩
    have e3 : Aside0 (wrap64 ((x : Int) + 1) = ((x + 1 : Nat) : Int)) := ⟨by rw [w64 (by omega) (by omega)]; omega⟩
    have hne : (s.extract a b).toList ≠ ([] : List UInt8) := by
      intro h
      rw [ByteArray.toList_eq] at h
      have h5 : (s.extract a b).data.toList.length = (s.extract a b).size := by rw [Array.length_toList]; rfl
      rw [h, hz] at h5
      simp at h5; omega
    rw [armadalaw09_LexStands.l0, if_pos (by omega), if_pos (by omega), h1]
    simp only []
    rw [hz, e1.out, e2.out, e3.out, if_neg (by omega), if_neg (by omega), if_neg (by omega), if_neg hne, if_pos (by omega), if_pos (by omega), if_pos (by omega), Int.toNat_natCast, Int.toNat_natCast, if_pos rfl, if_pos (by omega), if_pos (by omega), if_pos (by omega), Int.toNat_natCast,
      blank_ext s (by omega) p a k (by omega) g5 (by simp at hk; omega)]
    simp only [Option.bind_some, if_true]
    exact stands_l0 s hs W hW q r hq hr hb l b (x + 1) k h3 g6 (by simp at hk; omega)
theorem LexStands : armadalaw09_LexStands.Pure := by
  intro a0 h0
  by_cases c : a0.size ≤ 4000
  · obtain ⟨q, r, h1, h2, h3, h4, h5⟩ := scan_all a0
    refine ⟨(scan a0 a0.size 0 [] (-1)).1.length + 4200, ?_⟩
    unfold armadalaw09_LexStands.f
    rw [if_neg (by omega)]
    unfold lex_One.f
    rw [if_pos (by omega)]
    by_cases co : anyOdd a0 a0.size 0 = true
    · rw [if_pos co]
      simp only [Option.bind_some]
      rw [if_neg (by decide), if_pos (by rfl), if_pos (by rw [ByteArray.toList_eq]), live_true (by omega)]
      rfl
    · rw [if_neg co]
      simp only [Option.bind_some]
      rw [if_pos True.intro, h5]
      exact stands_l0 a0 c _ (by have := row_len h1; omega) q r h2 h3 h4 (scan a0 a0.size 0 [] (-1)).1 0 0 _ rfl h1 (by omega)
  · refine ⟨30, ?_⟩
    unfold armadalaw09_LexStands.f
    rw [if_pos (by omega), live_true (Nat.le_refl _)]
    rfl
end Go.Proofs.YtonjofjdmlblfaaDoor.Pure
