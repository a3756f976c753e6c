/- lex: the document's Lines are the program's Lines; a line told is the same. -/
import Derived.Test.YtonjofjdmlblfaaDoorZTXSp
import Derived.Test.YtonjofjdmlblfaaDoorZTXStands
import Derived.Test.YtonjofjdmlblfaaDoorZTXLive
import Derived.Test.YtonjofjdmlblfaaDoorZTM3
import Derived.Test.YtonjofjdmlblfaaDoorZTM0
set_option linter.unusedVariables false
set_option linter.unusedSimpArgs false
namespace Go.Proofs.YtonjofjdmlblfaaDoor.P
open Go.RowKit Go.Proofs.YtonjofjdmlblfaaDoorW.PrintWords Go.Proofs.YtonjofjdmlblfaaDoorW.PrintLast Go.Proofs.YtonjofjdmlblfaaDoorW.PrintMore
theorem row_len {s : ByteArray} : ∀ {p : Nat} {l : List S47} {q : Nat}, Row s p l q → l.length + p ≤ q
  | p, [], q, h => by obtain rfl : p = q := h; simp
  | p, w :: l, q, ⟨a, b, g1, g2, g3, g4, g5, g6⟩ => by have := row_len g6; rw [List.length_cons]; omega
theorem one_some (x : ByteArray) (hx : x.size ≤ 1000000) : ∃ ws note e, lex_One.f x = some (ws, note, e) ∧ ws.length ≤ x.size := by
  unfold lex_One.f
  rw [if_pos hx]
  by_cases c : anyOdd x x.size 0 = true
  · rw [if_pos c]; exact ⟨_, _, _, rfl, by simp⟩
  · rw [if_neg c]
    obtain ⟨q, r, h1, h2, h3, _, _⟩ := scan_all x
    exact ⟨_, _, _, rfl, by have := row_len h1; omega⟩
def cvl (x : S25) : S31 := ⟨x.f0.map cv, x.f1⟩
theorem rdOf_get (d : ByteArray) (l : List ByteArray) (i : Nat) (h : i < l.length) : rdOf d l (i : Int) = l[i] := by
  unfold rdOf
  rw [Int.toNat_natCast, List.getD_eq_getElem?_getD, List.getElem?_eq_getElem h]; rfl
theorem lines_both (l : List ByteArray) (hl : l.length ≤ 1000000) (N : Nat) (hN : N ≤ 1000000) (hsz : ∀ x ∈ l, x.size ≤ N) : ∀ (n i : Nat) (acc : List S25), n + i = l.length → acc.length = i → (∀ x ∈ acc, x.f0.length ≤ N) →
    ∃ out m e, (∀ k, n + 1 ≤ k → lex_Lines.l0 k acc l (l.length : Int) (i : Int) = some (out, m, e)) ∧ (∀ k, n + 1 + 4 * N + 11 ≤ k → armadaref09_Lines.l0 k (acc.map cvl) l (i : Int) = some (out.map cvl, m, e)) ∧ (∀ x ∈ out, x.f0.length ≤ N) ∧ out.length ≤ l.length
  | 0, i, acc, hn, ha, hx => by
    refine ⟨acc, (l.length : Int), 0, fun k hk => ?_, fun k hk => ?_, hx, by omega⟩
    · obtain ⟨k, rfl⟩ : ∃ k', k = k' + 1 := ⟨k - 1, by omega⟩
      rw [lex_Lines.l0, if_neg (by omega), show acc.length = l.length by omega]
    · obtain ⟨k, rfl⟩ : ∃ k', k = k' + 1 := ⟨k - 1, by omega⟩
      rw [armadaref09_Lines.l0, if_neg (by omega)]
  | n + 1, i, acc, hn, ha, hx => by
    have hi : i < l.length := by omega
    have e1 : wrap64 ((i : Int) + 1) = ((i + 1 : Nat) : Int) := by rw [w64 (by omega) (by omega)]; omega
    have hs : (l[i]).size ≤ N := hsz _ (List.getElem_mem hi)
    obtain ⟨ws, note, e, h1, h2⟩ := one_some l[i] (by omega)
    by_cases ce : e = 0
    · subst ce
      obtain ⟨out, m, e, g1, g2, g3, g4⟩ := lines_both l hl N hN hsz n (i + 1) (acc ++ [⟨ws, note⟩]) (by omega) (by rw [List.length_append, ha]; rfl) (by
        intro x hxm
        rcases List.mem_append.1 hxm with h | h
        · exact hx x h
        · rw [List.mem_singleton] at h; subst h; exact Nat.le_trans h2 hs)
      refine ⟨out, m, e, fun k hk => ?_, fun k hk => ?_, g3, g4⟩
      · obtain ⟨k, rfl⟩ : ∃ k', k = k' + 1 := ⟨k - 1, by omega⟩
        rw [lex_Lines.l0, if_pos (by omega), if_pos (by omega), if_pos (by omega), rdOf_get _ _ _ hi, h1]
        simp only [Option.bind_some]
        rw [if_pos True.intro, if_pos (by omega), e1]
        exact g1 k (by omega)
      · obtain ⟨k, rfl⟩ : ∃ k', k = k' + 1 := ⟨k - 1, by omega⟩
        rw [armadaref09_Lines.l0, if_pos (by omega), if_pos (by omega), rdOf_get _ _ _ hi, ref_One _ _ _ _ h1 k (by omega)]
        simp only [Option.bind_some]
        rw [if_pos True.intro, if_pos (by rw [List.length_map]; omega), e1]
        have := g2 k (by omega)
        rw [List.map_append] at this
        exact this
    · refine ⟨[], (i : Int), e, fun k hk => ?_, fun k hk => ?_, by simp, by simp⟩
      · obtain ⟨k, rfl⟩ : ∃ k', k = k' + 1 := ⟨k - 1, by omega⟩
        rw [lex_Lines.l0, if_pos (by omega), if_pos (by omega), if_pos (by omega), rdOf_get _ _ _ hi, h1]
        simp only [Option.bind_some]
        rw [if_neg ce]
      · obtain ⟨k, rfl⟩ : ∃ k', k = k' + 1 := ⟨k - 1, by omega⟩
        rw [armadaref09_Lines.l0, if_pos (by omega), if_pos (by omega), rdOf_get _ _ _ hi, ref_One _ _ _ _ h1 k (by omega)]
        simp only [Option.bind_some]
        rw [if_neg ce]; rfl
theorem lines_all (s : ByteArray) (hs : s.size ≤ 100000) : ∃ out m e, (∀ k, s.size + 3 ≤ k → lex_Lines.f k s = some (out, m, e)) ∧ (∀ k, 10 * s.size + 20 ≤ k → armadaref09_Lines.f k s = some (out.map cvl, m, e)) ∧ (∀ x ∈ out, x.f0.length ≤ s.size) ∧ out.length ≤ s.size + 1 := by
  have hl := lns_length s
  obtain ⟨out, m, e, g1, g2, g3, g4⟩ := lines_both (lns s) (by omega) s.size (by omega) (lns_sizes s) (lns s).length 0 [] (by omega) rfl (by simp)
  refine ⟨out, m, e, fun k hk => ?_, fun k hk => ?_, g3, by omega⟩
  · unfold lex_Lines.f
    rw [split_lns s (by omega)]
    simp only [Option.bind_some]
    exact g1 k (by omega)
  · unfold armadaref09_Lines.f
    rw [refsplit_lns s (by omega) k (by omega)]
    simp only [Option.bind_some]
    exact g2 k (by omega)
theorem rd47_get (l : List S47) (i : Nat) (h : i < l.length) : rd_T47 l (i : Int) = l[i] := by
  unfold rd_T47
  rw [Int.toNat_natCast, List.getD_eq_getElem?_getD, List.getElem?_eq_getElem h]; rfl
theorem told_l0 (ws : List S47) (note note2 : ByteArray) (hw : ws.length ≤ 1000000) : ∀ (n i k : Nat) (acc : List S58), n + i = ws.length → acc.length = i → n + 1 ≤ k → armadalaw09_told.l0 k (i : Int) ws note acc note2 = some (acc ++ (ws.drop i).map cv, note2)
  | 0, i, k + 1, acc, hn, ha, hk => by
    rw [armadalaw09_told.l0, if_neg (by omega), List.drop_of_length_le (by omega)]; simp
  | n + 1, i, k + 1, acc, hn, ha, hk => by
    have hi : i < ws.length := by omega
    have e1 : wrap64 ((i : Int) + 1) = ((i + 1 : Nat) : Int) := by rw [w64 (by omega) (by omega)]; omega
    rw [armadalaw09_told.l0, if_pos (by omega), if_pos (by omega), if_pos (by omega), rd47_get _ _ hi, e1, told_l0 ws note note2 hw n (i + 1) k _ (by omega) (by rw [List.length_append, ha]; rfl) (by omega), List.drop_eq_getElem_cons hi, List.append_assoc]
    rfl
theorem told_f (ws : List S47) (note : ByteArray) (hw : ws.length ≤ 1000000) (k : Nat) (hk : ws.length + 1 ≤ k) : armadalaw09_told.f k ws note = some (ws.map cv, note) := by
  unfold armadalaw09_told.f
  have := told_l0 ws note note hw ws.length 0 k [] (by omega) rfl hk
  exact this
theorem same_l0 (A B : List S58) (a b : ByteArray) (h : A = B) (hw : A.length ≤ 1000000) : ∀ (n i k : Nat), n + i = A.length → n + 1 ≤ k → armadaref09_Same.l0 k (i : Int) A a B b = some true
  | 0, i, k + 1, hn, hk => by rw [armadaref09_Same.l0, if_neg (by omega)]
  | n + 1, i, k + 1, hn, hk => by
    have e1 : wrap64 ((i : Int) + 1) = ((i + 1 : Nat) : Int) := by rw [w64 (by omega) (by omega)]; omega
    have e2 : B.length = A.length := by rw [h]
    rw [armadaref09_Same.l0, if_pos (by omega), if_pos (by omega), if_pos (by omega), e1, if_neg (by subst h; simp)]
    exact same_l0 A B a b h hw n (i + 1) k (by omega) (by omega)
theorem same_f (A B : List S58) (a b : ByteArray) (h : A = B) (hab : a = b) (hw : A.length ≤ 1000000) (k : Nat) (hk : A.length + 2 ≤ k) : armadaref09_Same.f k A a B b = some true := by
  subst hab h
  obtain ⟨k, rfl⟩ : ∃ k', k = k' + 1 := ⟨k - 1, by omega⟩
  unfold armadaref09_Same.f
  rw [if_pos rfl, armadaref09_Same.j0, if_neg (by simp)]
  exact same_l0 A A a a rfl hw A.length 0 k (by omega) (by omega)
theorem same03_l0 (A B : List ByteArray) (h : A = B) (hw : A.length ≤ 1000000) : ∀ (n i k : Nat), n + i = A.length → n + 1 ≤ k → armadaref03_Same.l0 k A B (i : Int) = some true
  | 0, i, k + 1, hn, hk => by rw [armadaref03_Same.l0, if_neg (by omega)]
  | n + 1, i, k + 1, hn, hk => by
    have e1 : wrap64 ((i : Int) + 1) = ((i + 1 : Nat) : Int) := by rw [w64 (by omega) (by omega)]; omega
    have e2 : B.length = A.length := by rw [h]
    rw [armadaref03_Same.l0, if_pos (by omega), if_pos (by omega), if_pos (by omega), if_pos (by subst h; rfl), e1]
    exact same03_l0 A B h hw n (i + 1) k (by omega) (by omega)
theorem same03_f (A B : List ByteArray) (h : A = B) (hw : A.length ≤ 1000000) (k : Nat) (hk : A.length + 1 ≤ k) : armadaref03_Same.f k A B = some true := by
  unfold armadaref03_Same.f
  rw [if_pos (by rw [h])]
  exact same03_l0 A B h hw A.length 0 k (by omega) hk
end Go.Proofs.YtonjofjdmlblfaaDoor.P
