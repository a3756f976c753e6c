/- LexLines: lines, with a byte 10 behind each, are the lines of that text. -/
import Derived.Test.YtonjofjdmlblfaaDoorZLM3
import Derived.Test.YtonjofjdmlblfaaDoorZLPureLexRemarks
set_option linter.unusedVariables false
set_option linter.unusedSimpArgs false
namespace Go.Proofs.YtonjofjdmlblfaaDoor.Pure
open Go.RowKit Go.Proofs.YtonjofjdmlblfaaDoor.P Go.Proofs.YtonjofjdmlblfaaDoorW.PrintWords Go.Proofs.YtonjofjdmlblfaaDoorW.PrintLast Go.Proofs.YtonjofjdmlblfaaDoorW.PrintMore
def nl : ByteArray := ⟨#[10]⟩
def joinr : List ByteArray → ByteArray
  | [] => ⟨#[]⟩
  | x :: l => x ++ (nl ++ joinr l)
def good (x : ByteArray) : Prop := x.size ≤ 300 ∧ ∀ j : Nat, j < x.size → bt x (j : Int) ≠ 10
theorem nl_size : nl.size = 1 := rfl
theorem ext_mid (a x b : ByteArray) : (a ++ (x ++ b)).extract a.size (a.size + x.size) = x := by
  apply tl_inj
  have hz : a.data.toList.length = a.size := by rw [Array.length_toList]; rfl
  have hx : x.data.toList.length = x.size := by rw [Array.length_toList]; rfl
  rw [ByteArray.data_extract, ByteArray.data_append, ByteArray.data_append, Array.toList_extract, Array.toList_append, Array.toList_append, List.extract_eq_take_drop]
  rw [← hz, List.drop_left, Nat.add_sub_cancel_left, ← hx, List.take_left]
theorem empty_app (x : ByteArray) : (⟨#[]⟩ : ByteArray) ++ x = x := by
  apply tl_inj
  rw [ByteArray.data_append]; simp
theorem app_empty (x : ByteArray) : x ++ (⟨#[]⟩ : ByteArray) = x := by
  apply tl_inj
  rw [ByteArray.data_append]; simp
theorem sp_join : ∀ (l : List ByteArray) (a : ByteArray), (∀ x ∈ l, good x) → sp (a ++ joinr l) (joinr l).size a.size a.size = l ++ [⟨#[]⟩]
  | [], a, _ => by
    show [(a ++ joinr []).extract a.size (a ++ joinr []).size] = _
    have hz : ((a ++ joinr []).extract a.size (a ++ joinr []).size).size = 0 := by rw [ByteArray.size_extract, ByteArray.size_append, show (joinr []).size = 0 from rfl]; omega
    rw [ByteArray.size_eq_zero_iff.1 hz]; rfl
  | x :: l, a, h => by
    have hg := h x (by simp)
    have hT : a ++ joinr (x :: l) = (a ++ x ++ nl) ++ joinr l := by rw [joinr, ByteArray.append_assoc, ByteArray.append_assoc]
    have hz : (a ++ joinr (x :: l)).size = a.size + x.size + 1 + (joinr l).size := by rw [hT, ByteArray.size_append, ByteArray.size_append, ByteArray.size_append, nl_size]
    have hz2 : (joinr (x :: l)).size = x.size + 1 + (joinr l).size := by rw [joinr, ByteArray.size_append, ByteArray.size_append, nl_size]; omega
    have hb : bt (a ++ joinr (x :: l)) ((a.size + x.size : Nat) : Int) = 10 := by
      have := bt_right a (joinr (x :: l)) x.size (by omega)
      rw [this, joinr]
      have h2 := bt_right x (nl ++ joinr l) 0 (by rw [ByteArray.size_append, nl_size]; omega)
      rw [Nat.add_zero] at h2
      rw [h2, bt_left _ _ 0 (by rw [nl_size]; omega)]; rfl
    rw [sp_first (a ++ joinr (x :: l)) (a.size + x.size) (by omega) hb (joinr (x :: l)).size a.size a.size (by omega) (by omega) (fun m h1 h2 => by
      obtain ⟨i, rfl⟩ : ∃ i, m = a.size + i := ⟨m - a.size, by omega⟩
      rw [bt_right a _ i (by omega), joinr, bt_left _ _ i (by omega)]
      exact hg.2 i (by omega))]
    have hx : (a ++ joinr (x :: l)).extract a.size (a.size + x.size) = x := ext_mid a x _
    have ih := sp_join l (a ++ x ++ nl) (fun y hy => h y (by simp [hy]))
    have hs : (a ++ x ++ nl).size = a.size + x.size + 1 := by rw [ByteArray.size_append, ByteArray.size_append, nl_size]
    rw [hs] at ih
    rw [hx, show (a ++ joinr (x :: l)).size - (a.size + x.size + 1) = (joinr l).size by omega, hT, ih]; rfl
theorem sp_joinr (l : List ByteArray) (h : ∀ x ∈ l, good x) : sp (joinr l) (joinr l).size 0 0 = l ++ [⟨#[]⟩] := by
  have := sp_join l ⟨#[]⟩ h
  rw [empty_app] at this
  exact this
theorem joinr_last : ∀ (l : List ByteArray), l ≠ [] → 0 < (joinr l).size ∧ bt (joinr l) (((joinr l).size - 1 : Nat) : Int) = 10
  | [], h => absurd rfl h
  | [x], _ => by
    have e : joinr [x] = x ++ nl := by rw [joinr, joinr, app_empty]
    have hz : (x ++ nl).size = x.size + 1 := by rw [ByteArray.size_append, nl_size]
    rw [e, hz]
    refine ⟨by omega, ?_⟩
    have := bt_right x nl 0 (by rw [nl_size]; omega)
    rw [show x.size + 1 - 1 = x.size + 0 by omega, this]; rfl
  | x :: y :: l, _ => by
    obtain ⟨h1, h2⟩ := joinr_last (y :: l) (by simp)
    have e : joinr (x :: y :: l) = (x ++ nl) ++ joinr (y :: l) := by rw [joinr, ByteArray.append_assoc]
    have hz : ((x ++ nl) ++ joinr (y :: l)).size = (x ++ nl).size + (joinr (y :: l)).size := by rw [ByteArray.size_append]
    rw [e, hz]
    refine ⟨by omega, ?_⟩
    rw [show (x ++ nl).size + (joinr (y :: l)).size - 1 = (x ++ nl).size + ((joinr (y :: l)).size - 1) by omega, bt_right _ _ _ (by omega), h2]
theorem lns_joinr (l : List ByteArray) (h : ∀ x ∈ l, good x) : lns (joinr l) = l := by
  by_cases c : l = []
  · subst c; rfl
  · obtain ⟨h1, h2⟩ := joinr_last l c
    have h3 := sp_snoc (joinr l) ((joinr l).extract 0 ((joinr l).size - 1)) ((joinr l).size - 1) rfl (by omega) h2 ((joinr l).size - 1) 0 0 (by omega) (Nat.le_refl _)
    rw [show (joinr l).size - 1 + 1 = (joinr l).size by omega, sp_joinr l h] at h3
    unfold lns
    rw [if_neg (by omega), if_pos h2]
    exact (List.append_inj' h3 rfl).1.symm
theorem joinr_size : ∀ (l : List ByteArray), (∀ x ∈ l, good x) → (joinr l).size ≤ 301 * l.length
  | [], _ => Nat.le_refl 0
  | x :: l, h => by
    have h1 := (h x (by simp)).1
    have h2 := joinr_size l (fun y hy => h y (by simp [hy]))
    rw [joinr, ByteArray.size_append, ByteArray.size_append, nl_size, List.length_cons]; omega
theorem inner_good (l : List ByteArray) (acc : ByteArray) (i : Nat) (hi : i < l.length) (hl : l.length ≤ 60) (hg : good l[i]) (ha : acc.size ≤ 100000) : ∀ (d j k : Nat), j + d = (l[i]).size →
    armadalaw09_LexLines.l1 (k + d + 1) l acc (i : Int) (j : Int) = armadalaw09_LexLines.l0 k l ((acc ++ l[i]) ++ nl) ((i + 1 : Nat) : Int)
  | 0, j, k, hj => by
    have e1 : wrap64 ((i : Int) + 1) = ((i + 1 : Nat) : Int) := by rw [w64 (by omega) (by omega)]; omega
    have h1 := hg.1
    have hz : (acc ++ l[i]).size = acc.size + (l[i]).size := ByteArray.size_append
    rw [armadalaw09_LexLines.l1, if_pos (by omega), if_pos (by omega), rdOf_get _ _ _ hi, if_neg (by omega), if_pos (by omega), if_pos (by omega), e1]; rfl
  | d + 1, j, k, hj => by
    have h1 := hg.1
    have e1 : wrap64 ((j : Int) + 1) = ((j + 1 : Nat) : Int) := by rw [w64 (by omega) (by omega)]; omega
    rw [show k + (d + 1) + 1 = (k + d + 1) + 1 by omega, armadalaw09_LexLines.l1, if_pos (by omega), if_pos (by omega), rdOf_get _ _ _ hi, if_pos (by omega), if_pos (by omega), if_neg (hg.2 j (by omega)), if_neg (by omega), e1]
    exact inner_good l acc i hi hl hg ha d (j + 1) k (by omega)
theorem inner_bad (l : List ByteArray) (acc : ByteArray) (i : Nat) (hi : i < l.length) : ∀ (d j k : Nat), j + d = (l[i]).size → 50 ≤ k → (∀ m, m < j → bt l[i] (m : Int) ≠ 10) → ((l[i]).size ≤ 300 ∨ j = 0) → ¬ good l[i] → 0 < d ∨ j = 0 →
    0 < (l[i]).size → armadalaw09_LexLines.l1 (k + d + 1) l acc (i : Int) (j : Int) = some true
  | 0, j, k, hj, hk, h1, h2, hg, h3, h4 => by omega
  | d + 1, j, k, hj, hk, h1, h2, hg, h3, h4 => by
    rw [show k + (d + 1) + 1 = (k + d + 1) + 1 by omega, armadalaw09_LexLines.l1, if_pos (by omega), if_pos (by omega), rdOf_get _ _ _ hi, if_pos (by omega), if_pos (by omega)]
    by_cases c : bt l[i] (j : Int) = 10
    · rw [if_pos c, live_true (by omega)]; rfl
    · rw [if_neg c]
      by_cases c2 : ((l[i]).size : Int) > 300
      · rw [if_pos c2, live_true (by omega)]; rfl
      · rw [if_neg c2]
        have e1 : wrap64 ((j : Int) + 1) = ((j + 1 : Nat) : Int) := by rw [w64 (by omega) (by omega)]; omega
        have h5 : ∀ m, m < j + 1 → bt l[i] (m : Int) ≠ 10 := fun m hm => by
          by_cases cm : m = j
          · subst cm; exact c
          · exact h1 m (by omega)
        have h6 : 0 < d := by
          by_cases cd : d = 0
          · exact absurd ⟨by omega, fun m hm => h5 m (by omega)⟩ hg
          · omega
        rw [e1]
        exact inner_bad l acc i hi d (j + 1) k (by omega) hk h5 (.inl (by omega)) hg (.inl h6) h4
theorem lines_l0 (l : List ByteArray) (hl : l.length ≤ 60) : ∀ (n i : Nat) (acc : ByteArray), n + i = l.length → (∀ x ∈ l.take i, good x) → acc ++ joinr (l.drop i) = joinr l → acc.size ≤ 301 * i → ∃ k, armadalaw09_LexLines.l0 k l acc (i : Int) = some true
  | 0, i, acc, hn, hg, ha, hs => by
    have hi : i = l.length := by omega
    rw [List.take_of_length_le (by omega)] at hg
    rw [List.drop_of_length_le (by omega), show joinr [] = ⟨#[]⟩ from rfl, app_empty] at ha
    have hj := joinr_size l hg
    refine ⟨1000, ?_⟩
    rw [show (1000 : Nat) = 998 + 1 + 1 from rfl, armadalaw09_LexLines.l0, if_neg (by omega), armadalaw09_LexLines.j1, if_neg (by simp), if_neg (by omega), ha, split_lns _ (by omega), lns_joinr l hg]
    simp only [Option.bind_some]
    rw [same03_f _ _ rfl (by omega) _ (by omega)]
    simp only [Option.bind_some]
    rw [if_pos True.intro, live_true (by omega)]; rfl
  | n + 1, i, acc, hn, hg, ha, hs => by
    have hi : i < l.length := by omega
    by_cases cg : good l[i]
    · obtain ⟨k, hk⟩ := lines_l0 l hl n (i + 1) ((acc ++ l[i]) ++ nl) (by omega) (by
        intro x hx
        rw [List.take_succ_eq_append_getElem hi] at hx
        rcases List.mem_append.1 hx with h | h
        · exact hg x h
        · rw [List.mem_singleton] at h; subst h; exact cg) (by
        rw [← ha, List.drop_eq_getElem_cons hi, joinr, ByteArray.append_assoc, ByteArray.append_assoc]) (by
        have := cg.1
        rw [ByteArray.size_append, ByteArray.size_append, nl_size]; omega)
      refine ⟨(k + (l[i]).size + 1) + 1 + 1, ?_⟩
      rw [armadalaw09_LexLines.l0, if_pos (by omega), decide_eq_true (by omega), armadalaw09_LexLines.j1, if_pos rfl]
      have := inner_good l acc i hi hl cg (by omega) (l[i]).size 0 k (by omega)
      rw [show ((0 : Nat) : Int) = 0 from rfl] at this
      rw [this]
      exact hk
    · have hp : 0 < (l[i]).size := by
        by_cases cz : (l[i]).size = 0
        · exact absurd ⟨by omega, fun j hj => by omega⟩ cg
        · omega
      refine ⟨(50 + (l[i]).size + 1) + 1 + 1, ?_⟩
      rw [armadalaw09_LexLines.l0, if_pos (by omega), decide_eq_true (by omega), armadalaw09_LexLines.j1, if_pos rfl]
      have := inner_bad l acc i hi (l[i]).size 0 50 (by omega) (by omega) (fun m hm => by omega) (.inr rfl) cg (.inr rfl) hp
      rw [show ((0 : Nat) : Int) = 0 from rfl] at this
      exact this
theorem LexLines (l : List ByteArray) : ∃ k, armadalaw09_LexLines.f k l = some true := by
  unfold armadalaw09_LexLines.f
  by_cases c : l.length ≤ 60
  · have := lines_l0 l c l.length 0 ⟨#[]⟩ (by omega) (by simp) (by rw [List.drop_zero, empty_app]) (Nat.le_refl 0)
    rw [show ((0 : Nat) : Int) = 0 from rfl] at this
    exact this
  · refine ⟨1000, ?_⟩
    rw [show (1000 : Nat) = 998 + 1 + 1 from rfl, armadalaw09_LexLines.l0, if_pos (by omega), decide_eq_false (by omega), armadalaw09_LexLines.j1, if_neg (by simp), if_pos (by omega), live_true (by omega)]; rfl
end Go.Proofs.YtonjofjdmlblfaaDoor.Pure
