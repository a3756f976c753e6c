/- LexRemarks: a remark behind a line that has none leaves its words as they are. -/
import Derived.Test.YtonjofjdmlblfaaDoorZRM3
import Derived.Test.YtonjofjdmlblfaaDoorZRXTells
set_option linter.unusedVariables false
set_option linter.unusedSimpArgs false
namespace Go.Proofs.YtonjofjdmlblfaaDoor.Pure
open Go.RowKit Go.Proofs.YtonjofjdmlblfaaDoor.P Go.Proofs.YtonjofjdmlblfaaDoorW.PrintWords Go.Proofs.YtonjofjdmlblfaaDoorW.PrintLast Go.Proofs.YtonjofjdmlblfaaDoorW.PrintMore
theorem bt_left (a b : ByteArray) (i : Nat) (h : i < a.size) : bt (a ++ b) (i : Int) = bt a (i : Int) := by
  rw [bt_nat _ i (by rw [ByteArray.size_append]; omega), bt_nat a i h, ByteArray.getElem_append_left h]
theorem bt_right (a b : ByteArray) (i : Nat) (h : i < b.size) : bt (a ++ b) ((a.size + i : Nat) : Int) = bt b (i : Int) := by
  rw [bt_nat _ (a.size + i) (by rw [ByteArray.size_append]; omega), bt_nat b i h, ByteArray.getElem_append_right (by omega)]
  congr 3
  omega
theorem tl_inj {a b : ByteArray} (h : a.data.toList = b.data.toList) : a = b := by
  obtain ⟨⟨a⟩⟩ := a
  obtain ⟨⟨b⟩⟩ := b
  simp at h; rw [h]
theorem ext_left (a b : ByteArray) (p q : Nat) (h : q ≤ a.size) : (a ++ b).extract p q = a.extract p q := by
  apply tl_inj
  have hz : a.data.toList.length = a.size := by rw [Array.length_toList]; rfl
  rw [ByteArray.data_extract, ByteArray.data_extract, ByteArray.data_append, Array.toList_extract, Array.toList_extract, Array.toList_append, List.extract_eq_take_drop, List.extract_eq_take_drop]
  by_cases c : p ≤ a.size
  · rw [List.drop_append_of_le_length (by omega), List.take_append_of_le_length (by rw [List.length_drop]; omega)]
  · rw [show q - p = 0 by omega]; simp
def mid : ByteArray := ⟨#[32, 47, 47]⟩
theorem odd_app (s m n : ByteArray) (h1 : anyOdd s s.size 0 = false) (h2 : anyOdd m m.size 0 = false) (h3 : anyOdd n n.size 0 = false) : anyOdd (s ++ m ++ n) (s ++ m ++ n).size 0 = false := by
  apply Bool.eq_false_iff.2
  intro h
  obtain ⟨j, _, hj, ho, _⟩ := anyOdd_true h
  rw [ByteArray.size_append, ByteArray.size_append] at hj
  by_cases c1 : j < s.size
  · rw [bt_left _ _ j (by rw [ByteArray.size_append]; omega), bt_left _ _ j c1, anyOdd_false h1 j (Nat.zero_le _) (by omega)] at ho
    cases ho
  · by_cases c2 : j < s.size + m.size
    · obtain ⟨i, rfl⟩ : ∃ i, j = s.size + i := ⟨j - s.size, by omega⟩
      rw [bt_left _ _ _ (by rw [ByteArray.size_append]; omega), bt_right _ _ i (by omega), anyOdd_false h2 i (Nat.zero_le _) (by omega)] at ho
      cases ho
    · obtain ⟨i, rfl⟩ : ∃ i, j = (s ++ m).size + i := ⟨j - (s.size + m.size), by rw [ByteArray.size_append]; omega⟩
      rw [bt_right _ _ i (by rw [ByteArray.size_append] at hj; omega), anyOdd_false h3 i (Nat.zero_le _) (by rw [ByteArray.size_append] at hj; omega)] at ho
      cases ho
theorem cut_app (s b : ByteArray) (ws : List S47) (f : Int) (i : Nat) (hi : i ≤ s.size) : cutW (s ++ b) ws f (i : Int) = cutW s ws f (i : Int) := by
  unfold cutW
  by_cases c : f ≥ 0
  · rw [if_pos c, if_pos c, Int.toNat_natCast, ext_left _ _ _ _ hi]
  · rw [if_neg c, if_neg c]
theorem next_app (s b : ByteArray) (ws : List S47) (f : Int) (i : Nat) (hi : i < s.size) : P.next (s ++ b) i ws f = P.next s i ws f := by
  unfold P.next
  rw [bt_left _ _ _ hi, cut_app _ _ _ _ _ (by omega), ext_left _ _ _ _ (by omega)]
theorem scan_succ (s : ByteArray) (n i : Nat) (ws : List S47) (f : Int) : scan s (n + 1) i ws f = if f < 0 ∧ isNote s i = true then (ws, s.extract i s.size) else scan s n (i + 1) (P.next s i ws f).1 (P.next s i ws f).2 := rfl
theorem scan_app (s note : ByteArray) : ∀ (n i : Nat) (ws : List S47) (f : Int), n + i = s.size → (scan s n i ws f).2 = ⟨#[]⟩ →
    scan (s ++ (mid ++ note)) (n + 3 + note.size) i ws f = ((scan s n i ws f).1, (s ++ (mid ++ note)).extract (s.size + 1) (s ++ (mid ++ note)).size)
  | 0, i, ws, f, hn, h => by
    obtain rfl : i = s.size := by omega
    have hm : mid.size = 3 := rfl
    have b0 : bt (s ++ (mid ++ note)) (s.size : Int) = 32 := by
      have := bt_right s (mid ++ note) 0 (by rw [ByteArray.size_append]; omega)
      rw [Nat.add_zero, bt_left mid note 0 (by omega)] at this
      rw [this]; rfl
    have b1 : bt (s ++ (mid ++ note)) ((s.size + 1 : Nat) : Int) = 47 := by
      rw [bt_right s (mid ++ note) 1 (by rw [ByteArray.size_append]; omega), bt_left mid note 1 (by omega)]; rfl
    have b2 : bt (s ++ (mid ++ note)) ((s.size + 1 + 1 : Nat) : Int) = 47 := by
      rw [show s.size + 1 + 1 = s.size + 2 from rfl, bt_right s (mid ++ note) 2 (by rw [ByteArray.size_append]; omega), bt_left mid note 2 (by omega)]; rfl
    have n0 : isNote (s ++ (mid ++ note)) s.size = false := by unfold isNote; rw [b0]; simp
    have n1 : isNote (s ++ (mid ++ note)) (s.size + 1) = true := by
      unfold isNote
      rw [b1, b2, decide_eq_true (by rw [ByteArray.size_append, ByteArray.size_append]; omega)]; rfl
    have en : P.next (s ++ (mid ++ note)) s.size ws f = (cutW s ws f s.size, -1) := by
      unfold P.next
      rw [b0, if_neg (by decide), if_pos (by decide), cut_app _ _ _ _ _ (Nat.le_refl _)]
    rw [show 0 + 3 + note.size = (1 + note.size) + 1 + 1 by omega, scan_succ, if_neg (by rw [n0]; simp), en, scan_succ, if_pos ⟨by omega, n1⟩]
    rfl
  | n + 1, i, ws, f, hn, h => by
    have hi : i < s.size := by omega
    have hiff : isNote (s ++ (mid ++ note)) i = isNote s i := by
      unfold isNote
      rw [bt_left _ _ _ hi]
      by_cases c : i + 1 < s.size
      · rw [bt_left _ _ _ c, decide_eq_true c, decide_eq_true (by rw [ByteArray.size_append]; omega)]
      · have hm : mid.size = 3 := rfl
        have b0 : bt (s ++ (mid ++ note)) ((i + 1 : Nat) : Int) = 32 := by
          have := bt_right s (mid ++ note) 0 (by rw [ByteArray.size_append]; omega)
          rw [Nat.add_zero, bt_left mid note 0 (by omega)] at this
          rw [show i + 1 = s.size by omega, this]; rfl
        rw [b0, decide_eq_false c]; simp
    have hc : ¬ (f < 0 ∧ isNote s i = true) := by
      intro hc
      rw [scan, if_pos hc] at h
      have hz : (s.extract i s.size).size = s.size - i := by rw [ByteArray.size_extract]; omega
      rw [show s.extract i s.size = ⟨#[]⟩ from h] at hz
      have : (⟨#[]⟩ : ByteArray).size = 0 := rfl
      omega
    rw [show n + 1 + 3 + note.size = (n + 3 + note.size) + 1 by omega, scan, if_neg (by rw [hiff]; exact hc), next_app _ _ _ _ _ hi]
    have hs : scan s (n + 1) i ws f = scan s n (i + 1) (P.next s i ws f).1 (P.next s i ws f).2 := by rw [scan, if_neg hc]
    rw [hs] at h ⊢
    exact scan_app s note n (i + 1) _ _ (by omega) h
theorem one_app (s note : ByteArray) (hs : s.size + note.size ≤ 10000) (ws : List S47) (e1 : lex_One.f s = some (ws, ⟨#[]⟩, 0)) (ws2 : List S47) (nt : ByteArray) (e2 : lex_One.f note = some (ws2, nt, 0)) :
    lex_One.f ((s ++ mid) ++ note) = some (ws, (⟨#[47, 47]⟩ : ByteArray) ++ note, 0) := by
  have odd : ∀ {x : ByteArray} {w : List S47} {n : ByteArray}, x.size ≤ 1000000 → lex_One.f x = some (w, n, 0) → anyOdd x x.size 0 = false ∧ (scan x x.size 0 [] (-1)) = (w, n) := by
    intro x w n hx h
    unfold lex_One.f at h
    rw [if_pos hx] at h
    by_cases c : anyOdd x x.size 0 = true
    · rw [if_pos c] at h
      have := Option.some.inj h
      simp at this
    · rw [if_neg c] at h
      have := Option.some.inj h
      simp only [Prod.mk.injEq] at this
      exact ⟨Bool.eq_false_iff.2 c, Prod.ext this.1 this.2.1⟩
  obtain ⟨o1, s1⟩ := odd (by omega) e1
  obtain ⟨o2, _⟩ := odd (by omega) e2
  have hm : mid.size = 3 := rfl
  unfold lex_One.f
  have hz : (s ++ mid ++ note).size = s.size + 3 + note.size := by rw [ByteArray.size_append, ByteArray.size_append, hm]
  rw [if_pos (by omega), if_neg (by rw [odd_app s mid note o1 (by decide) o2]; decide)]
  have ha : s ++ mid ++ note = s ++ (mid ++ note) := ByteArray.append_assoc
  have hsc := scan_app s note s.size 0 [] (-1) (by omega) (by rw [s1])
  rw [hz, ha, hsc, s1]
  have hx : (s ++ (mid ++ note)).extract (s.size + 1) (s ++ (mid ++ note)).size = (⟨#[47, 47]⟩ : ByteArray) ++ note := by
    apply tl_inj
    have hl : s.data.toList.length = s.size := by rw [Array.length_toList]; rfl
    have hl2 : note.data.toList.length = note.size := by rw [Array.length_toList]; rfl
    rw [ByteArray.data_extract, ByteArray.data_append, ByteArray.data_append, ByteArray.data_append, Array.toList_extract, Array.toList_append, Array.toList_append, Array.toList_append, List.extract_eq_take_drop]
    rw [List.drop_append, List.drop_of_length_le (by omega), show s.size + 1 - s.data.toList.length = 1 by omega]
    rw [List.take_of_length_le (by rw [ByteArray.size_append, ByteArray.size_append, hm]; simp [mid]; omega)]
    rfl
  rw [hx]
theorem LexRemarks : armadalaw09_LexRemarks.Pure := by
  intro s n hs0 hn0
  refine ⟨100000, ?_⟩
  have live : ∀ k, 50 ≤ k → ((armadalaw09_live.f k).bind fun t => some t) = some true := fun k hk => by rw [live_true (by omega)]; rfl
  have esc : ∀ k, 100 ≤ k → armadalaw09_LexRemarks.j0 k s n true = some true := fun k hk => by
    obtain ⟨k, rfl⟩ : ∃ k', k = k' + 1 := ⟨k - 1, by omega⟩
    rw [armadalaw09_LexRemarks.j0, if_pos rfl]
    exact live k (by omega)
  have esc1 : ∀ k w nt, 100 ≤ k → armadalaw09_LexRemarks.j1 k s n true w nt = some true := fun k w nt hk => by
    obtain ⟨k, rfl⟩ : ∃ k', k = k' + 1 := ⟨k - 1, by omega⟩
    rw [armadalaw09_LexRemarks.j1, if_pos rfl, live_true (by omega)]; rfl
  unfold armadalaw09_LexRemarks.f
  by_cases c1 : (s.size : Int) > 2000
  · rw [if_pos c1]; exact esc 100000 (by omega)
  rw [if_neg c1]
  by_cases c2 : (n.size : Int) > 2000
  · rw [decide_eq_true c2]; exact esc 100000 (by omega)
  rw [decide_eq_false c2]
  obtain ⟨ws, nt, e, h1, h2⟩ := one_some s (by omega)
  obtain ⟨ws2, nt2, e2, g1, g2⟩ := one_some n (by omega)
  rw [show (100000 : Nat) = 99999 + 1 from rfl, armadalaw09_LexRemarks.j0, if_neg (by simp), h1]
  simp only [Option.bind_some]
  rw [ref_One n ws2 nt2 e2 g1 99999 (by omega)]
  simp only [Option.bind_some]
  by_cases c3 : e = 0
  · rw [if_pos c3]
    subst c3
    by_cases c4 : e2 = 0
    · rw [if_pos c4]
      subst c4
      by_cases c5 : nt.toList = ([] : List UInt8)
      · have hnt : nt = ⟨#[]⟩ := ByteArray.size_eq_zero_iff.1 ((toList_nil nt).1 c5)
        subst hnt
        rw [show ((⟨#[]⟩ : ByteArray).toList != ([] : List UInt8)) = false by rw [c5]; rfl, show (99999 : Nat) = 99998 + 1 from rfl, armadalaw09_LexRemarks.j1, if_neg (by simp)]
        have h3 := one_app s n (by omega) ws h1 ws2 nt2 g1
        have hz : (s ++ (⟨#[32, 47, 47]⟩ : ByteArray)).size = s.size + 3 := by rw [ByteArray.size_append]; rfl
        rw [if_pos (by omega), if_pos (by omega), show (s ++ (⟨#[32, 47, 47]⟩ : ByteArray)) ++ n = s ++ mid ++ n from rfl, h3]
        simp only [Option.bind_some]
        rw [if_pos True.intro, if_pos (by omega), if_pos True.intro, told_f ws _ (by omega) 99998 (by omega)]
        simp only [Option.bind_some]
        rw [same_f _ _ _ _ rfl rfl (by rw [List.length_map]; omega) 99998 (by rw [List.length_map]; omega)]
        simp only [Option.bind_some]
        rw [if_pos True.intro]
        exact live 99998 (by omega)
      · rw [show (nt.toList != ([] : List UInt8)) = true by rw [bne_iff_ne]; exact c5]
        exact esc1 99999 _ _ (by omega)
    · rw [if_neg c4]; exact esc1 99999 _ _ (by omega)
  · rw [if_neg c3]; exact esc1 99999 _ _ (by omega)
end Go.Proofs.YtonjofjdmlblfaaDoor.Pure
