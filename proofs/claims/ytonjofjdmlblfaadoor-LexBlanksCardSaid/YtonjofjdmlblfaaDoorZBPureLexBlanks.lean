/- LexBlanks: blanks at the ends of a line, and tabs for spaces, change no word's text, and no remark. -/
import Derived.Test.YtonjofjdmlblfaaDoorZBXBlanks
import Derived.Test.YtonjofjdmlblfaaDoorZBPureLexRemarks
set_option linter.unusedVariables false
set_option linter.unusedSimpArgs false
namespace Go.Proofs.YtonjofjdmlblfaaDoor.Pure
open Go.RowKit Go.Proofs.YtonjofjdmlblfaaDoor.P Go.Proofs.YtonjofjdmlblfaaDoor.Pl Go.Proofs.YtonjofjdmlblfaaDoorW.PrintWords Go.Proofs.YtonjofjdmlblfaaDoorW.PrintLast Go.Proofs.YtonjofjdmlblfaaDoorW.PrintMore
def pre : ByteArray := ⟨#[32, 32]⟩
def post : ByteArray := ⟨#[9, 32]⟩
def mapd (s : ByteArray) : ByteArray := strOfNums ((bs s).map ut)
def turned (s : ByteArray) : ByteArray := pre ++ mapd s ++ post
theorem mapd_size (s : ByteArray) : (mapd s).size = s.size := by unfold mapd; rw [← bs_length (strOfNums _), bs_strOfNums _ (ut_range s), List.length_map, bs_length]
theorem mapd_bt (s : ByteArray) (i : Nat) (h : i < s.size) : bt (mapd s) (i : Int) = ut (bt s (i : Int)) := by
  have e := bs_strOfNums _ (ut_range s)
  rw [bt_bs _ i (by rw [mapd_size]; exact h)]
  have h2 : (bs (mapd s))[i]? = some (ut (bt s (i : Int))) := by
    rw [show bs (mapd s) = (bs s).map ut from e, List.getElem?_map, List.getElem?_eq_getElem (by rw [bs_length]; exact h), ← bt_bs s i h]; rfl
  exact (List.getElem?_eq_some_iff.1 h2).2
theorem turned_size (s : ByteArray) : (turned s).size = s.size + 4 := by
  unfold turned
  rw [ByteArray.size_append, ByteArray.size_append, mapd_size, show pre.size = 2 from rfl, show post.size = 2 from rfl]; omega
theorem turned_bt (s : ByteArray) (i : Nat) (h : i < s.size) : bt (turned s) ((i + 2 : Nat) : Int) = ut (bt s (i : Int)) := by
  unfold turned
  have hm := mapd_size s
  have hp : pre.size = 2 := rfl
  rw [bt_left _ _ _ (by rw [ByteArray.size_append]; omega)]
  have := bt_right pre (mapd s) i (by omega)
  rw [hp] at this
  rw [show i + 2 = 2 + i by omega, this, mapd_bt s i h]
theorem turned_pre (s : ByteArray) (i : Nat) (h : i < 2) : bt (turned s) (i : Int) = 32 := by
  unfold turned
  have hp : pre.size = 2 := rfl
  rw [ByteArray.append_assoc, bt_left _ _ _ (by omega)]
  match i, h with
  | 0, _ => rfl
  | 1, _ => rfl
theorem turned_post (s : ByteArray) (i : Nat) (h : i < 2) : bt (turned s) ((s.size + 2 + i : Nat) : Int) = if i = 0 then 9 else 32 := by
  unfold turned
  have hm := mapd_size s
  have hp : pre.size = 2 := rfl
  have hz : (pre ++ mapd s).size = s.size + 2 := by rw [ByteArray.size_append]; omega
  have := bt_right (pre ++ mapd s) post i h
  rw [hz] at this
  rw [this]
  match i, h with
  | 0, _ => rfl
  | 1, _ => rfl
theorem ut_bl (c : Int) : blC (ut c) = blC c := by
  unfold ut
  split
  · rename_i h; subst h; rfl
  · rfl
theorem ut_sep (c : Int) : sepC (ut c) = sepC c := by
  unfold ut
  split
  · rename_i h; subst h; rfl
  · rfl
theorem ut_slash (c : Int) : (ut c == 47) = (c == 47) := by
  unfold ut
  split
  · rename_i h; subst h; rfl
  · rfl
theorem ut_odd (c : Int) : oddC (ut c) = oddC c := by
  unfold ut
  split
  · rename_i h; subst h; rfl
  · rfl
theorem ext_turned (s : ByteArray) (a b : Nat) (hab : a ≤ b) (hb : b ≤ s.size) (h : ∀ j, a ≤ j → j < b → bt s (j : Int) ≠ 32) : (turned s).extract (a + 2) (b + 2) = s.extract a b := by
  have hz := turned_size s
  apply bs_inj
  apply List.ext_getElem
  · rw [bs_length, bs_length, ByteArray.size_extract, ByteArray.size_extract]; omega
  · intro i h1 h2
    have h1' : i < ((turned s).extract (a + 2) (b + 2)).size := by rw [bs_length] at h1; exact h1
    have h2' : i < (s.extract a b).size := by rw [bs_length] at h2; exact h2
    rw [← bt_bs _ i h1', ← bt_bs _ i h2']
    rw [ByteArray.size_extract] at h1' h2'
    rw [bt_ext (turned s) (a + 2) (b + 2) i (by omega) (by omega), bt_ext s a b i (by omega) (by omega), show a + 2 + i = (a + i) + 2 by omega, turned_bt s (a + i) (by omega), ut, if_neg (h (a + i) (by omega) (by omega))]
def sh (x : S47) : S47 := ⟨x.f0, x.f1 + 2⟩
def shf (f : Int) : Int := if f < 0 then -1 else f + 2
theorem cut_turned (s : ByteArray) (ws : List S47) (f : Int) (i : Nat) (hi : i ≤ s.size) (hf : f < 0 ∨ (0 ≤ f ∧ f ≤ (i : Int))) (hb : ∀ j : Nat, f ≤ (j : Int) → 0 ≤ f → j < i → bt s (j : Int) ≠ 32) :
    cutW (turned s) (ws.map sh) (shf f) ((i + 2 : Nat) : Int) = (cutW s ws f (i : Int)).map sh := by
  unfold cutW shf
  rcases hf with hf | ⟨h0, h1⟩
  · rw [if_pos hf, if_neg (by omega), if_neg (by omega)]
  · obtain ⟨st, rfl⟩ : ∃ st : Nat, f = (st : Int) := ⟨f.toNat, by omega⟩
    have e : (if (st : Int) < 0 then (-1 : Int) else (st : Int) + 2) = (st : Int) + 2 := if_neg (by omega)
    rw [e, if_pos (by omega), if_pos (by omega), List.map_append, show ((st : Int) + 2).toNat = st + 2 by omega, Int.toNat_natCast, Int.toNat_natCast, Int.toNat_natCast, ext_turned s st i (by omega) hi (fun j g1 g2 => hb j (by omega) (by omega) g2)]
    rfl
theorem scan_turned (s : ByteArray) : ∀ (n i : Nat) (ws : List S47) (f : Int), n + i = s.size → (f = -1 ∨ (0 ≤ f ∧ f ≤ (i : Int))) → (∀ j : Nat, f ≤ (j : Int) → 0 ≤ f → j < i → bt s (j : Int) ≠ 32) → (scan s n i ws f).2 = ⟨#[]⟩ →
    scan (turned s) (n + 2) (i + 2) (ws.map sh) (shf f) = ((scan s n i ws f).1.map sh, ⟨#[]⟩)
  | 0, i, ws, f, hn, hf, hb, h => by
    obtain rfl : i = s.size := by omega
    have hz := turned_size s
    have hf' : f < 0 ∨ (0 ≤ f ∧ f ≤ (s.size : Int)) := by
      rcases hf with rfl | hf
      · exact .inl (by omega)
      · exact .inr hf
    have b0 : bt (turned s) ((s.size + 2 : Nat) : Int) = 9 := turned_post s 0 (by omega)
    have b1 : bt (turned s) ((s.size + 2 + 1 : Nat) : Int) = 32 := turned_post s 1 (by omega)
    have n0 : isNote (turned s) (s.size + 2) = false := by unfold isNote; rw [b0]; simp
    have n1 : isNote (turned s) (s.size + 2 + 1) = false := by unfold isNote; rw [b1]; simp
    have e0 : P.next (turned s) (s.size + 2) (ws.map sh) (shf f) = ((cutW s ws f s.size).map sh, -1) := by
      unfold P.next
      rw [b0, if_neg (by decide), if_pos (by decide), cut_turned s ws f s.size (Nat.le_refl _) hf' hb]
    have e1 : P.next (turned s) (s.size + 2 + 1) ((cutW s ws f s.size).map sh) (-1) = ((cutW s ws f s.size).map sh, -1) := by
      unfold P.next
      rw [b1, if_neg (by decide), if_pos (by decide), cutW_neg]
    rw [show 0 + 2 = 1 + 1 from rfl, scan_succ, if_neg (by rw [n0]; simp), e0, show (1 : Nat) = 0 + 1 from rfl, scan_succ, if_neg (by rw [n1]; simp), e1]
    show (cutW (turned s) ((cutW s ws f s.size).map sh) (-1) _, _) = _
    rw [cutW_neg]; rfl
  | n + 1, i, ws, f, hn, hf, hb, h => by
    have hi : i < s.size := by omega
    have hz := turned_size s
    have hnote : isNote (turned s) (i + 2) = isNote s i := by
      unfold isNote
      rw [turned_bt s i hi, ut_slash]
      by_cases c : i + 1 < s.size
      · rw [show i + 2 + 1 = (i + 1) + 2 by omega, turned_bt s (i + 1) c, ut_slash, decide_eq_true c, decide_eq_true (by omega)]
      · have b0 : bt (turned s) ((i + 2 + 1 : Nat) : Int) = 9 := by
          have := turned_post s 0 (by omega)
          rw [show s.size + 2 + 0 = i + 2 + 1 by omega] at this
          exact this
        rw [b0, decide_eq_false c]; simp
    have hlt : (shf f < 0) ↔ f < 0 := by unfold shf; split <;> omega
    have hc : ¬ (f < 0 ∧ isNote s i = true) := by
      intro hc
      rw [scan_succ, if_pos hc] at h
      have hz : (s.extract i s.size).size = s.size - i := by rw [ByteArray.size_extract]; omega
      rw [show s.extract i s.size = ⟨#[]⟩ from h] at hz
      have : (⟨#[]⟩ : ByteArray).size = 0 := rfl
      omega
    have hs : scan s (n + 1) i ws f = scan s n (i + 1) (P.next s i ws f).1 (P.next s i ws f).2 := by rw [scan_succ, if_neg hc]
    rw [hs] at h ⊢
    rw [show n + 1 + 2 = (n + 2) + 1 by omega, scan_succ, if_neg (by rw [hnote, hlt]; exact hc)]
    have hf' : f < 0 ∨ (0 ≤ f ∧ f ≤ (i : Int)) := by
      rcases hf with rfl | hf
      · exact .inl (by omega)
      · exact .inr hf
    have hcut := cut_turned s ws f i (by omega) hf' hb
    have hN : P.next (turned s) (i + 2) (ws.map sh) (shf f) = ((P.next s i ws f).1.map sh, shf (P.next s i ws f).2) ∧ ((P.next s i ws f).2 = -1 ∨ (0 ≤ (P.next s i ws f).2 ∧ (P.next s i ws f).2 ≤ ((i + 1 : Nat) : Int))) ∧ (∀ j : Nat, (P.next s i ws f).2 ≤ (j : Int) → 0 ≤ (P.next s i ws f).2 → j < i + 1 → bt s (j : Int) ≠ 32) := by
      unfold P.next
      rw [turned_bt s i hi, ut_sep, ut_bl]
      by_cases cs : sepC (bt s (i : Int)) = true
      · rw [if_pos cs, if_pos cs, hcut]
        refine ⟨?_, .inl rfl, fun j h1 h2 h3 => by simp at h2⟩
        have hx := ext_turned s i (i + 1) (by omega) (by omega) (fun j g1 g2 e => by
          obtain rfl : j = i := by omega
          rw [e] at cs; exact absurd cs (by decide))
        rw [show i + 2 + 1 = i + 1 + 2 by omega, hx, List.map_append]
        rfl
      · rw [if_neg cs, if_neg cs]
        by_cases cb : blC (bt s (i : Int)) = true
        · rw [if_pos cb, if_pos cb, hcut]
          exact ⟨rfl, .inl rfl, fun j h1 h2 h3 => by simp at h2⟩
        · rw [if_neg cb, if_neg cb]
          have hne : bt s (i : Int) ≠ 32 := fun e => cb (by rw [e]; rfl)
          by_cases cf : f < 0
          · simp only [if_pos cf, if_pos (hlt.2 cf)]
            refine ⟨by rw [shf, if_neg (by omega)]; rfl, .inr ⟨by omega, by omega⟩, fun j h1 h2 h3 => ?_⟩
            obtain rfl : j = i := by omega
            exact hne
          · simp only [if_neg cf, if_neg (fun h => cf (hlt.1 h))]
            refine ⟨trivial, ?_, fun j h1 h2 h3 => ?_⟩
            · rcases hf' with h | h
              · exact absurd h cf
              · exact .inr ⟨h.1, by omega⟩
            · by_cases cj : j = i
              · subst cj; exact hne
              · exact hb j h1 h2 (by omega)
    rw [hN.1]
    exact scan_turned s n (i + 1) _ _ (by omega) hN.2.1 hN.2.2 h
theorem turned_odd (s : ByteArray) (h : anyOdd s s.size 0 = false) : anyOdd (turned s) (turned s).size 0 = false := by
  apply Bool.eq_false_iff.2
  intro hh
  obtain ⟨j, _, hj, ho, _⟩ := anyOdd_true hh
  rw [turned_size] at hj
  by_cases c1 : j < 2
  · rw [turned_pre s j c1] at ho; cases ho
  · by_cases c2 : j < s.size + 2
    · obtain ⟨i, rfl⟩ : ∃ i, j = i + 2 := ⟨j - 2, by omega⟩
      rw [turned_bt s i (by omega), ut_odd, anyOdd_false h i (Nat.zero_le _) (by omega)] at ho; cases ho
    · obtain ⟨i, rfl⟩ : ∃ i, j = s.size + 2 + i := ⟨j - (s.size + 2), by omega⟩
      rw [turned_post s i (by omega)] at ho
      split at ho <;> cases ho
theorem one_turned (s : ByteArray) (hs : s.size ≤ 10000) (ws : List S47) (e1 : lex_One.f s = some (ws, ⟨#[]⟩, 0)) : lex_One.f (turned s) = some (ws.map sh, ⟨#[]⟩, 0) ∧ ∃ q r, Row s 0 ws q ∧ q ≤ r ∧ r ≤ s.size := by
  unfold lex_One.f at e1 ⊢
  rw [if_pos (by omega)] at e1
  by_cases c : anyOdd s s.size 0 = true
  · rw [if_pos c] at e1
    have := Option.some.inj e1
    simp at this
  · rw [if_neg c] at e1
    have e := Option.some.inj e1
    simp only [Prod.mk.injEq] at e
    obtain ⟨q, r, h1, h2, h3, _, _⟩ := scan_all s
    rw [e.1] at h1
    refine ⟨?_, q, r, h1, h2, h3⟩
    have hz := turned_size s
    rw [if_pos (by omega), if_neg (by rw [turned_odd s (Bool.eq_false_iff.2 c)]; decide), hz]
    have n0 : ∀ i, i < 2 → isNote (turned s) i = false := fun i hi => by unfold isNote; rw [turned_pre s i hi]; simp
    have x0 : ∀ i, i < 2 → P.next (turned s) i [] (-1) = ([], -1) := fun i hi => by
      unfold P.next
      rw [turned_pre s i hi, if_neg (by decide), if_pos (by decide), cutW_neg]
    have hsc := scan_turned s s.size 0 [] (-1) (by omega) (.inl rfl) (fun j _ h _ => by omega) e.2.1
    rw [scan_succ, if_neg (by rw [n0 0 (by omega)]; simp), x0 0 (by omega), scan_succ, if_neg (by rw [n0 1 (by omega)]; simp), x0 1 (by omega)]
    rw [show scan (turned s) (s.size + 2) (0 + 1 + 1) ([], (-1 : Int)).1 ([], (-1 : Int)).2 = scan (turned s) (s.size + 2) (0 + 2) (List.map sh []) (shf (-1)) from rfl, hsc, e.1]
theorem row_at {s : ByteArray} : ∀ {p : Nat} {l : List S47} {q : Nat}, Row s p l q → ∀ x ∈ l, 0 ≤ x.f1 ∧ x.f1 ≤ (s.size : Int)
  | p, [], q, h, x, hx => by simp at hx
  | p, w :: l, q, ⟨a, b, g1, g2, g3, g4, g5, g6⟩, x, hx => by
    rcases List.mem_cons.1 hx with rfl | hx
    · rw [g4]; exact ⟨by simp, by simp; omega⟩
    · exact row_at g6 x hx
theorem LexBlanks (s : ByteArray) (w : World) : Calls Tryd.prog 6 #[.string s] w fun e w' => e = .returned (.bool true) ∧ Below w.heap.size w w' := by
  have hk : armadalaw09_live.f 100 = some true := live_true (by omega)
  by_cases c : s.size ≤ 2000
  · obtain ⟨ws, nt, e, h1, h2⟩ := one_some s (by omega)
    by_cases ce : e = 0
    · subst ce
      by_cases cn : nt.toList = []
      · have hnt : nt = ⟨#[]⟩ := ByteArray.size_eq_zero_iff.1 ((toList_nil nt).1 cn)
        subst hnt
        obtain ⟨h3, q, r, h4, h5, h6⟩ := one_turned s (by omega) ws h1
        refine blanks_main 100 s (turned s) w c ws (ws.map sh) h1 rfl h3 (by rw [List.length_map]) (fun i hi => ?_) hk
        have e1 := rd47_get ws i hi
        have e2 : rd_T47 (ws.map sh) (i : Int) = sh ws[i] := by
          rw [rd47_get _ i (by rw [List.length_map]; exact hi), List.getElem_map]
        have h7 := row_at h4 _ (List.getElem_mem hi)
        rw [e1, e2]
        exact ⟨rfl, rfl, h7.1, by omega⟩
      · exact blanks_skip 100 s w c ws nt 0 h1 (.inr ⟨rfl, cn⟩) hk
    · exact blanks_skip 100 s w c ws nt e h1 (.inl ce) hk
  · exact blanks_long 100 s w (by omega) hk
end Go.Proofs.YtonjofjdmlblfaaDoor.Pure
