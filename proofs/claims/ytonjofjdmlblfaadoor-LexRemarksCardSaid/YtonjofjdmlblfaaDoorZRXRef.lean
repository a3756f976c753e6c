/- lex: what the document's One tells is what the program's One tells. -/
import Derived.Test.YtonjofjdmlblfaaDoorZRM0
import Derived.Test.YtonjofjdmlblfaaDoorZRXOneW
set_option linter.unusedVariables false
set_option linter.unusedSimpArgs false
namespace Go.Proofs.YtonjofjdmlblfaaDoor.P
open Go.RowKit Go.Proofs.YtonjofjdmlblfaaDoorW.PrintWords Go.Proofs.YtonjofjdmlblfaaDoorW.PrintLast Go.Proofs.YtonjofjdmlblfaaDoorW.PrintMore
theorem w64 {x : Int} (h0 : -9223372036854775808 ≤ x) (h1 : x ≤ 9223372036854775807) : wrap64 x = x := by
  unfold wrap64; omega
theorem blank_f (c : Int) : armadaref09_Blank.f c = some (blC c) := by
  unfold armadaref09_Blank.f blC
  by_cases h : c = 32
  · subst h; rfl
  · rw [if_neg h, beq_eq_false_iff_ne.2 h]; rfl
theorem sign_f (c : Int) : armadaref09_sign.f c = some (sepC c) := by
  unfold armadaref09_sign.f sepC
  by_cases h1 : c = 40
  · subst h1; rfl
  · by_cases h2 : c = 41
    · subst h2; rfl
    · by_cases h3 : c = 91
      · subst h3; rfl
      · by_cases h4 : c = 93
        · subst h4; rfl
        · rw [if_neg h1, if_neg h2, if_neg h3, if_neg h4, beq_eq_false_iff_ne.2 h1, beq_eq_false_iff_ne.2 h2, beq_eq_false_iff_ne.2 h3, beq_eq_false_iff_ne.2 h4]; rfl
/-- No word goes on across the place ahead of i. -/
def startB (s : ByteArray) (i : Nat) : Bool := i == 0 || (blC (bt s ((i - 1 : Nat) : Int)) || sepC (bt s ((i - 1 : Nat) : Int)))
def remP (s : ByteArray) : Nat → Nat → Nat
  | 0, _ => s.size
  | n + 1, i => if (isNote s i && startB s i) = true then i else remP s n (i + 1)
theorem remark_l0 (s : ByteArray) (hs : s.size ≤ 1000000) : ∀ (n i k : Nat), n + i = s.size → n + 1 ≤ k → armadaref09_remark.l0 k s (i : Int) = some ((remP s n i : Nat) : Int)
  | 0, i, k + 1, hn, _ => by
    have e1 : wrap64 ((i : Int) + 1) = (i : Int) + 1 := w64 (by omega) (by omega)
    rw [armadaref09_remark.l0, e1, if_neg (by omega)]; rfl
  | n + 1, i, k + 1, hn, hk => by
    have e1 : wrap64 ((i : Int) + 1) = ((i + 1 : Nat) : Int) := by rw [w64 (by omega) (by omega)]; omega
    have ih := remark_l0 s hs n (i + 1) k (by omega) (by omega)
    rw [armadaref09_remark.l0, e1]
    unfold remP isNote
    by_cases c : i + 1 < s.size
    · rw [if_pos (by omega), if_pos (by omega), if_pos (by omega), decide_eq_true c]
      by_cases c1 : bt s (i : Int) = 47
      · rw [if_pos c1, if_pos (by omega), beq_iff_eq.2 c1]
        by_cases c2 : bt s ((i + 1 : Nat) : Int) = 47
        · rw [if_pos c2, beq_iff_eq.2 c2]
          unfold startB
          by_cases c3 : i = 0
          · subst c3; rfl
          · have e2 : wrap64 ((i : Int) - 1) = ((i - 1 : Nat) : Int) := by rw [w64 (by omega) (by omega)]; omega
            rw [if_neg (by omega), e2, if_pos (by omega), if_pos (by omega), blank_f, sign_f, beq_eq_false_iff_ne.2 c3]
            simp only [Option.bind_some, Bool.true_and, Bool.false_or]
            by_cases c4 : blC (bt s ((i - 1 : Nat) : Int)) = true
            · rw [if_pos c4, c4]; rfl
            · rw [if_neg c4, Bool.eq_false_iff.2 c4]
              by_cases c5 : sepC (bt s ((i - 1 : Nat) : Int)) = true
              · rw [if_pos c5, c5]; rfl
              · rw [if_neg c5, Bool.eq_false_iff.2 c5, ih]; rfl
        · rw [if_neg c2, beq_eq_false_iff_ne.2 c2, ih]; rfl
      · rw [if_neg c1, beq_eq_false_iff_ne.2 c1, ih]; rfl
    · rw [if_neg (by omega), decide_eq_false c]
      have : n = 0 := by omega
      subst this
      rfl
theorem remP_spec (s : ByteArray) : ∀ (n i : Nat), n + i = s.size → i ≤ remP s n i ∧ remP s n i ≤ s.size ∧ (∀ j, i ≤ j → j < remP s n i → (isNote s j && startB s j) = false) ∧ (remP s n i < s.size → (isNote s (remP s n i) && startB s (remP s n i)) = true)
  | 0, i, hn => ⟨by simp only [remP]; omega, Nat.le_refl _, fun j h1 h2 => by simp only [remP] at h2; omega, fun h => by simp only [remP] at h; omega⟩
  | n + 1, i, hn => by
    unfold remP
    by_cases c : (isNote s i && startB s i) = true
    · rw [if_pos c]
      exact ⟨Nat.le_refl _, by omega, fun j h1 h2 => by omega, fun _ => c⟩
    · rw [if_neg c]
      obtain ⟨h1, h2, h3, h4⟩ := remP_spec s n (i + 1) (by omega)
      refine ⟨by omega, h2, fun j h5 h6 => ?_, h4⟩
      by_cases cj : j = i
      · subst cj; exact Bool.eq_false_iff.2 c
      · exact h3 j (by omega) h6
def cv (w : S47) : S58 := ⟨w.f0, w.f1⟩
theorem notNote {s : ByteArray} {i : Nat} (h : sepC (bt s (i : Int)) = true ∨ blC (bt s (i : Int)) = true) : isNote s i = false := by
  have : bt s (i : Int) ≠ 47 := by
    intro e
    rw [e] at h
    rcases h with h | h
    · exact absurd h (by decide)
    · exact absurd h (by decide)
  unfold isNote
  rw [beq_eq_false_iff_ne.2 this]; simp
theorem cutW_neg (s : ByteArray) (ws : List S47) (a : Int) : cutW s ws (-1) a = ws := by rw [cutW, if_neg (by omega)]
theorem cutW_pos (s : ByteArray) (ws : List S47) (st j : Nat) : cutW s ws (st : Int) (j : Int) = ws ++ [⟨s.extract st j, (st : Int)⟩] := by
  rw [cutW, if_pos (by omega), Int.toNat_natCast, Int.toNat_natCast]
theorem scan_cut (s : ByteArray) (n j st : Nat) (ws : List S47) (h : sepC (bt s (j : Int)) = true ∨ blC (bt s (j : Int)) = true) :
    scan s (n + 1) j ws (st : Int) = scan s (n + 1) j (ws ++ [⟨s.extract st j, (st : Int)⟩]) (-1) := by
  unfold scan
  rw [if_neg (by omega), if_neg (by rw [notNote h]; simp)]
  have e : next s j ws (st : Int) = next s j (ws ++ [⟨s.extract st j, (st : Int)⟩]) (-1) := by
    unfold next
    rw [cutW_neg, cutW_pos]
    by_cases c : sepC (bt s (j : Int)) = true
    · rw [if_pos c, if_pos c]
    · rw [if_neg c, if_neg c, if_pos (h.resolve_left c), if_pos (h.resolve_left c)]
  rw [e]
theorem ref_words (s : ByteArray) (hs : s.size ≤ 1000000) (R : Nat) (hR : R ≤ s.size) (P2 : R < s.size → (isNote s R && startB s R) = true) (P1 : ∀ j, j < R → (isNote s j && startB s j) = false) : ∀ t : Nat,
    (∀ (i k n : Nat) (ws : List S47), i + t = R → n + i = s.size → (i < R → isNote s i = false) → ws.length ≤ i → 2 * t + 1 ≤ k →
      armadaref09_One.l1 k s (R : Int) (ws.map cv) (i : Int) = some ((scan s n i ws (-1)).1.map cv, (scan s n i ws (-1)).2, 0)) ∧
    (∀ (st j k n : Nat) (ws : List S47), st < j → j + t = R → n + j = s.size → sepC (bt s (st : Int)) = false → (sepC (bt s ((j - 1 : Nat) : Int)) = false ∧ blC (bt s ((j - 1 : Nat) : Int)) = false) → ws.length ≤ st → 2 * t + 2 ≤ k →
      armadaref09_One.l2 k s (R : Int) (ws.map cv) (st : Int) (j : Int) = some ((scan s n j ws (st : Int)).1.map cv, (scan s n j ws (st : Int)).2, 0)) := by
  intro t
  induction t with
  | zero =>
    have A : ∀ (i k n : Nat) (ws : List S47), i + 0 = R → n + i = s.size → (i < R → isNote s i = false) → ws.length ≤ i → 2 * 0 + 1 ≤ k →
      armadaref09_One.l1 k s (R : Int) (ws.map cv) (i : Int) = some ((scan s n i ws (-1)).1.map cv, (scan s n i ws (-1)).2, 0) := by
      intro i k n ws hi hn _ _ hk
      obtain ⟨k, rfl⟩ : ∃ k', k = k' + 1 := ⟨k - 1, by omega⟩
      obtain rfl : i = R := by omega
      rw [armadaref09_One.l1, if_neg (by omega), if_pos (by omega), if_pos (by omega), Int.toNat_natCast]
      cases n with
      | zero =>
        have e : s.extract i s.size = ⟨#[]⟩ := by
          have hz : (s.extract i s.size).size = 0 := by rw [ByteArray.size_extract]; omega
          exact ByteArray.size_eq_zero_iff.1 hz
        rw [scan, cutW_neg, e]
      | succ n =>
        have p := P2 (by omega)
        rw [Bool.and_eq_true] at p
        rw [scan, if_pos ⟨by omega, p.1⟩]
    refine ⟨A, ?_⟩
    intro st j k n ws hst hj hn hs1 hs2 hl hk
    obtain ⟨k, rfl⟩ : ∃ k', k = k' + 1 := ⟨k - 1, by omega⟩
    obtain rfl : j = R := by omega
    have hlen : (ws.map cv).length < 5864062014805 := by rw [List.length_map]; omega
    rw [armadaref09_One.l2, if_neg (by omega), if_pos (by omega), if_pos (by omega), if_pos (by omega), if_pos hlen, Int.toNat_natCast, Int.toNat_natCast]
    have hw : ws.map cv ++ [(⟨s.extract st j, (st : Int)⟩ : S58)] = (ws ++ [(⟨s.extract st j, (st : Int)⟩ : S47)]).map cv := by rw [List.map_append]; rfl
    rw [hw, A j k n _ (by omega) hn (fun h => by omega) (by rw [List.length_append]; simp; omega) (by omega)]
    cases n with
    | zero => rw [scan, scan, cutW_neg, show (s.size : Int) = ((j : Nat) : Int) by omega, cutW_pos]
    | succ n =>
      have p := P2 (by omega)
      rw [Bool.and_eq_true] at p
      have q := p.2
      unfold startB at q
      rw [hs2.1, hs2.2, beq_eq_false_iff_ne.2 (show j ≠ 0 by omega)] at q
      exact absurd q (by decide)
  | succ t ih =>
    obtain ⟨ihA, ihB⟩ := ih
    have A : ∀ (i k n : Nat) (ws : List S47), i + (t + 1) = R → n + i = s.size → (i < R → isNote s i = false) → ws.length ≤ i → 2 * (t + 1) + 1 ≤ k →
      armadaref09_One.l1 k s (R : Int) (ws.map cv) (i : Int) = some ((scan s n i ws (-1)).1.map cv, (scan s n i ws (-1)).2, 0) := by
      intro i k n ws hi hn hnn hl hk
      obtain ⟨k, rfl⟩ : ∃ k', k = k' + 2 := ⟨k - 2, by omega⟩
      obtain ⟨n, rfl⟩ : ∃ n', n = n' + 1 := ⟨n - 1, by omega⟩
      have e1 : wrap64 ((i : Int) + 1) = ((i + 1 : Nat) : Int) := by rw [w64 (by omega) (by omega)]; omega
      have hnot := hnn (by omega)
      have hnext : (blC (bt s (i : Int)) = true ∨ sepC (bt s (i : Int)) = true) → i + 1 < R → isNote s (i + 1) = false := by
        intro h hlt
        have p := P1 (i + 1) hlt
        have q : startB s (i + 1) = true := by
          unfold startB
          rw [show i + 1 - 1 = i by omega]
          rcases h with h | h <;> rw [h] <;> simp
        rw [q, Bool.and_true] at p
        exact p
      rw [armadaref09_One.l1, if_pos (by omega), if_pos (by omega), if_pos (by omega), blank_f, e1]
      simp only [Option.bind_some]
      have es : scan s (n + 1) i ws (-1) = scan s n (i + 1) (next s i ws (-1)).1 (next s i ws (-1)).2 := by rw [scan, if_neg (by rw [hnot]; simp)]
      rw [es]
      by_cases cb : blC (bt s (i : Int)) = true
      · rw [if_pos cb]
        have cs : ¬ sepC (bt s (i : Int)) = true := by
          intro h
          simp only [blC, sepC, Bool.or_eq_true, beq_iff_eq] at cb h
          omega
        have en : next s i ws (-1) = (ws, -1) := by unfold next; rw [if_neg cs, if_pos cb, cutW_neg]
        rw [en]
        exact ihA (i + 1) (k + 1) n ws (by omega) (by omega) (hnext (.inl cb)) (by omega) (by omega)
      · rw [if_neg cb]
        by_cases cs : sepC (bt s (i : Int)) = true
        · have hlen : (ws.map cv).length < 5864062014805 := by rw [List.length_map]; omega
          have en : next s i ws (-1) = (ws ++ [⟨s.extract i (i + 1), (i : Int)⟩], -1) := by unfold next; rw [if_pos cs, cutW_neg]
          have hw : ws.map cv ++ [(⟨s.extract i (i + 1), (i : Int)⟩ : S58)] = (ws ++ [(⟨s.extract i (i + 1), (i : Int)⟩ : S47)]).map cv := by rw [List.map_append]; rfl
          have hA := ihA (i + 1) k n (ws ++ [(⟨s.extract i (i + 1), (i : Int)⟩ : S47)]) (by omega) (by omega) (hnext (.inr cs)) (by rw [List.length_append]; simp; omega) (by omega)
          rw [en, armadaref09_One.l2]
          by_cases cR : i + 1 < R
          · rw [if_pos (by omega), if_pos (by omega), if_pos (by omega), sign_f]
            simp only [Option.bind_some]
            rw [if_pos cs, if_pos (by omega), if_pos (by omega), if_pos hlen, Int.toNat_natCast, Int.toNat_natCast, hw]
            exact hA
          · rw [if_neg (by omega), if_pos (by omega), if_pos (by omega), if_pos (by omega), if_pos hlen, Int.toNat_natCast, Int.toNat_natCast, hw]
            exact hA
        · have en : next s i ws (-1) = (ws, (i : Int)) := by unfold next; rw [if_neg cs, if_neg cb, if_pos (by omega)]
          rw [en]
          exact ihB i (i + 1) (k + 1) n ws (by omega) (by omega) (by omega) (Bool.eq_false_iff.2 cs) (by rw [show i + 1 - 1 = i by omega]; exact ⟨Bool.eq_false_iff.2 cs, Bool.eq_false_iff.2 cb⟩) (by omega) (by omega)
    refine ⟨A, ?_⟩
    intro st j k n ws hst hj hn hs1 hs2 hl hk
    obtain ⟨k, rfl⟩ : ∃ k', k = k' + 1 := ⟨k - 1, by omega⟩
    obtain ⟨n, rfl⟩ : ∃ n', n = n' + 1 := ⟨n - 1, by omega⟩
    have e1 : wrap64 ((j : Int) + 1) = ((j + 1 : Nat) : Int) := by rw [w64 (by omega) (by omega)]; omega
    have hlen : (ws.map cv).length < 5864062014805 := by rw [List.length_map]; omega
    have hw : ws.map cv ++ [(⟨s.extract st j, (st : Int)⟩ : S58)] = (ws ++ [(⟨s.extract st j, (st : Int)⟩ : S47)]).map cv := by rw [List.map_append]; rfl
    rw [armadaref09_One.l2, if_pos (by omega), if_pos (by omega), if_pos (by omega), sign_f]
    simp only [Option.bind_some]
    rw [if_neg (by rw [hs1]; decide), if_pos (by omega), if_pos (by omega), blank_f]
    simp only [Option.bind_some]
    by_cases cb : blC (bt s (j : Int)) = true
    · rw [if_pos cb, if_pos (by omega), if_pos (by omega), if_pos hlen, Int.toNat_natCast, Int.toNat_natCast, hw, scan_cut s n j st ws (.inr cb)]
      exact A j k (n + 1) _ (by omega) (by omega) (fun _ => notNote (.inr cb)) (by rw [List.length_append]; simp; omega) (by omega)
    · rw [if_neg cb, sign_f]
      simp only [Option.bind_some]
      by_cases cs : sepC (bt s (j : Int)) = true
      · rw [if_pos cs, if_pos (by omega), if_pos (by omega), if_pos hlen, Int.toNat_natCast, Int.toNat_natCast, hw, scan_cut s n j st ws (.inl cs)]
        exact A j k (n + 1) _ (by omega) (by omega) (fun _ => notNote (.inl cs)) (by rw [List.length_append]; simp; omega) (by omega)
      · have es : scan s (n + 1) j ws (st : Int) = scan s n (j + 1) (next s j ws (st : Int)).1 (next s j ws (st : Int)).2 := by rw [scan, if_neg (by omega)]
        rw [if_neg cs, e1, es]
        have en : next s j ws (st : Int) = (ws, (st : Int)) := by unfold next; rw [if_neg cs, if_neg cb, if_neg (by omega)]
        rw [en]
        exact ihB st (j + 1) k n ws (by omega) (by omega) (by omega) hs1 (by rw [show j + 1 - 1 = j by omega]; exact ⟨Bool.eq_false_iff.2 cs, Bool.eq_false_iff.2 cb⟩) (by omega) (by omega)
theorem ref_l0 (s : ByteArray) (hs : s.size ≤ 1000000) (K : Nat) : ∀ (n i : Nat), n + i = s.size →
    armadaref09_One.l0 (n + 1 + K) s (i : Int) = if anyOdd s n i = true then some ([], ⟨#[]⟩, 9) else (armadaref09_remark.f (n + K - n) s).bind fun t => armadaref09_One.l1 (n + K - n) s t [] 0
  | 0, i, hn => by
    rw [show 0 + 1 + K = K + 1 by omega, armadaref09_One.l0, if_neg (by omega), anyOdd, if_neg (by simp), show 0 + K - 0 = K by omega]
  | n + 1, i, hn => by
    have e1 : wrap64 ((i : Int) + 1) = ((i + 1 : Nat) : Int) := by rw [w64 (by omega) (by omega)]; omega
    have ih := ref_l0 s hs K n (i + 1) (by omega)
    rw [show n + 1 + 1 + K = (n + 1 + K) + 1 by omega, armadaref09_One.l0, if_pos (by omega), if_pos (by omega), e1, ih, anyOdd, show n + 1 + K - (n + 1) = n + K - n by omega]
    unfold oddC
    by_cases c1 : bt s (i : Int) < 32
    · rw [if_pos c1, decide_eq_true c1]
      by_cases c2 : bt s (i : Int) = 9
      · rw [if_pos c2, if_neg (by omega), c2]
        simp
      · rw [if_neg c2, bne_iff_ne.2 c2]
        simp
    · rw [if_neg c1, decide_eq_false c1]
      by_cases c2 : bt s (i : Int) > 126
      · rw [if_pos c2, decide_eq_true (show 126 < bt s (i : Int) by omega)]
        simp
      · rw [if_neg c2, decide_eq_false (show ¬ 126 < bt s (i : Int) by omega)]
        simp
/-- The document's One tells what the program's One tells. -/
theorem ref_One (s : ByteArray) (ws : List S47) (note : ByteArray) (e : Int) (h : lex_One.f s = some (ws, note, e)) (k : Nat) (hk : 4 * s.size + 10 ≤ k) : armadaref09_One.f k s = some (ws.map cv, note, e) := by
  unfold lex_One.f at h
  by_cases hs : s.size ≤ 1000000
  · rw [if_pos hs] at h
    replace h := Option.some.inj h
    obtain ⟨K, rfl⟩ : ∃ K, k = s.size + 1 + K := ⟨k - (s.size + 1), by omega⟩
    have hl := ref_l0 s hs K s.size 0 (by omega)
    rw [show s.size + K - s.size = K by omega] at hl
    unfold armadaref09_One.f
    rw [show ((0 : Nat) : Int) = 0 from rfl] at hl
    rw [hl]
    by_cases co : anyOdd s s.size 0 = true
    · rw [if_pos co] at h ⊢
      simp only [Prod.mk.injEq] at h
      obtain ⟨h1, h2, h3⟩ := h
      subst h1 h2 h3
      rfl
    · rw [if_neg co] at h ⊢
      simp only [Prod.mk.injEq] at h
      obtain ⟨h1, h2, h3⟩ := h
      subst h1 h2 h3
      obtain ⟨r1, r2, r3, r4⟩ := remP_spec s s.size 0 (by omega)
      have hr := remark_l0 s hs s.size 0 K (by omega) (by omega)
      unfold armadaref09_remark.f
      rw [show ((0 : Nat) : Int) = 0 from rfl] at hr
      rw [hr]
      simp only [Option.bind_some]
      have hw := (ref_words s hs (remP s s.size 0) r2 r4 (fun j hj => r3 j (Nat.zero_le _) hj) (remP s s.size 0)).1 0 K s.size [] (by omega) (by omega) (fun h0 => by
        have p := r3 0 (Nat.le_refl _) h0
        rw [show startB s 0 = true from rfl, Bool.and_true] at p
        exact p) (by simp) (by omega)
      exact hw
  · rw [if_neg hs] at h; cases h
end Go.Proofs.YtonjofjdmlblfaaDoor.P
