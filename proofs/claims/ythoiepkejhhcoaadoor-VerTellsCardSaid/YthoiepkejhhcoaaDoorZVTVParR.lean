/- ver: the document's Parse is the program's. -/
import Derived.Test.YthoiepkejhhcoaaDoorZVTVRef3
set_option linter.unusedVariables false
set_option linter.unusedSimpArgs false
namespace Go.Proofs.YthoiepkejhhcoaaDoor.P
open Go.RowKit Go.Proofs.YthoiepkejhhcoaaDoorW.PrintWords Go.Proofs.YthoiepkejhhcoaaDoorW.PrintLast Go.Proofs.YthoiepkejhhcoaaDoorW.PrintMore
theorem three_of {l : List ByteArray} (h : l.length = 3) : ∃ x y z, l = [x, y, z] := by
  match l, h with
  | [x, y, z], _ => exact ⟨x, y, z, rfl⟩
theorem rj2 (s x pre bld : ByteArray) (hx : x.size ≤ 1000) (k : Nat) (hk : 4000010 ≤ k) : ∃ v0 v1 v2 : Int,
    armadaref07_Parse.j2 (k + 1) s x 0 0 0 pre bld = some (if (spl 46 x).length = 3 then (if (textZ v0 v1 v2 pre bld).toList = s.toList then (v0, v1, v2, pre, bld, true) else noV) else noV) ∧
    (∀ a b c, numB a = true → numB b = true → numB c = true → spl 46 x = [itoaB a, itoaB b, itoaB c] → v0 = a ∧ v1 = b ∧ v2 = c) := by
  rw [armadaref07_Parse.j2, rspl_f x (by omega) k (by omega)]
  simp only [Option.bind_some]
  by_cases h : (spl 46 x).length = 3
  · obtain ⟨x0, x1, x2, hl⟩ := three_of h
    have z0 : x0.size ≤ 1000 := Nat.le_trans (spl_sizes 46 x x0 (by rw [hl]; simp)) hx
    have z1 : x1.size ≤ 1000 := Nat.le_trans (spl_sizes 46 x x1 (by rw [hl]; simp)) hx
    have z2 : x2.size ≤ 1000 := Nat.le_trans (spl_sizes 46 x x2 (by rw [hl]; simp)) hx
    obtain ⟨v0, r0⟩ := rread_any x0 (by omega) k (by omega)
    obtain ⟨v1, r1⟩ := rread_any x1 (by omega) k (by omega)
    obtain ⟨v2, r2⟩ := rread_any x2 (by omega) k (by omega)
    refine ⟨v0, v1, v2, ?_, ?_⟩
    · rw [hl]
      have g0 : rdOf ByteArray.empty [x0, x1, x2] 0 = x0 := rfl
      have g1 : rdOf ByteArray.empty [x0, x1, x2] 1 = x1 := rfl
      have g2 : rdOf ByteArray.empty [x0, x1, x2] 2 = x2 := rfl
      have len : ([x0, x1, x2] : List ByteArray).length = 3 := rfl
      rw [len, if_pos (show ((3 : Nat) : Int) = 3 from rfl), if_pos (show (0 : Int) < ((3 : Nat) : Int) by omega), g0, r0, g1, r1, g2, r2]
      simp only [Option.bind_some]
      rw [if_pos (show (1 : Int) < ((3 : Nat) : Int) by omega), if_pos (show (2 : Int) < ((3 : Nat) : Int) by omega), rtext_f _ _ _ _ _ k (by omega)]
      simp only [Option.bind_some]
      rw [if_pos trivial]
      split <;> rfl
    · intro a b c na nb nc e
      rw [hl] at e
      injection e with e0 e
      injection e with e1 e
      injection e with e2 e
      rw [e0, rread_n a na k (by omega)] at r0
      rw [e1, rread_n b nb k (by omega)] at r1
      rw [e2, rread_n c nc k (by omega)] at r2
      exact ⟨(Option.some.inj r0).symm, (Option.some.inj r1).symm, (Option.some.inj r2).symm⟩
  · refine ⟨0, 0, 0, ?_, ?_⟩
    · rw [if_neg h, if_neg (by omega)]; rfl
    · intro a b c _ _ _ e
      rw [e] at h
      exact absurd rfl h
theorem rj1 (s x bld : ByteArray) (hx : x.size ≤ 1000) (k : Nat) : 4000011 ≤ k → armadaref07_Parse.j1 (k + 1) s x 0 0 0 ⟨#[]⟩ bld = armadaref07_Parse.j2 k s (cut2 45 x).1 0 0 0 (cut2 45 x).2 bld := by
  intro hk
  have hf := rfind_f x 45 (by omega) k (by omega)
  change armadaref07_find.f k x 45 = _ at hf
  rw [armadaref07_Parse.j1, hf]
  simp only [Option.bind_some]
  unfold cut2
  by_cases e : cnt 45 x = 0
  · rw [if_pos e, if_neg (by omega), if_pos e]; rfl
  · obtain ⟨h1, _, _, _⟩ := cnt_first (c := 45) (x := x) (by omega)
    rw [if_neg e, wsucc _ (by omega), if_neg e, if_pos (by omega), if_pos (by omega), if_pos (by omega), if_pos (by omega), if_pos (by omega), Int.toNat_natCast, Int.toNat_natCast]
theorem rj0 (s : ByteArray) (hs : s.size ≤ 1000) (h0 : s.size ≠ 0) (k : Nat) : 4000012 ≤ k → armadaref07_Parse.j0 (k + 1) s s false 0 0 0 ⟨#[]⟩ ⟨#[]⟩ = armadaref07_Parse.j1 k s (cut2 43 (s.extract 1 s.size)).1 0 0 0 ⟨#[]⟩ (cut2 43 (s.extract 1 s.size)).2 := by
  intro hk
  have hz : (s.extract 1 s.size).size ≤ 1000 := by rw [ByteArray.size_extract]; omega
  rw [armadaref07_Parse.j0, if_neg (by simp), if_pos (by omega)]
  generalize s.extract 1 s.size = x at *
  have hf := rfind_f x 43 (by omega) k (by omega)
  change armadaref07_find.f k x 43 = _ at hf
  rw [hf]
  simp only [Option.bind_some]
  unfold cut2
  by_cases e : cnt 43 x = 0
  · rw [if_pos e, if_neg (by omega), if_pos e]; rfl
  · obtain ⟨h1, _, _, _⟩ := cnt_first (c := 43) (x := x) (by omega)
    rw [if_neg e, wsucc _ (by omega), if_neg e, if_pos (by omega), if_pos (by omega), if_pos (by omega), if_pos (by omega), if_pos (by omega), Int.toNat_natCast, Int.toNat_natCast]
theorem rparse_no (s : ByteArray) (k : Nat) (hk : 1 ≤ k) : armadaref07_Parse.j0 k s s true 0 0 0 ⟨#[]⟩ ⟨#[]⟩ = some noV := by
  obtain ⟨k, rfl⟩ : ∃ k', k = k' + 1 := ⟨k - 1, by omega⟩
  rw [armadaref07_Parse.j0, if_pos rfl]; rfl
theorem rparse_yes (s : ByteArray) (k : Nat) (hk : 4000100 ≤ k) (h1 : s.size ≤ 100) (h2 : hasV s = true) : ∃ v0 v1 v2 : Int,
    armadaref07_Parse.f k s = some (if (spl 46 (cut2 45 (cut2 43 (s.extract 1 s.size)).1).1).length = 3 then (if (textZ v0 v1 v2 (cut2 45 (cut2 43 (s.extract 1 s.size)).1).2 (cut2 43 (s.extract 1 s.size)).2).toList = s.toList then (v0, v1, v2, (cut2 45 (cut2 43 (s.extract 1 s.size)).1).2, (cut2 43 (s.extract 1 s.size)).2, true) else noV) else noV) ∧
    (∀ a b c, numB a = true → numB b = true → numB c = true → spl 46 (cut2 45 (cut2 43 (s.extract 1 s.size)).1).1 = [itoaB a, itoaB b, itoaB c] → v0 = a ∧ v1 = b ∧ v2 = c) := by
  obtain ⟨k, rfl⟩ : ∃ k', k = k' + 3 := ⟨k - 3, by omega⟩
  unfold hasV at h2
  simp only [Bool.and_eq_true, decide_eq_true_eq, beq_iff_eq] at h2
  have c1 := cut2_size 43 (s.extract 1 s.size)
  have c2 := cut2_size 45 (cut2 43 (s.extract 1 s.size)).1
  have hz : (s.extract 1 s.size).size ≤ 100 := by rw [ByteArray.size_extract]; omega
  obtain ⟨v0, v1, v2, e, n⟩ := rj2 s (cut2 45 (cut2 43 (s.extract 1 s.size)).1).1 (cut2 45 (cut2 43 (s.extract 1 s.size)).1).2 (cut2 43 (s.extract 1 s.size)).2 (by omega) k (by omega)
  refine ⟨v0, v1, v2, ?_, n⟩
  have hb : (bt s 0 != 118) = false := by rw [h2.2]; rfl
  unfold armadaref07_Parse.f
  rw [if_neg (by omega), if_neg (by omega), if_pos (by omega), hb, rj0 s (by omega) (by omega) (k + 2) (by omega), rj1 s _ _ (by omega) (k + 1) (by omega)]
  exact e
theorem rparse_other (s : ByteArray) (k : Nat) (hk : 1 ≤ k) (h : ¬ (s.size ≤ 100 ∧ hasV s = true)) : armadaref07_Parse.f k s = some noV := by
  unfold armadaref07_Parse.f
  by_cases c1 : (s.size : Int) > 100
  · rw [if_pos c1]; exact rparse_no s k hk
  · rw [if_neg c1]
    by_cases c2 : (s.size : Int) = 0
    · rw [if_pos c2]; exact rparse_no s k hk
    · rw [if_neg c2, if_pos (by omega)]
      have hb : (bt s 0 != 118) = true := by
        rw [bne_iff_ne]
        intro e
        refine h ⟨by omega, ?_⟩
        unfold hasV
        rw [e, decide_eq_true (show 0 < s.size by omega)]; rfl
      rw [hb]; exact rparse_no s k hk
theorem itoaB_nine (n : Int) (h : numB n = true) : (itoaB n).size ≤ 9 := by
  obtain ⟨u, rfl, hu⟩ := num_nat h
  have hs : (itoaB (u : Int)).data.toList = Lib.decDigits u := by unfold itoaB; rw [Lib.itoa_nonneg]
  have hsz : (itoaB (u : Int)).size = (Lib.decDigits u).length := by rw [← hs, Array.length_toList]; rfl
  rw [hsz, Lib.decDigits_length]
  exact nd_le 8 u (by omega)
theorem text_100 {a b c : Int} {p q : ByteArray} (h : checkB a b c p q = true) : (textZ a b c p q).size ≤ 100 := by
  obtain ⟨n1, n2, n3, hp, hq⟩ := check_nums h
  have s1 := itoaB_nine a n1
  have s2 := itoaB_nine b n2
  have s3 := itoaB_nine c n3
  have hd : (numD a b c).size ≤ 29 := by
    unfold numD
    rw [ByteArray.size_append, ByteArray.size_append, ByteArray.size_append, ByteArray.size_append, one_size]; omega
  have hw : (withPre (numD a b c) p).size ≤ 60 := by
    unfold withPre
    split
    · omega
    · rw [ByteArray.size_append, ByteArray.size_append, one_size]; omega
  have hb : (withBld (withPre (numD a b c) p) q).size ≤ 91 := by
    unfold withBld
    split
    · omega
    · rw [ByteArray.size_append, ByteArray.size_append, one_size]; omega
  rw [text_v a b c p q h, ByteArray.size_append, one_size]; omega
theorem rparse_text (a b c : Int) (p q : ByteArray) (h : checkB a b c p q = true) (k : Nat) (hk : 4000100 ≤ k) : armadaref07_Parse.f k (textZ a b c p q) = some (a, b, c, p, q, true) := by
  obtain ⟨n1, n2, n3, _, _⟩ := check_nums h
  obtain ⟨k1, k2, k3⟩ := text_cuts a b c p q h
  have ht := text_v a b c p q h
  have hv : hasV (textZ a b c p q) = true := by rw [ht]; exact has_v _
  obtain ⟨v0, v1, v2, e, n⟩ := rparse_yes (textZ a b c p q) k hk (text_100 h) hv
  have hx : (textZ a b c p q).extract 1 (textZ a b c p q).size = withBld (withPre (numD a b c) p) q := by rw [ht, cut_v]
  rw [hx, k1] at e n
  dsimp only at e n
  rw [k2] at e n
  dsimp only at e n
  obtain ⟨rfl, rfl, rfl⟩ := n a b c n1 n2 n3 k3
  rw [e, k3, if_pos (show [itoaB v0, itoaB v1, itoaB v2].length = 3 from rfl), if_pos rfl]
theorem parse_flag (s : ByteArray) : parseZ s = noV ∨ ∃ a b c p q, parseZ s = (a, b, c, p, q, true) := by
  unfold parseZ
  split
  · unfold parseT
    split
    · generalize atoiO (nth _ 0) = x
      generalize atoiO (nth _ 1) = y
      generalize atoiO (nth _ 2) = z
      cases x <;> cases y <;> cases z <;> first | exact .inl rfl | skip
      unfold fin3
      dsimp only
      split
      · exact .inr ⟨_, _, _, _, _, rfl⟩
      · exact .inl rfl
    · exact .inl rfl
  · exact .inl rfl
theorem rparse_f (s : ByteArray) (k : Nat) (hk : 4000100 ≤ k) : armadaref07_Parse.f k s = some (parseZ s) := by
  rcases parse_flag s with h | ⟨a, b, c, p, q, h⟩
  · rw [h]
    by_cases g : s.size ≤ 100 ∧ hasV s = true
    · obtain ⟨v0, v1, v2, e, _⟩ := rparse_yes s k hk g.1 g.2
      rw [e]
      split
      · split
        · rename_i ht
          have hts := (toList_eq _ _).1 ht
          exfalso
          have hc : checkB v0 v1 v2 (cut2 45 (cut2 43 (s.extract 1 s.size)).1).2 (cut2 43 (s.extract 1 s.size)).2 = true := by
            apply Classical.byContradiction
            intro hn
            unfold textZ at hts
            rw [if_neg hn] at hts
            have hv := g.2
            rw [← hts] at hv
            revert hv; decide
          have := parse_text _ _ _ _ _ hc
          rw [hts, h] at this
          unfold noV at this
          simp at this
        · rfl
      · rfl
    · exact rparse_other s k (by omega) g
  · obtain ⟨hc, ht⟩ := parse_true h
    rw [h, ← ht]
    exact rparse_text a b c p q hc k hk
end Go.Proofs.YthoiepkejhhcoaaDoor.P
