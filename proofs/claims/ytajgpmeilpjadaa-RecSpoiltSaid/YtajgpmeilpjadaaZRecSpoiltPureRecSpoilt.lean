/- A sector in which one byte changes is another head, or none; a payload's sector joins to another payload, or to none: whatever the input. -/
import Derived.Test.YtajgpmeilpjadaaZRecSpoiltRSpoilt2
set_option linter.unusedVariables false
set_option linter.unusedSimpArgs false
namespace Go.Proofs.Ytajgpmeilpjadaa.Pure
open Go.RowKit Go.Proofs.Ytajgpmeilpjadaa.P Go.Proofs.Ytajgpmeilpjadaa.Pl Go.Proofs.YtajgpmeilpjadaaW.PrintWords Go.Proofs.YtajgpmeilpjadaaW.PrintLast
theorem xor_ne (v x : Int) (h0 : 0 ≤ v) (h1 : v ≤ 255) (h2 : 1 ≤ x) (h3 : x ≤ 255) : (0 ≤ Go.bits .xor .u8 v x ∧ Go.bits .xor .u8 v x ≤ 255) ∧ Go.bits .xor .u8 v x ≠ v := by
  obtain ⟨m, rfl⟩ := Int.eq_ofNat_of_zero_le h0
  obtain ⟨n, rfl⟩ := Int.eq_ofNat_of_zero_le (show 0 ≤ x by omega)
  rw [u8_xor_nat m n (by omega) (by omega)]
  have hb : m ^^^ n < 2 ^ 8 := Nat.xor_lt_two_pow (by omega) (by omega)
  refine ⟨⟨by omega, by omega⟩, fun e => ?_⟩
  have e2 : m ^^^ n = m := by omega
  have e3 : m ^^^ (m ^^^ n) = m ^^^ m := by rw [e2]
  rw [← Nat.xor_assoc, Nat.xor_self, Nat.zero_xor] at e3
  omega
theorem spoilt_bs (s : ByteArray) (i : Nat) (h : i < s.size) (y : Int) (hy : 0 ≤ y ∧ y ≤ 255) (hn : y ≠ bt s (i : Int)) : strOfNums ((bs s).set i y) ≠ s := by
  intro e
  have h1 : bs (strOfNums ((bs s).set i y)) = (bs s).set i y := bs_strOfNums _ (by
    intro c hc
    rcases List.mem_or_eq_of_mem_set hc with h | rfl
    · exact bs_range s c h
    · exact hy)
  rw [e] at h1
  have hl : i < (bs s).length := by rw [bs_length]; exact h
  have h2 : (bs s)[i]? = ((bs s).set i y)[i]? := by rw [← h1]
  rw [List.getElem?_set_self hl, List.getElem?_eq_getElem hl, ← bt_bs s i h] at h2
  exact hn (Option.some.inj h2).symm
theorem RecSpoilt (a b c d e : Int) (p : ByteArray) (x0 x1 : Int) (w : World) (he : I64 e) :
    Calls Try.prog 6 #[.agg #[.int .i64 a, .int .i64 b, .int .i64 c, .int .i64 d, .int .i64 e], .string p, .agg #[.int .i64 x0, .int .i64 x1]] w fun e w' => e = .returned (.bool true) ∧ Below w.heap.size w w' := by
  have hT := Text_spec a b c d e he 3000 (by omega)
  have hl : Aside0 (armadalaw03_live.f 3000 = some true) := ⟨live_at 3000 (by omega)⟩
  by_cases hm : mayP a b c d e
  · rw [if_pos hm] at hT
    by_cases ho : p.size ≤ 200 ∧ 0 ≤ x0 ∧ x0 ≤ 31 ∧ 1 ≤ x1 ∧ x1 ≤ 255
    · obtain ⟨hp, h0, h1, h2, h3⟩ := ho
      obtain ⟨i, rfl⟩ := Int.eq_ofNat_of_zero_le h0
      have hi : i < 32 := by omega
      have hs := headT_size a b c d e
      generalize hse : headT a b c d e = s at *
      have hv := bt_range s (i : Int)
      have hy := xor_ne (bt s (i : Int)) x1 hv.1 hv.2 h2 h3
      have hS := spoilt_bs s i (by omega) _ hy.1 hy.2
      have hR := Read_spec (strOfNums ((bs s).set i (Go.bits .xor .u8 (bt s (i : Int)) x1))) 3000 (by omega)
      obtain ⟨r1, r2, r3, r4, r5, has, hr⟩ : ∃ r1 r2 r3 r4 r5 has, readP (strOfNums ((bs s).set i (Go.bits .xor .u8 (bt s (i : Int)) x1))) = (r1, r2, r3, r4, r5, has) := ⟨_, _, _, _, _, _, rfl⟩
      rw [hr] at hR
      obtain ⟨jt, jr, hj⟩ : ∃ jt jr, joinP ((cutP p).set 0 (strOfNums ((bs (rdOf ByteArray.empty (cutP p) 0)).set i (Go.bits .xor .u8 (bt (rdOf ByteArray.empty (cutP p) 0) (i : Int)) x1)))) (p.size : Int) = (jt, jr) := ⟨_, _, rfl⟩
      have hJ := Join_spec ((cutP p).set 0 (strOfNums ((bs (rdOf ByteArray.empty (cutP p) 0)).set i (Go.bits .xor .u8 (bt (rdOf ByteArray.empty (cutP p) 0) (i : Int)) x1)))) (p.size : Int) 3000 (by omega)
      rw [hj] at hJ
      have hcl := cutP_length p (by omega)
      have hce : cutP p = cutN p (cntN p.size) := by unfold cutP; rw [if_pos (by omega)]
      have hfirst : 0 < (cutP p).length → rdOf ByteArray.empty (cutP p) 0 = chunk p 0 := by
        intro h
        rw [hce, cutN_length] at h
        rw [hce, show (0 : Int) = ((0 : Nat) : Int) from rfl, rdOf_get _ 0 (by rw [cutN_length]; exact h)]
        simp [cutN]
      refine spoilt_in a b c d e p i x1 w 3000 s hi h2 h3 hs hp ⟨hT⟩ hl _ ⟨rfl⟩ r1 r2 r3 r4 r5 has ⟨hR⟩ (cutP p) ⟨Cut_spec p 3000 (by omega)⟩ ⟨fun h => ?_⟩ ⟨fun h => ?_⟩ _ ⟨rfl⟩ jt jr ⟨hJ⟩ ⟨fun h hjr => ?_⟩ ⟨fun hh => ?_⟩
      · rw [h] at hcl
        exact (toList_nil p).2 (by unfold cntN at hcl; simp at hcl; omega)
      · rw [hfirst h, chunk_size]
      · subst hjr
        rw [beq_eq_false_iff_ne]
        intro e2
        have e3 := toList_inj e2
        unfold joinP at hj
        split at hj
        · rename_i hjs
          have e4 := (Prod.mk.inj hj).1
          have e5 := hjs.2.2
          rw [e4, e3] at e5
          rw [hfirst h] at e5
          have hl0 : (cutP p)[0]? = some (chunk p 0) := by
            rw [hce, cutN_length] at h
            rw [hce]
            simp [cutN, h]
          have e6 : (cutP p)[0]? = ((cutP p).set 0 (strOfNums ((bs (chunk p 0)).set i (Go.bits .xor .u8 (bt (chunk p 0) (i : Int)) x1))))[0]? := by rw [← e5]
          rw [List.getElem?_set_self h, hl0] at e6
          have hv2 := bt_range (chunk p 0) (i : Int)
          have hz := xor_ne (bt (chunk p 0) (i : Int)) x1 hv2.1 hv2.2 h2 h3
          exact spoilt_bs (chunk p 0) i (by rw [chunk_size]; exact hi) _ hz.1 hz.2 (Option.some.inj e6).symm
        · exact absurd (Prod.mk.inj hj).2 (by simp)
      · subst hh
        unfold readP at hr
        split at hr
        · rename_i hd
          simp only [Prod.mk.injEq] at hr
          obtain ⟨g1, g2, g3, g4, g5, _⟩ := hr
          rw [Bool.eq_false_iff]
          intro hall
          simp only [Bool.and_eq_true, beq_iff_eq] at hall
          obtain ⟨q1, q2, q3, q4, q5⟩ := hall
          have := toList_inj hd.2.2
          rw [g1, g2, g3, g4, g5, q1, q2, q3, q4, q5, hse] at this
          exact hS this.symm
        · simp only [Prod.mk.injEq] at hr
          exact absurd hr.2.2.2.2.2 (by simp)
    · exact spoilt_out a b c d e p x0 x1 w 3000 _ true ⟨hT⟩ hl (fun h => ho h.2)
  · rw [if_neg hm] at hT
    exact spoilt_out a b c d e p x0 x1 w 3000 _ false ⟨hT⟩ hl (fun h => by simp at h)
end Go.Proofs.Ytajgpmeilpjadaa.Pure
