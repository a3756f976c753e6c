/- RecSpoilt, walked by hand: it writes into bytes that a conversion of a text has made. -/
import Derived.Test.YtajgpmeilpjadaaZRecSpoiltRJoin
import Derived.Test.YtajgpmeilpjadaaZRecSpoiltRLive
import Derived.Test.YtajgpmeilpjadaaZRecSpoiltBRow
import Derived.Test.YtajgpmeilpjadaaZRecSpoiltQTail
import Derived.Laws.BitsAllLaws
import Derived.Outline
namespace Go.Proofs.Ytajgpmeilpjadaa.P
open Go.RowKit Go.Proofs.YtajgpmeilpjadaaW.PrintWords Go.Proofs.YtajgpmeilpjadaaW.PrintLast Go.Proofs.YtajgpmeilpjadaaW.PrintMore Go.Proofs.Ytajgpmeilpjadaa.Pl
attribute [local go_sem] max2_int min2_int max_two min_two max_three min_three max_four min_four
set_option linter.unusedVariables false
set_option linter.unusedSimpArgs false
theorem name_world {P : Program} {c : Code} {Q : Exit → Act → World → Prop} {a : Act} {W : World} (φ : World → Prop) (F : φ W) (h : ∀ W1, φ W1 → c.wp P Q a W1) : c.wp P Q a W := h W F
theorem eqA23 (d : Nat) (w : World) (x0 y0 : Int) (x1 y1 : Int) (x2 y2 : Int) (x3 y3 : Int) (x4 y4 : Int) :
    (Op.equalIn (d + 2) 23 (.agg #[.int .i64 x0, .int .i64 x1, .int .i64 x2, .int .i64 x3, .int .i64 x4]) (.agg #[.int .i64 y0, .int .i64 y1, .int .i64 y2, .int .i64 y3, .int .i64 y4])).run Try.prog w = .ok (x0 == y0 && (x1 == y1 && (x2 == y2 && (x3 == y3 && (x4 == y4))))) w := by
  refine eqA_of Try.underlying23 (by kernel_rfl) ?_
  refine eqf_cons (by rfl) (by go_simp; rfl) (by go_simp; rfl) (by go_simp) ?_
  refine eqf_cons (by rfl) (by go_simp; rfl) (by go_simp; rfl) (by go_simp) ?_
  refine eqf_cons (by rfl) (by go_simp; rfl) (by go_simp; rfl) (by go_simp) ?_
  refine eqf_cons (by rfl) (by go_simp; rfl) (by go_simp; rfl) (by go_simp) ?_
  exact eqf_last (by rfl) (by go_simp; rfl) (by go_simp; rfl) (by go_simp)
theorem bcell {W w1 : World} (hb : Below W.heap.size W w1) : (∀ b o, b < W.heap.size → w1.cell? ⟨b, o, none⟩ = W.cell? ⟨b, o, none⟩) ∧ (∀ b o, b < W.heap.size → w1.frozen? ⟨b, o, none⟩ = W.frozen? ⟨b, o, none⟩) :=
  ⟨fun b o h => hb.cell (p := ⟨b, o, none⟩) h, fun b o h => hb.frozen (p := ⟨b, o, none⟩) h⟩
set_option maxHeartbeats 8000000 in
set_option maxRecDepth 100000 in
/-- Where the statement lets the input out. -/
theorem spoilt_out (a b c d e : Int) (p : ByteArray) (x0 x1 : Int) (w : World) (k : Nat) (s : ByteArray) (is : Bool) (hT : Aside0 (rec_Head_Text.f k a b c d e = some (s, is))) (hl : Aside0 (armadalaw03_live.f k = some true))
    (ho : ¬ (is = true ∧ p.size ≤ 200 ∧ 0 ≤ x0 ∧ x0 ≤ 31 ∧ 1 ≤ x1 ∧ x1 ≤ 255)) :
    Calls Try.prog 6 #[.agg #[.int .i64 a, .int .i64 b, .int .i64 c, .int .i64 d, .int .i64 e], .string p, .agg #[.int .i64 x0, .int .i64 x1]] w fun e w' => e = .returned (.bool true) ∧ Below w.heap.size w w' := by
  have HB0 := Aside0.mk ((((Below.refl w.heap.size w).alloc (Nat.le_refl _) (.cells #[.int .i64 a, .int .i64 b, .int .i64 c, .int .i64 d, .int .i64 e] 23)).alloc (by simp) (.cells #[.int .i64 x0, .int .i64 x1] 43)))
  cases is with
  | false =>
    clear ho
    go_enter Try.func6, Try.ntmps6
    go_wp2_with (first
      | (go_at_call 9; (with_reducible refine (rec_Head_Text.calls k a b c d e s false _ hT.out).mono ?_); rintro e w1 ⟨rfl, hb⟩; replace hb := Aside0.mk hb)
      | (go_at_call 8; (with_reducible refine (armadalaw03_live.calls k true _ hl.out).mono ?_); rintro e w2 ⟨rfl, hb2⟩))
    go_ret
    exact ⟨rfl, HB0.out.trans ((hb.out.trans (hb2.mono hb.out.size)).mono (by simp; omega))⟩
  | true =>
    have key : ∀ (q0 q1 q2 q3 q4 : Bool), decide (200 < (p.size : Int)) = q0 → decide (200 < p.size) = q0 → decide (x0 < 0) = q1 → decide (31 < x0) = q2 → decide (x1 < 1) = q3 → decide (255 < x1) = q4 → (q0 || q1 || q2 || q3 || q4) = true →
        Calls Try.prog 6 #[.agg #[.int .i64 a, .int .i64 b, .int .i64 c, .int .i64 d, .int .i64 e], .string p, .agg #[.int .i64 x0, .int .i64 x1]] w fun e w' => e = .returned (.bool true) ∧ Below w.heap.size w w' := by
      intro q0 q1 q2 q3 q4 d0 d0' d1 d2 d3 d4 hq
      clear ho
      have go : Calls Try.prog 6 #[.agg #[.int .i64 a, .int .i64 b, .int .i64 c, .int .i64 d, .int .i64 e], .string p, .agg #[.int .i64 x0, .int .i64 x1]] w fun e w' => e = .returned (.bool true) ∧ Below w.heap.size w w' := by
        cases q0 <;> cases q1 <;> cases q2 <;> cases q3 <;> cases q4 <;> first | (cases hq; done) | skip
        all_goals
          clear hq
          go_enter Try.func6, Try.ntmps6
          go_wp2_with (first
            | (go_at_call 9; (with_reducible refine (rec_Head_Text.calls k a b c d e s true _ hT.out).mono ?_); rintro e w1 ⟨rfl, hb⟩; have hcf := bcell hb; replace hb := Aside0.mk hb)
            | (go_at_call 8; (with_reducible refine (armadalaw03_live.calls k true _ hl.out).mono ?_); rintro e w2 ⟨rfl, hb2⟩))
          go_ret
          exact ⟨rfl, HB0.out.trans ((hb.out.trans (hb2.mono hb.out.size)).mono (by simp; omega))⟩
      exact go
    refine key _ _ _ _ _ rfl (by rw [decide_eq_decide]; omega) rfl rfl rfl rfl ?_
    by_cases h0 : 200 < (p.size : Int)
    · simp [h0]
    by_cases h1 : x0 < 0
    · simp [h1]
    by_cases h2 : 31 < x0
    · simp [h2]
    by_cases h3 : x1 < 1
    · simp [h3]
    by_cases h4 : 255 < x1
    · simp [h4]
    exact absurd ⟨rfl, by omega, by omega, by omega, by omega, by omega⟩ ho
end Go.Proofs.Ytajgpmeilpjadaa.P
