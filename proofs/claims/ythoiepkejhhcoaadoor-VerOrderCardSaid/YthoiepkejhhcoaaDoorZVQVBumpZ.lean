/- ver: what Bump tells. -/
import Derived.Test.YthoiepkejhhcoaaDoorZVQVBump
import Derived.Test.YthoiepkejhhcoaaDoorZVQVOrd
set_option linter.unusedVariables false
set_option linter.unusedSimpArgs false
namespace Go.Proofs.YthoiepkejhhcoaaDoor.P
open Go.RowKit Go.Proofs.YthoiepkejhhcoaaDoorW.PrintWords Go.Proofs.YthoiepkejhhcoaaDoorW.PrintLast Go.Proofs.YthoiepkejhhcoaaDoorW.PrintMore
def stepA (a : Int) : Int × Int × Int × Int := if numB (a + 1) = true then (a + 1, 0, 0, 0) else (0, 0, 0, 15)
def stepB (a b : Int) : Int × Int × Int × Int := if numB (b + 1) = true then (a, b + 1, 0, 0) else stepA a
def stepC (a b c : Int) : Int × Int × Int × Int := if numB (c + 1) = true then (a, b, c + 1, 0) else stepB a b
def fitsZ (b c : Int) (p : ByteArray) (l : Int) : Prop := p.size ≠ 0 ∧ (l < 2 ∨ c = 0) ∧ (l < 3 ∨ b = 0)
instance (b c : Int) (p : ByteArray) (l : Int) : Decidable (fitsZ b c p l) := by unfold fitsZ; exact inferInstance
def bumpZ (a b c : Int) (p q : ByteArray) (l : Int) : Int × Int × Int × Int :=
  if checkB a b c p q = true ∧ 1 ≤ l ∧ l ≤ 3 then (if fitsZ b c p l then (a, b, c, 0) else (if l = 1 then stepC a b c else (if l = 2 then stepB a b else stepA a))) else (0, 0, 0, 1)
def BTold4 (w : World) (r : Int × Int × Int × Int) : Ending → World → Prop := BTold w r.1 r.2.1 r.2.2.1 r.2.2.2
theorem nil3 {x : ByteArray} (h : x.size = 0) : (x.toList == ([] : List UInt8)) = true ∧ x.toList.isEmpty = true ∧ (x.toList != ([] : List UInt8)) = false := by
  have := (toList_nil x).2 h
  rw [this]; exact ⟨rfl, rfl, rfl⟩
theorem some3 {x : ByteArray} (h : x.size ≠ 0) : (x.toList == ([] : List UInt8)) = false ∧ x.toList.isEmpty = false ∧ (x.toList != ([] : List UInt8)) = true := by
  obtain ⟨h1, h2⟩ := some_facts h
  exact ⟨h1, h2, by rw [bne, h1]; rfl⟩
theorem bump_any (a b c l : Int) (p q : ByteArray) (hl : p.size ≤ 1000000 ∧ q.size ≤ 1000000) (w : World) : Calls Tryd.prog 17 #[.agg #[.int .i64 a, .int .i64 b, .int .i64 c, .string p, .string q], .int .i64 l] w (BTold4 w (bumpZ a b c p q l)) := by
  unfold bumpZ
  by_cases h : checkB a b c p q = true
  · obtain ⟨n1, n2, n3, _, _⟩ := check_nums h
    have hn : numB a = true ∧ numB b = true ∧ numB c = true := ⟨n1, n2, n3⟩
    by_cases l1 : 1 ≤ l
    · by_cases l3 : l ≤ 3
      · rw [if_pos ⟨h, l1, l3⟩]
        have hc : l = 1 ∨ l = 2 ∨ l = 3 := by omega
        by_cases e : p.size = 0
        · have hf : ¬ fitsZ b c p l := fun g => g.1 e
          rw [if_neg hf]
          obtain ⟨e1, e2, e3⟩ := nil3 e
          rcases hc with rfl | rfl | rfl
          · rw [if_pos rfl]
            unfold stepC stepB stepA
            cases c1 : numB (c + 1) with
            | true => rw [if_pos rfl]; exact bump_1c a b c p q hl w h hn e1 e2 e3 c1
            | false =>
              rw [if_neg (by simp)]
              cases b1 : numB (b + 1) with
              | true => rw [if_pos rfl]; exact bump_1b a b c p q hl w h hn e1 e2 e3 c1 b1
              | false =>
                rw [if_neg (by simp)]
                cases a1 : numB (a + 1) with
                | true => rw [if_pos rfl]; exact bump_1a a b c p q hl w h hn e1 e2 e3 c1 b1 a1
                | false => rw [if_neg (by simp)]; exact bump_1o a b c p q hl w h hn e1 e2 e3 c1 b1 a1
          · rw [if_neg (by omega), if_pos rfl]
            unfold stepB stepA
            cases b1 : numB (b + 1) with
            | true => rw [if_pos rfl]; exact bump_2eb a b c p q hl w h hn e1 e2 e3 b1
            | false =>
              rw [if_neg (by simp)]
              cases a1 : numB (a + 1) with
              | true => rw [if_pos rfl]; exact bump_2ea a b c p q hl w h hn e1 e2 e3 b1 a1
              | false => rw [if_neg (by simp)]; exact bump_2eo a b c p q hl w h hn e1 e2 e3 b1 a1
          · rw [if_neg (by omega), if_neg (by omega)]
            unfold stepA
            cases a1 : numB (a + 1) with
            | true => rw [if_pos rfl]; exact bump_3ea a b c p q hl w h hn e1 e2 e3 a1
            | false => rw [if_neg (by simp)]; exact bump_3eo a b c p q hl w h hn e1 e2 e3 a1
        · obtain ⟨e1, e2, e3⟩ := some3 e
          rcases hc with rfl | rfl | rfl
          · have hf : fitsZ b c p 1 := ⟨e, .inl (by omega), .inl (by omega)⟩
            rw [if_pos hf]; exact bump_1f a b c p q hl w h hn e1 e2 e3
          · by_cases c0 : c = 0
            · have hf : fitsZ b c p 2 := ⟨e, .inr c0, .inl (by omega)⟩
              rw [if_pos hf]; exact bump_2f a b c p q hl w h hn e1 e2 e3 (beq_iff_eq.2 c0)
            · have hf : ¬ fitsZ b c p 2 := fun g => by rcases g.2.1 with g | g <;> omega
              have cz := beq_eq_false_iff_ne.2 c0
              rw [if_neg hf, if_neg (by omega), if_pos rfl]
              unfold stepB stepA
              cases b1 : numB (b + 1) with
              | true => rw [if_pos rfl]; exact bump_2cb a b c p q hl w h hn e1 e2 e3 cz b1
              | false =>
                rw [if_neg (by simp)]
                cases a1 : numB (a + 1) with
                | true => rw [if_pos rfl]; exact bump_2ca a b c p q hl w h hn e1 e2 e3 cz b1 a1
                | false => rw [if_neg (by simp)]; exact bump_2co a b c p q hl w h hn e1 e2 e3 cz b1 a1
          · by_cases c0 : c = 0
            · by_cases b0 : b = 0
              · have hf : fitsZ b c p 3 := ⟨e, .inr c0, .inr b0⟩
                rw [if_pos hf]; exact bump_3f a b c p q hl w h hn e1 e2 e3 (beq_iff_eq.2 c0) (beq_iff_eq.2 b0)
              · have hf : ¬ fitsZ b c p 3 := fun g => by rcases g.2.2 with g | g <;> omega
                have cz := beq_iff_eq.2 c0
                have bz := beq_eq_false_iff_ne.2 b0
                rw [if_neg hf, if_neg (by omega), if_neg (by omega)]
                unfold stepA
                cases a1 : numB (a + 1) with
                | true => rw [if_pos rfl]; exact bump_3ba a b c p q hl w h hn e1 e2 e3 cz bz a1
                | false => rw [if_neg (by simp)]; exact bump_3bo a b c p q hl w h hn e1 e2 e3 cz bz a1
            · have hf : ¬ fitsZ b c p 3 := fun g => by rcases g.2.1 with g | g <;> omega
              have cz := beq_eq_false_iff_ne.2 c0
              rw [if_neg hf, if_neg (by omega), if_neg (by omega)]
              unfold stepA
              cases a1 : numB (a + 1) with
              | true => rw [if_pos rfl]; exact bump_3ca a b c p q hl w h hn e1 e2 e3 cz a1
              | false => rw [if_neg (by simp)]; exact bump_3co a b c p q hl w h hn e1 e2 e3 cz a1
      · rw [if_neg (fun g => l3 g.2.2)]
        exact bump_hi a b c p q hl w h l (decide_eq_false (by omega)) (decide_eq_true (by omega))
    · rw [if_neg (fun g => l1 g.2.1)]
      exact bump_lo a b c p q hl w h l (decide_eq_true (by omega))
  · rw [if_neg (fun g => h g.1)]
    exact bump_arg a b c l p q hl w (Bool.eq_false_iff.2 h)
def ver_Bump.f (a b c : Int) (p q : ByteArray) (l : Int) : Option (Int × Int × Int × ByteArray × ByteArray × Int) :=
  if p.size ≤ 1000000 ∧ q.size ≤ 1000000 then some ((bumpZ a b c p q l).1, (bumpZ a b c p q l).2.1, (bumpZ a b c p q l).2.2.1, ⟨#[]⟩, ⟨#[]⟩, (bumpZ a b c p q l).2.2.2) else none
theorem ver_Bump.calls (a0_0 a0_1 a0_2 : Int) (a0_3 a0_4 : ByteArray) (a1 : Int) (r1 r2 r3 : Int) (r4 r5 : ByteArray) (r6 : Int) (w : World) (h : ver_Bump.f a0_0 a0_1 a0_2 a0_3 a0_4 a1 = some (r1, r2, r3, r4, r5, r6)) :
    Calls Tryd.prog 17 #[.agg #[.int .i64 a0_0, .int .i64 a0_1, .int .i64 a0_2, .string a0_3, .string a0_4], .int .i64 a1] w fun e w' => e = .returned (.tuple #[.agg #[.int .i64 r1, .int .i64 r2, .int .i64 r3, .string r4, .string r5], .int .i64 r6]) ∧ Below w.heap.size w w' := by
  unfold ver_Bump.f at h
  by_cases c : a0_3.size ≤ 1000000 ∧ a0_4.size ≤ 1000000
  · rw [if_pos c] at h
    have h2 := Option.some.inj h
    simp only [Prod.mk.injEq] at h2
    obtain ⟨rfl, rfl, rfl, rfl, rfl, rfl⟩ := h2
    exact bump_any a0_0 a0_1 a0_2 a1 a0_3 a0_4 c w
  · rw [if_neg c] at h; cases h
end Go.Proofs.YthoiepkejhhcoaaDoor.P
