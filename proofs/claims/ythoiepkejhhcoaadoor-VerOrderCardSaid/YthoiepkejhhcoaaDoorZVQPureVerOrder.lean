/- VerOrder: the order of any two versions, what any one is bumped to, and the greatest one are the document's. -/
import Derived.Test.YthoiepkejhhcoaaDoorZVQM6
import Derived.Test.YthoiepkejhhcoaaDoorZVQVRef2
import Derived.Test.YthoiepkejhhcoaaDoorZVQVLive
set_option linter.unusedVariables false
set_option linter.unusedSimpArgs false
namespace Go.Proofs.YthoiepkejhhcoaaDoor.Pure
open Go.RowKit Go.Proofs.YthoiepkejhhcoaaDoor.P Go.Proofs.YthoiepkejhhcoaaDoorW.PrintWords Go.Proofs.YthoiepkejhhcoaaDoorW.PrintLast Go.Proofs.YthoiepkejhhcoaaDoorW.PrintMore
theorem ord_sizes (l : List S23) (a : Int) (hn : l.length ≤ 60) (r : List S23) : ∀ (i k : Nat), l.drop i = r → i ≤ l.length → 30 ≤ k →
    armadalaw07_VerOrder.l0 (k + r.length + 1) l a (i : Int) = some true ∨ ((∀ x ∈ r, x.f3.size ≤ 200 ∧ x.f4.size ≤ 200) ∧ armadalaw07_VerOrder.l0 (k + r.length + 1) l a (i : Int) = armadalaw07_VerOrder.l1 k l a ((0 : Nat) : Int)) := by
  induction r with
  | nil =>
    intro i k hr hi hk
    have : i = l.length := by have := List.drop_eq_nil_iff.1 hr; omega
    subst this
    refine .inr ⟨fun x hx => (by cases hx), ?_⟩
    rw [List.length_nil, Nat.add_zero, armadalaw07_VerOrder.l0, if_neg (by omega)]; rfl
  | cons x r ih =>
    intro i k hr hi hk
    obtain ⟨hx, hlt, hd⟩ := rd23_drop hr
    rw [List.length_cons, show k + (r.length + 1) + 1 = (k + r.length + 1) + 1 by omega, armadalaw07_VerOrder.l0, if_pos (by omega), if_pos (by omega), hx, wsucc i (by omega), live_true (by omega)]
    by_cases c1 : (x.f3.size : Int) > 200
    · rw [if_pos c1]; exact .inl rfl
    · rw [if_neg c1]
      by_cases c2 : (x.f4.size : Int) > 200
      · rw [if_pos c2]; exact .inl rfl
      · rw [if_neg c2]
        rcases ih (i + 1) k hd (by omega) hk with h | ⟨h1, h2⟩
        · exact .inl h
        · refine .inr ⟨fun y hy => ?_, h2⟩
          rcases List.mem_cons.1 hy with rfl | hy
          · omega
          · exact h1 y hy
theorem ord_l1 (l : List S23) (a : Int) (hn : l.length ≤ 60) (hl : ∀ x ∈ l, (vr x).lim) (r : List S23) : ∀ (i k : Nat), l.drop i = r → i ≤ l.length → r.length + 4002000 ≤ k →
    armadalaw07_VerOrder.l1 k l a (i : Int) = some true := by
  induction r with
  | nil =>
    intro i k hr hi hk
    obtain ⟨k, rfl⟩ : ∃ k', k = k' + 1 := ⟨k - 1, by omega⟩
    have := List.drop_eq_nil_iff.1 hr
    rw [armadalaw07_VerOrder.l1, if_neg (by omega), max_f l hl (by omega) k (by omega), rmax_f l (by omega) k (by omega)]
    simp only [Option.bind_some]
    rw [if_pos (by simp), if_pos (by simp), live_true (by omega)]; rfl
  | cons x r ih =>
    intro i k hr hi hk
    obtain ⟨k, rfl⟩ : ∃ k', k = k' + 1 := ⟨k - 1, by omega⟩
    obtain ⟨hx, hlt, hd⟩ := rd23_drop hr
    have hk' : r.length + 4002000 ≤ k := by rw [List.length_cons] at hk; omega
    have hmem : x ∈ l := List.mem_of_mem_drop (i := i) (by rw [hr]; exact List.mem_cons_self)
    have hxl := hl x hmem
    obtain ⟨y, t, hy⟩ : ∃ y t, l.drop 0 = y :: t := by
      cases hl0 : l.drop 0 with
      | nil => rw [List.drop_zero] at hl0; rw [hl0] at hlt; simp at hlt
      | cons y t => exact ⟨y, t, rfl⟩
    obtain ⟨hy0, _, _⟩ := rd23_drop hy
    have hyl := hl y (List.mem_of_mem_drop (i := 0) (by rw [hy]; exact List.mem_cons_self))
    change rd_T23 l 0 = y at hy0
    have b1 := bump_out x.f0 x.f1 x.f2 x.f3 x.f4 a hxl
    have b2 := rbump_f (vr x) a k (by omega)
    change armadaref07_Bump.f k x.f0 x.f1 x.f2 x.f3 x.f4 a = some (outB (bumpZ x.f0 x.f1 x.f2 x.f3 x.f4 a)) at b2
    have c1 := compare_fz (vr y) (vr x) hyl hxl k (by omega)
    have c2 := rcompare_f (vr y) (vr x) k (by omega)
    change ver_Compare.f k y.f0 y.f1 y.f2 y.f3 y.f4 x.f0 x.f1 x.f2 x.f3 x.f4 = _ at c1
    change armadaref07_Compare.f k y.f0 y.f1 y.f2 y.f3 y.f4 x.f0 x.f1 x.f2 x.f3 x.f4 = _ at c2
    rw [armadalaw07_VerOrder.l1, if_pos (by omega), if_pos (by omega), hx, hy0, b1, b2, c1, c2, wsucc i (by omega)]
    simp only [Option.bind_some]
    rw [if_neg (by simp), if_pos trivial, if_pos (by omega), if_pos trivial]
    exact ih (i + 1) k hd (by omega) hk'
theorem VerOrder (l : List S23) (a : Int) : ∃ k, armadalaw07_VerOrder.f k l a = some true := by
  obtain ⟨K, hK⟩ : ∃ K : Nat, K = 4003000 := ⟨_, rfl⟩
  refine ⟨K + l.length + 1, ?_⟩
  unfold armadalaw07_VerOrder.f
  by_cases hn : (l.length : Int) > 60
  · rw [if_pos hn, live_true (by omega)]; rfl
  · rw [if_neg hn]
    rcases ord_sizes l a (by omega) l 0 K rfl (Nat.zero_le _) (by omega) with h | ⟨h1, h2⟩
    · exact h
    · refine h2.trans ?_
      have hl : ∀ x ∈ l, (vr x).lim := fun x hx => by
        have := h1 x hx
        exact ⟨by show x.f3.size ≤ _; omega, by show x.f4.size ≤ _; omega⟩
      exact ord_l1 l a (by omega) hl l 0 K rfl (Nat.zero_le _) (by omega)
end Go.Proofs.YthoiepkejhhcoaaDoor.Pure
