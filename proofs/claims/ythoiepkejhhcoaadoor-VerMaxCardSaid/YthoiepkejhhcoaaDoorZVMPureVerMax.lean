/- VerMax: the greatest one is one of them, none is above it; it does not hang on order. -/
import Derived.Test.YthoiepkejhhcoaaDoorZVMM5
import Derived.Test.YthoiepkejhhcoaaDoorZVMVMaxL
import Derived.Test.YthoiepkejhhcoaaDoorZVMVLive
set_option linter.unusedVariables false
set_option linter.unusedSimpArgs false
namespace Go.Proofs.YthoiepkejhhcoaaDoor.Pure
open Go.RowKit Go.Proofs.YthoiepkejhhcoaaDoor.P Go.Proofs.YthoiepkejhhcoaaDoorW.PrintWords Go.Proofs.YthoiepkejhhcoaaDoorW.PrintLast Go.Proofs.YthoiepkejhhcoaaDoorW.PrintMore
def eqB (x : S23) (m : Vr) : Bool := (x.f0 == m.a && (x.f1 == m.b && (x.f2 == m.c && ((x.f3.toList) == m.p.toList && ((x.f4.toList) == m.q.toList)))))
theorem eqB_iff (x : S23) (m : Vr) : eqB x m = true ↔ vr x = m := by
  unfold eqB vr
  simp only [Bool.and_eq_true, beq_iff_eq, toList_eq]
  constructor
  · rintro ⟨h1, h2, h3, h4, h5⟩; rw [h1, h2, h3, h4, h5]
  · rintro rfl; exact ⟨rfl, rfl, rfl, rfl, rfl⟩
def hit (m : Vr) (x : S23) : Bool := (vr x).ok && eqB x m
def fnd (m : Vr) (l : List S23) (f : Bool) : Bool := f || l.any (hit m)
/-- What stands behind the loop. -/
def tail (k : Nat) (l : List S23) (a : Int) (is f : Bool) (m : Vr) : Option Bool :=
  if (is != f) = true then (armadalaw07_VerMax.j2 k l a is f true m.a m.b m.c m.p m.q) else (if a < 0 then (armadalaw07_VerMax.j2 k l a is f true m.a m.b m.c m.p m.q) else (armadalaw07_VerMax.j2 k l a is f (decide (a > (l.length : Int))) m.a m.b m.c m.p m.q))
theorem max_l1 (l : List S23) (a : Int) (hl : ∀ x ∈ l, (vr x).lim) (hn : l.length < 4611686018427387904) (is : Bool) (m : Vr) (hm : m.lim) (h1 : ∀ x ∈ l, (vr x).ok = true → is = true ∧ ¬ compareZ (vr x) m > 0) :
    ∀ (r : List S23) (i k : Nat) (f : Bool), l.drop i = r → i ≤ l.length → 12 ≤ k → armadalaw07_VerMax.l1 (k + r.length + 1) l a is f (i : Int) m.a m.b m.c m.p m.q = tail k l a is (fnd m r f) m
  | [], i, k, f, hr, hi, hk => by
    have : i = l.length := by have := List.drop_eq_nil_iff.1 hr; omega
    subst this
    rw [List.length_nil, Nat.add_zero, armadalaw07_VerMax.l1, if_neg (by omega)]
    unfold tail fnd
    rw [List.any_nil, Bool.or_false]
  | x :: r, i, k, f, hr, hi, hk => by
    obtain ⟨hx, hlt, hd⟩ := rd23_drop hr
    have hmem : x ∈ l := List.mem_of_mem_drop (i := i) (by rw [hr]; exact List.mem_cons_self)
    have hxl := hl x hmem
    have ih := fun f' => max_l1 l a hl hn is m hm h1 r (i + 1) k f' hd (by omega) hk
    rw [List.length_cons, show k + (r.length + 1) + 1 = (k + r.length + 1) + 1 by omega, armadalaw07_VerMax.l1, if_pos (by omega), if_pos (by omega), hx, wsucc i (by omega)]
    have cf := check_f (vr x) hxl
    have mc := compare_fz (vr x) m hxl hm (k + r.length + 1) (by omega)
    change ver_Check.f x.f0 x.f1 x.f2 x.f3 x.f4 = _ at cf
    change ver_Compare.f _ x.f0 x.f1 x.f2 x.f3 x.f4 _ _ _ _ _ = _ at mc
    rw [cf]
    simp only [Option.bind_some]
    by_cases ok : (vr x).ok = true
    · obtain ⟨his, hc⟩ := h1 x hmem ok
      rw [if_pos ok, if_pos his, mc]
      simp only [Option.bind_some]
      rw [if_neg hc]
      by_cases hf : f = true
      · rw [if_pos hf, ih]
        unfold fnd
        rw [hf, Bool.true_or, Bool.true_or]
      · rw [if_neg hf]
        refine (ih _).trans ?_
        congr 1
        unfold fnd
        rw [List.any_cons, Bool.eq_false_iff.2 hf, Bool.false_or]
        unfold hit
        rw [ok, Bool.true_and]
        rfl
    · rw [if_neg ok, ih]
      congr 1
      unfold fnd
      rw [List.any_cons]
      unfold hit
      rw [Bool.eq_false_iff.2 ok, Bool.false_and, Bool.false_or]
theorem max_sizes (l : List S23) (a : Int) (hn : l.length ≤ 60) : ∀ (r : List S23) (i k : Nat), l.drop i = r → i ≤ l.length → 30 ≤ k →
    armadalaw07_VerMax.l0 (k + r.length + 1) l a (i : Int) = some true ∨ ((∀ x ∈ r, x.f3.size ≤ 200 ∧ x.f4.size ≤ 200) ∧ armadalaw07_VerMax.l0 (k + r.length + 1) l a (i : Int) = armadalaw07_VerMax.l0 (k + 1) l a (l.length : Int))
  | [], i, k, hr, hi, hk => by
    have : i = l.length := by have := List.drop_eq_nil_iff.1 hr; omega
    subst this
    exact .inr ⟨fun x hx => (by cases hx), rfl⟩
  | x :: r, i, k, hr, hi, hk => by
    obtain ⟨hx, hlt, hd⟩ := rd23_drop hr
    rw [List.length_cons, show k + (r.length + 1) + 1 = (k + r.length + 1) + 1 by omega, armadalaw07_VerMax.l0, if_pos (by omega), if_pos (by omega), hx, wsucc i (by omega), live_true (by omega)]
    by_cases c1 : (x.f3.size : Int) > 200
    · rw [if_pos c1]; exact .inl rfl
    · rw [if_neg c1]
      by_cases c2 : (x.f4.size : Int) > 200
      · rw [if_pos c2]; exact .inl rfl
      · rw [if_neg c2]
        rcases max_sizes l a hn r (i + 1) k hd (by omega) hk with h | ⟨h1, h2⟩
        · exact .inl h
        · refine .inr ⟨fun y hy => ?_, h2⟩
          rcases List.mem_cons.1 hy with rfl | hy
          · omega
          · exact h1 y hy
theorem mem_turn {l : List S23} {n : Nat} {x : S23} : x ∈ ([] ++ l.drop n ++ l.take n) ↔ x ∈ l := by
  rw [List.nil_append, List.mem_append]
  constructor
  · rintro (h | h)
    · exact List.mem_of_mem_drop h
    · exact List.mem_of_mem_take h
  · intro h
    rw [← List.take_append_drop n l, List.mem_append] at h
    exact h.symm
theorem bad_best {l : List S23} {m : Bool × Vr} (h : Best l false z0 m) (hm : m.1 = true) : ∃ x ∈ l, vr x = m.2 := by
  rcases (h.yes hm).2.1 with g | g
  · exact g
  · cases g.1
theorem z0_ok : z0.ok = true := by decide +kernel
theorem VerMax (l : List S23) (a : Int) : armadalaw07_VerMax.f 200 l a = some true := by
  unfold armadalaw07_VerMax.f
  by_cases hn : (l.length : Int) > 60
  · rw [if_pos hn, live_true (by omega)]; rfl
  · rw [if_neg hn]
    have hn' : l.length ≤ 60 := by omega
    have hs := max_sizes l a hn' l 0 (199 - l.length) rfl (Nat.zero_le _) (by omega)
    rw [show 199 - l.length + l.length + 1 = 200 by omega] at hs
    rcases hs with h | ⟨h1, h2⟩
    · exact h
    · refine h2.trans ?_
      have hl : ∀ x ∈ l, (vr x).lim := fun x hx => by
        have := h1 x hx
        exact ⟨by show x.f3.size ≤ _; omega, by show x.f4.size ≤ _; omega⟩
      have B := best_of l
      rw [armadalaw07_VerMax.l0, if_neg (by omega), max_f l hl (by omega) _ (by omega)]
      simp only [Option.bind_some]
      generalize hM : mx l false z0 = M at B
      obtain ⟨is, m⟩ := M
      have hm : m.lim := by
        cases is with
        | true =>
          obtain ⟨x, hx, e⟩ := bad_best B rfl
          change vr x = m at e
          rw [← e]; exact hl x hx
        | false => have := (B.no rfl).2.1; change m = z0 at this; rw [this]; exact z0_lim
      have hc : ∀ x ∈ l, (vr x).ok = true → is = true ∧ ¬ compareZ (vr x) m > 0 := by
        intro x hx ox
        cases is with
        | true =>
          obtain ⟨g1, g2, g3, g4⟩ := B.yes rfl
          refine ⟨rfl, ?_⟩
          change m.ok = true at g1
          rw [compareZ_ok ox g1]
          have := g3 x hx ox
          change ordV (vr x) m ≤ 0 at this
          omega
        | false => rw [(B.no rfl).2.2 x hx] at ox; cases ox
      have hf : fnd m l false = is := by
        unfold fnd
        rw [Bool.false_or]
        cases is with
        | true =>
          obtain ⟨x, hx, e⟩ := bad_best B rfl
          refine List.any_eq_true.2 ⟨x, hx, ?_⟩
          have om := (B.yes rfl).1
          change vr x = m at e
          change m.ok = true at om
          unfold hit
          rw [(eqB_iff x m).2 e, e, om]; rfl
        | false =>
          apply Bool.eq_false_iff.2
          intro h
          obtain ⟨x, hx, hh⟩ := List.any_eq_true.1 h
          unfold hit at hh
          rw [(B.no rfl).2.2 x hx] at hh; cases hh
      have hl1 := max_l1 l a hl (by omega) is m hm hc l 0 (198 - 2 * l.length) false rfl (Nat.zero_le _) (by omega)
      rw [show 198 - 2 * l.length + l.length + 1 = 199 - l.length by omega, hf] at hl1
      refine hl1.trans ?_
      have end_ : ∀ k, 31 ≤ k → armadalaw07_VerMax.j2 k l a is is true m.a m.b m.c m.p m.q = some true := by
        intro k hk
        obtain ⟨k, rfl⟩ : ∃ k', k = k' + 1 := ⟨k - 1, by omega⟩
        rw [armadalaw07_VerMax.j2, if_pos rfl, if_pos (by simp), live_true (by omega)]; rfl
      unfold tail
      rw [if_neg (by simp)]
      by_cases a0 : a < 0
      · rw [if_pos a0]; exact end_ _ (by omega)
      · rw [if_neg a0]
        by_cases a1 : a > (l.length : Int)
        · rw [decide_eq_true a1]; exact end_ _ (by omega)
        · rw [decide_eq_false a1, show 198 - 2 * l.length = (197 - 2 * l.length) + 1 by omega, armadalaw07_VerMax.j2, if_neg (by simp)]
          simp only [Option.bind_some]
          rw [if_pos (by omega), if_pos (by omega)]
          obtain ⟨n, rfl⟩ : ∃ n : Nat, a = n := ⟨a.toNat, by omega⟩
          rw [Int.toNat_natCast]
          have ln : n ≤ l.length := by omega
          rw [if_pos (by rw [List.length_nil, List.length_drop]; omega), if_pos (by rw [List.nil_append, List.length_drop, List.length_take]; omega)]
          have hl2 : ∀ x ∈ ([] ++ l.drop n ++ l.take n), (vr x).lim := fun x hx => hl x (mem_turn.1 hx)
          have len2 : ([] ++ l.drop n ++ l.take n).length = l.length := by rw [List.nil_append, List.length_append, List.length_drop, List.length_take]; omega
          have B2 := best_of ([] ++ l.drop n ++ l.take n)
          rw [max_f _ hl2 (by rw [len2]; omega) _ (by rw [len2]; omega)]
          generalize mx ([] ++ l.drop n ++ l.take n) false z0 = M2 at B2
          obtain ⟨is2, m2⟩ := M2
          have hm2 : m2.lim := by
            cases is2 with
            | true =>
              obtain ⟨x, hx, e⟩ := bad_best B2 rfl
              change vr x = m2 at e
              rw [← e]; exact hl2 x hx
            | false => have := (B2.no rfl).2.1; change m2 = z0 at this; rw [this]; exact z0_lim
          have key : is2 = is ∧ compareZ m2 m = 0 := by
            cases is with
            | true =>
              obtain ⟨x, hx, e⟩ := bad_best B rfl
              obtain ⟨g1, g2, g3, g4⟩ := B.yes rfl
              change vr x = m at e
              change m.ok = true at g1
              cases is2 with
              | true =>
                obtain ⟨y, hy, e2⟩ := bad_best B2 rfl
                obtain ⟨j1, j2, j3, j4⟩ := B2.yes rfl
                change vr y = m2 at e2
                change m2.ok = true at j1
                refine ⟨rfl, ?_⟩
                rw [compareZ_ok j1 g1]
                have q1 := g3 y (mem_turn.1 hy) (by rw [e2]; exact j1)
                have q2 := j3 x (mem_turn.2 hx) (by rw [e]; exact g1)
                rw [e2] at q1
                rw [e] at q2
                change ordV m2 m ≤ 0 at q1
                change ordV m m2 ≤ 0 at q2
                have := tot_ord.neg m2 m
                omega
              | false =>
                have := (B2.no rfl).2.2 x (mem_turn.2 hx)
                rw [e, g1] at this; cases this
            | false =>
              obtain ⟨_, g2, g3⟩ := B.no rfl
              change m = z0 at g2
              cases is2 with
              | true =>
                obtain ⟨y, hy, e2⟩ := bad_best B2 rfl
                obtain ⟨j1, _⟩ := B2.yes rfl
                change vr y = m2 at e2
                change m2.ok = true at j1
                have := g3 y (mem_turn.1 hy)
                rw [e2, j1] at this; cases this
              | false =>
                have j2 := (B2.no rfl).2.1
                change m2 = z0 at j2
                refine ⟨rfl, ?_⟩
                rw [g2, j2, compareZ_ok z0_ok z0_ok]
                exact tot_ord.self z0
          obtain ⟨rfl, kz⟩ := key
          simp only [Option.bind_some]
          have mc := compare_fz m2 m hm2 hm (197 - 2 * l.length) (by omega)
          rw [kz] at mc
          rw [if_pos (by unfold outV; simp)]
          refine (congrArg (fun o : Option Int => o.bind _) mc).trans ?_
          rw [Option.bind_some, if_pos rfl, live_true (by omega)]; rfl
end Go.Proofs.YthoiepkejhhcoaaDoor.Pure
