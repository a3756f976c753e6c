/- ver: what Max tells, plainly. -/
import Derived.Test.YthoiepkejhhcoaaDoorZVMM3
import Derived.Test.YthoiepkejhhcoaaDoorZVMVLaws
set_option linter.unusedVariables false
set_option linter.unusedSimpArgs false
namespace Go.Proofs.YthoiepkejhhcoaaDoor.P
open Go.RowKit Go.Proofs.YthoiepkejhhcoaaDoorW.PrintWords Go.Proofs.YthoiepkejhhcoaaDoorW.PrintLast Go.Proofs.YthoiepkejhhcoaaDoorW.PrintMore
def vr (x : S23) : Vr := ⟨x.f0, x.f1, x.f2, x.f3, x.f4⟩
def z0 : Vr := ⟨0, 0, 0, ⟨#[]⟩, ⟨#[]⟩⟩
theorem z0_lim : z0.lim := ⟨Nat.zero_le _, Nat.zero_le _⟩
def mx : List S23 → Bool → Vr → Bool × Vr
  | [], b, m => (b, m)
  | x :: l, b, m => if (vr x).ok = true then (if b = true then (if compareZ (vr x) m > 0 then mx l true (vr x) else mx l b m) else mx l true (vr x)) else mx l b m
def outV (r : Bool × Vr) : Int × Int × Int × ByteArray × ByteArray × Bool := (r.2.a, r.2.b, r.2.c, r.2.p, r.2.q, r.1)
theorem rd23_drop {l : List S23} {i : Nat} {x : S23} {r : List S23} (h : l.drop i = x :: r) : rd_T23 l (i : Int) = x ∧ i < l.length ∧ l.drop (i + 1) = r := by
  have hi : i < l.length := by
    apply Nat.lt_of_not_le
    intro c
    rw [List.drop_eq_nil_iff.2 c] at h; cases h
  rw [List.drop_eq_getElem_cons hi] at h
  have h1 := (List.cons.inj h).1
  have h2 := (List.cons.inj h).2
  refine ⟨?_, hi, h2⟩
  unfold rd_T23
  rw [Int.toNat_natCast, List.getD_eq_getElem?_getD, List.getElem?_eq_getElem hi]
  exact h1
theorem wsucc (i : Nat) (h : i < 4611686018427387904) : wrap64 ((i : Int) + 1) = ((i + 1 : Nat) : Int) := by unfold wrap64; omega
theorem max_l0 (l : List S23) (hl : ∀ x ∈ l, (vr x).lim) (hn : l.length < 4611686018427387904) : ∀ (r : List S23) (i k : Nat) (b : Bool) (m : Vr), l.drop i = r → i ≤ l.length → r.length + 12 ≤ k → m.lim →
    ver_Max.l0 k b l (l.length : Int) (i : Int) m.a m.b m.c m.p m.q = some (outV (mx r b m))
  | [], i, k, b, m, hr, hi, hk, hm => by
    obtain ⟨k, rfl⟩ : ∃ k', k = k' + 1 := ⟨k - 1, by omega⟩
    have : i = l.length := by have := List.drop_eq_nil_iff.1 hr; omega
    subst this
    rw [ver_Max.l0, if_neg (by omega)]; rfl
  | x :: r, i, k, b, m, hr, hi, hk, hm => by
    obtain ⟨k, rfl⟩ : ∃ k', k = k' + 1 := ⟨k - 1, by omega⟩
    obtain ⟨hx, hlt, hd⟩ := rd23_drop hr
    have hmem : x ∈ l := List.mem_of_mem_drop (i := i) (by rw [hr]; exact List.mem_cons_self)
    have hxl := hl x hmem
    have hk' : r.length + 12 ≤ k := by rw [List.length_cons] at hk; omega
    rw [ver_Max.l0, if_pos (by omega), if_pos (by omega), if_pos (by omega), hx, wsucc i (by omega), mx]
    have cf := check_f (vr x) hxl
    have mc := compare_fz (vr x) m hxl hm k (by omega)
    have ihx := max_l0 l hl hn r (i + 1) k true (vr x) hd (by omega) hk' hxl
    have ihm := max_l0 l hl hn r (i + 1) k b m hd (by omega) hk' hm
    change ver_Check.f x.f0 x.f1 x.f2 x.f3 x.f4 = _ at cf
    change ver_Compare.f k x.f0 x.f1 x.f2 x.f3 x.f4 _ _ _ _ _ = _ at mc
    change ver_Max.l0 k true l _ _ x.f0 x.f1 x.f2 x.f3 x.f4 = _ at ihx
    rw [cf]
    simp only [Option.bind_some]
    by_cases ok : (vr x).ok = true
    · rw [if_pos ok, if_pos ok]
      by_cases hb : b = true
      · subst hb
        rw [if_pos rfl, if_pos rfl, mc]
        simp only [Option.bind_some]
        by_cases hc : compareZ (vr x) m > 0
        · rw [if_pos hc, if_pos hc]; exact ihx
        · rw [if_neg hc, if_neg hc]; exact ihm
      · rw [if_neg hb, if_neg hb]; exact ihx
    · rw [if_neg ok, if_neg ok]; exact ihm
theorem max_f (l : List S23) (hl : ∀ x ∈ l, (vr x).lim) (hn : l.length < 4611686018427387904) (k : Nat) (hk : l.length + 12 ≤ k) : ver_Max.f k l = some (outV (mx l false z0)) := by
  unfold ver_Max.f
  exact max_l0 l hl hn l 0 k false z0 rfl (Nat.zero_le _) hk z0_lim
/-- What stands above all that may be. -/
structure Best (l : List S23) (b : Bool) (m : Vr) (r : Bool × Vr) : Prop where
  yes : r.1 = true → r.2.ok = true ∧ ((∃ x ∈ l, (vr x) = r.2) ∨ (b = true ∧ r.2 = m)) ∧ (∀ x ∈ l, (vr x).ok = true → ordV (vr x) r.2 ≤ 0) ∧ (b = true → ordV m r.2 ≤ 0)
  no : r.1 = false → b = false ∧ r.2 = m ∧ ∀ x ∈ l, (vr x).ok = false
theorem mx_best : ∀ (l : List S23) (b : Bool) (m : Vr), (b = true → m.ok = true) → Best l b m (mx l b m)
  | [], b, m, hb => ⟨fun h => ⟨hb h, .inr ⟨h, rfl⟩, fun x hx => (by cases hx), fun _ => Int.le_of_eq (tot_ord.self m)⟩, fun h => ⟨h, rfl, fun x hx => by cases hx⟩⟩
  | x :: l, b, m, hb => by
    rw [mx]
    by_cases ok : (vr x).ok = true
    · rw [if_pos ok]
      have ihx := mx_best l true (vr x) (fun _ => ok)
      have keyx : (b = true → ordV m (vr x) ≤ 0) → Best (x :: l) b m (mx l true (vr x)) := by
        intro hm
        refine ⟨fun h => ?_, fun h => ?_⟩
        · obtain ⟨h1, h2, h3, h4⟩ := ihx.yes h
          refine ⟨h1, .inl ?_, fun y hy oy => ?_, fun hbt => tot_ord.tr _ _ _ (hm hbt) (h4 rfl)⟩
          · rcases h2 with ⟨y, hy, e⟩ | ⟨_, e⟩
            · exact ⟨y, List.mem_cons_of_mem _ hy, e⟩
            · exact ⟨x, List.mem_cons_self, e.symm⟩
          · rcases List.mem_cons.1 hy with rfl | hy
            · exact h4 rfl
            · exact h3 y hy oy
        · have := (ihx.no h).1; cases this
      by_cases hbt : b = true
      · rw [if_pos hbt]
        have om := hb hbt
        by_cases hc : compareZ (vr x) m > 0
        · rw [if_pos hc]
          rw [compareZ_ok ok om] at hc
          refine keyx fun _ => ?_
          have := tot_ord.neg (vr x) m
          omega
        · rw [if_neg hc]
          rw [compareZ_ok ok om] at hc
          have ihm := mx_best l b m hb
          refine ⟨fun h => ?_, fun h => ?_⟩
          · obtain ⟨h1, h2, h3, h4⟩ := ihm.yes h
            refine ⟨h1, ?_, fun y hy oy => ?_, h4⟩
            · rcases h2 with ⟨y, hy, e⟩ | e
              · exact .inl ⟨y, List.mem_cons_of_mem _ hy, e⟩
              · exact .inr e
            · rcases List.mem_cons.1 hy with rfl | hy
              · exact tot_ord.tr _ _ _ (by omega) (h4 hbt)
              · exact h3 y hy oy
          · have := (ihm.no h).1; rw [hbt] at this; cases this
      · rw [if_neg hbt]
        exact keyx fun h => absurd h hbt
    · rw [if_neg ok]
      have ihm := mx_best l b m hb
      refine ⟨fun h => ?_, fun h => ?_⟩
      · obtain ⟨h1, h2, h3, h4⟩ := ihm.yes h
        refine ⟨h1, ?_, fun y hy oy => ?_, h4⟩
        · rcases h2 with ⟨y, hy, e⟩ | e
          · exact .inl ⟨y, List.mem_cons_of_mem _ hy, e⟩
          · exact .inr e
        · rcases List.mem_cons.1 hy with rfl | hy
          · exact absurd oy ok
          · exact h3 y hy oy
      · obtain ⟨h1, h2, h3⟩ := ihm.no h
        refine ⟨h1, h2, fun y hy => ?_⟩
        rcases List.mem_cons.1 hy with rfl | hy
        · exact Bool.eq_false_iff.2 ok
        · exact h3 y hy
theorem best_of (l : List S23) : Best l false z0 (mx l false z0) := mx_best l false z0 (fun h => by cases h)
end Go.Proofs.YthoiepkejhhcoaaDoor.P
