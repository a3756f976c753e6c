/- ver: what Max tells, plainly. -/
import Derived.Test.YthoiepkejhhcoaaDoorZVQM4
import Derived.Test.YthoiepkejhhcoaaDoorZVQVLaws
set_option linter.unusedVariables false
set_option linter.unusedSimpArgs false
namespace Go.Proofs.YthoiepkejhhcoaaDoor.P
open Go.RowKit Go.Proofs.YthoiepkejhhcoaaDoorW.PrintWords Go.Proofs.YthoiepkejhhcoaaDoorW.PrintLast Go.Proofs.YthoiepkejhhcoaaDoorW.PrintMore
def vr (x : S23) : Vr := ⟨x.f0, x.f1, x.f2, x.f3, x.f4⟩
def z0 : Vr := ⟨0, 0, 0, ⟨#[]⟩, ⟨#[]⟩⟩
theorem z0_lim : z0.lim := ⟨Nat.zero_le _, Nat.zero_le _⟩
def mx : List S23 → Bool → Vr → Bool × Vr
  | [], b, m => (b, m)
  | x :: l, b, m => if (vr x).ok = true then (if b = true then (if compareZ (vr x) m > 0 then mx l true (vr x) else mx l b m) else mx l true (vr x)) else mx l b m
def outV (r : Bool × Vr) : Int × Int × Int × ByteArray × ByteArray × Bool := (r.2.a, r.2.b, r.2.c, r.2.p, r.2.q, r.1)
theorem rd23_drop {l : List S23} {i : Nat} {x : S23} {r : List S23} (h : l.drop i = x :: r) : rd_T23 l (i : Int) = x ∧ i < l.length ∧ l.drop (i + 1) = r := by
  have hi : i < l.length := by
    apply Nat.lt_of_not_le
    intro c
    rw [List.drop_eq_nil_iff.2 c] at h; cases h
  rw [List.drop_eq_getElem_cons hi] at h
  have h1 := (List.cons.inj h).1
  have h2 := (List.cons.inj h).2
  refine ⟨?_, hi, h2⟩
  unfold rd_T23
  rw [Int.toNat_natCast, List.getD_eq_getElem?_getD, List.getElem?_eq_getElem hi]
  exact h1
theorem wsucc (i : Nat) (h : i < 4611686018427387904) : wrap64 ((i : Int) + 1) = ((i + 1 : Nat) : Int) := by unfold wrap64; omega
theorem max_l0 (l : List S23) (hl : ∀ x ∈ l, (vr x).lim) (hn : l.length < 4611686018427387904) : ∀ (r : List S23) (i k : Nat) (b : Bool) (m : Vr), l.drop i = r → i ≤ l.length → r.length + 12 ≤ k → m.lim →
    ver_Max.l0 k b l (l.length : Int) (i : Int) m.a m.b m.c m.p m.q = some (outV (mx r b m))
  | [], i, k, b, m, hr, hi, hk, hm => by
    obtain ⟨k, rfl⟩ : ∃ k', k = k' + 1 := ⟨k - 1, by omega⟩
    have : i = l.length := by have := List.drop_eq_nil_iff.1 hr; omega
    subst this
    rw [ver_Max.l0, if_neg (by omega)]; rfl
  | x :: r, i, k, b, m, hr, hi, hk, hm => by
    obtain ⟨k, rfl⟩ : ∃ k', k = k' + 1 := ⟨k - 1, by omega⟩
    obtain ⟨hx, hlt, hd⟩ := rd23_drop hr
    have hmem : x ∈ l := List.mem_of_mem_drop (i := i) (by rw [hr]; exact List.mem_cons_self)
    have hxl := hl x hmem
    have hk' : r.length + 12 ≤ k := by rw [List.length_cons] at hk; omega
    rw [ver_Max.l0, if_pos (by omega), if_pos (by omega), if_pos (by omega), hx, wsucc i (by omega), mx]
    have cf := check_f (vr x) hxl
    have mc := compare_fz (vr x) m hxl hm k (by omega)
    have ihx := max_l0 l hl hn r (i + 1) k true (vr x) hd (by omega) hk' hxl
    have ihm := max_l0 l hl hn r (i + 1) k b m hd (by omega) hk' hm
    change ver_Check.f x.f0 x.f1 x.f2 x.f3 x.f4 = _ at cf
    change ver_Compare.f k x.f0 x.f1 x.f2 x.f3 x.f4 _ _ _ _ _ = _ at mc
    change ver_Max.l0 k true l _ _ x.f0 x.f1 x.f2 x.f3 x.f4 = _ at ihx
    rw [cf]
    simp only [Option.bind_some]
    by_cases ok : (vr x).ok = true
    · rw [if_pos ok, if_pos ok]
      by_cases hb : b = true
      · subst hb
        rw [if_pos rfl, if_pos rfl, mc]
        simp only [Option.bind_some]
        by_cases hc : compareZ (vr x) m > 0
        · rw [if_pos hc, if_pos hc]; exact ihx
        · rw [if_neg hc, if_neg hc]; exact ihm
      · rw [if_neg hb, if_neg hb]; exact ihx
    · rw [if_neg ok, if_neg ok]; exact ihm
theorem max_f (l : List S23) (hl : ∀ x ∈ l, (vr x).lim) (hn : l.length < 4611686018427387904) (k : Nat) (hk : l.length + 12 ≤ k) : ver_Max.f k l = some (outV (mx l false z0)) := by
  unfold ver_Max.f
  exact max_l0 l hl hn l 0 k false z0 rfl (Nat.zero_le _) hk z0_lim
end Go.Proofs.YthoiepkejhhcoaaDoor.P
