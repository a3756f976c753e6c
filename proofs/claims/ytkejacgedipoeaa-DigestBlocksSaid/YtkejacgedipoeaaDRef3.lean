/- The document's rounds, blocks and texts are the program's. -/
import Derived.Test.YtkejacgedipoeaaDRef2
namespace Go.Proofs.Ytkejacgedipoeaa.P
open Go.RowKit Go.Proofs.YtkejacgedipoeaaW.PrintWords Go.Proofs.YtkejacgedipoeaaW.PrintLast Go.Proofs.YtkejacgedipoeaaW.PrintMore Go.Proofs.Ytkejacgedipoeaa.Pl

/-- Eight words indeed. -/
structure Wd8 (v : V8) : Prop where
  a : Wd v.a
  b : Wd v.b
  c : Wd v.c
  d : Wd v.d
  e : Wd v.e
  f : Wd v.f
  g : Wd v.g
  z : Wd v.z
theorem stepV_wd (k w : Int) {v : V8} (h : Wd8 v) : Wd8 (stepV k w v) := ⟨Wd.mod _, h.a, h.b, h.c, Wd.mod _, h.e, h.f, h.g⟩
theorem num5 (z s c k w : Int) (h1 : Wd z) (h2 : Wd s) (h3 : Wd c) (h4 : Wd k) (h5 : Wd w) : armadaref12_mask.f (wrap64 (wrap64 (wrap64 (wrap64 (z + s) + c) + k) + w)) = some ((z + s + c + k + w) % 4294967296) := by
  unfold Wd at *
  rw [w64 (x := z + s) (by omega) (by omega), w64 (x := z + s + c) (by omega) (by omega), w64 (x := z + s + c + k) (by omega) (by omega), w64 (x := z + s + c + k + w) (by omega) (by omega), mask_is _ (by omega) (by omega)]
theorem num2 (s m : Int) (h1 : Wd s) (h2 : Wd m) : armadaref12_mask.f (wrap64 (s + m)) = some ((s + m) % 4294967296) := by
  unfold Wd at *
  rw [w64 (x := s + m) (by omega) (by omega), mask_is _ (by omega) (by omega)]
theorem not_wd {e : Int} (h : Wd e) : Wd (4294967295 - e) := by unfold Wd at *; omega
theorem not_num {e : Int} (h : Wd e) : wrap64 (4294967295 - e) = 4294967295 - e := by unfold Wd at h; exact w64 (by omega) (by omega)
theorem rd_list (v : V8) : rd v.list 0 = v.a ∧ rd v.list 1 = v.b ∧ rd v.list 2 = v.c ∧ rd v.list 3 = v.d ∧ rd v.list 4 = v.e ∧ rd v.list 5 = v.f ∧ rd v.list 6 = v.g ∧ rd v.list 7 = v.z := ⟨rfl, rfl, rfl, rfl, rfl, rfl, rfl, rfl⟩
theorem add_mod (d T : Int) : (d + T % 4294967296) % 4294967296 = (d + T) % 4294967296 := by omega
theorem mod_add (T U : Int) : (T % 4294967296 + U % 4294967296) % 4294967296 = (T + U) % 4294967296 := by omega
theorem l1_step (k i : Nat) (x0 x2 x7 : List Int) (v : V8) (hv : Wd8 v) (h2 : x2.length = 64) (h7 : x7.length = 64) (hi : i < 64) (Wk : Wd (x2.getD i 0)) (Ww : Wd (x7.getD i 0)) :
    armadaref12_rolled.l1 (k + 1) x0 x2 x7 v.list (i : Int) = armadaref12_rolled.l1 k x0 x2 x7 (stepV (x2.getD i 0) (x7.getD i 0) v).list ((i + 1 : Nat) : Int) := by
  have c0 : (i : Int) < 64 := by omega
  have c2 : (i : Int) < (x2.length : Int) := by omega
  have c7 : (i : Int) < (x7.length : Int) := by omega
  have a1 : wrap64 ((i : Int) + 1) = ((i + 1 : Nat) : Int) := by unfold wrap64; omega
  have hl : (v.list.length : Int) = 8 := rfl
  obtain ⟨r0, r1, r2, r3, r4, r5, r6, r7⟩ := rd_list v
  have e6 := tU6 hv.e; have e11 := tU11 hv.e; have e25 := tU25 hv.e
  have u2 := tU2 hv.a; have u13 := tU13 hv.a; have u22 := tU22 hv.a
  have s1 := xor_same e6.2 e11.2
  have s2 := xor_same s1.2 e25.2
  have n1 := and_same hv.e hv.f
  have n2 := and_same (not_wd hv.e) hv.g
  have n3 := xor_same n1.2 n2.2
  have m1 := xor_same u2.2 u13.2
  have m2 := xor_same m1.2 u22.2
  have p1 := and_same hv.a hv.b
  have p2 := and_same hv.a hv.c
  have p3 := and_same hv.b hv.c
  have p4 := xor_same p1.2 p2.2
  have p5 := xor_same p4.2 p3.2
  have q1 := num5 _ _ _ _ _ hv.z s2.2 n3.2 Wk Ww
  have q2 := num2 _ _ m2.2 p5.2
  have q3 := num2 _ _ (Wd.mod (v.z + Go.bits .xor .u32 (Go.bits .xor .u32 (tU v.e 6) (tU v.e 11)) (tU v.e 25) + Go.bits .xor .u32 (Go.bits .and .u32 v.e v.f) (Go.bits .and .u32 (4294967295 - v.e) v.g) + x2.getD i 0 + x7.getD i 0)) (Wd.mod (Go.bits .xor .u32 (Go.bits .xor .u32 (tU v.a 2) (tU v.a 13)) (tU v.a 22) + Go.bits .xor .u32 (Go.bits .xor .u32 (Go.bits .and .u32 v.a v.b) (Go.bits .and .u32 v.a v.c)) (Go.bits .and .u32 v.b v.c)))
  have q4 := num2 _ _ hv.d (Wd.mod (v.z + Go.bits .xor .u32 (Go.bits .xor .u32 (tU v.e 6) (tU v.e 11)) (tU v.e 25) + Go.bits .xor .u32 (Go.bits .and .u32 v.e v.f) (Go.bits .and .u32 (4294967295 - v.e) v.g) + x2.getD i 0 + x7.getD i 0))
  rw [armadaref12_rolled.l1, if_pos c0, hl, if_pos (by decide), if_pos (by decide), if_pos (by decide), r0, r1, r2, r3, r4, r5, r6, r7, e6.1, Option.bind_some, e11.1, Option.bind_some, e25.1, Option.bind_some]
  rw [if_pos (by decide), if_pos (by decide), if_pos (Int.natCast_nonneg _), if_pos c2, if_pos c7, rd_nat, rd_nat, s1.1, s2.1, not_num hv.e, n1.1, n2.1, n3.1, q1, Option.bind_some]
  rw [u2.1, Option.bind_some, u13.1, Option.bind_some, u22.1, Option.bind_some, if_pos (by decide), if_pos (by decide), m1.1, m2.1, p1.1, p2.1, p3.1, p4.1, p5.1, q2, Option.bind_some, q3, Option.bind_some, if_pos (by decide), q4, Option.bind_some, a1]
  have ht : stepV (x2.getD i 0) (x7.getD i 0) v = ⟨(stepT (x2.getD i 0) (x7.getD i 0) v + stepU v) % 4294967296, v.a, v.b, v.c, (v.d + stepT (x2.getD i 0) (x7.getD i 0) v) % 4294967296, v.e, v.f, v.g⟩ := rfl
  rw [ht, mod_add, add_mod]
  unfold stepT stepU
  rw [not_same hv.e]
  rfl
theorem klist_wd : ∀ j, Wd (kList.getD j 0) := by
  intro j
  by_cases h : j < 64
  · have : ∀ j : Fin 64, 0 ≤ kList.getD j.val 0 ∧ kList.getD j.val 0 < 4294967296 := by decide +kernel
    exact this ⟨j, h⟩
  · rw [List.getD_eq_getElem?_getD, List.getElem?_eq_none (by rw [klen]; exact Nat.le_of_not_lt h)]
    exact ⟨Int.le_refl _, by decide⟩
theorem rollV_wd {h : V8} (hh : Wd8 h) (s : ByteArray) (i : Nat) : Wd8 (rollV h s i) := by
  induction i with
  | zero => exact hh
  | succ i ih => exact stepV_wd _ _ ih
theorem rolled_l1 (s : ByteArray) (hs : s.size = 64) (h : V8) (hh : Wd8 h) (x0 : List Int) (d : Nat) : ∀ (i k : Nat), i + d = 64 →
    armadaref12_rolled.l1 (k + d) x0 kList (spreadL s 64) (rollV h s i).list (i : Int) = armadaref12_rolled.l1 k x0 kList (spreadL s 64) (rollV h s 64).list 64 := by
  induction d with
  | zero =>
    intro i k hi
    obtain rfl : i = 64 := by omega
    rw [Nat.add_zero, show ((64 : Nat) : Int) = 64 from rfl]
  | succ d ih =>
    intro i k hi
    have hst := l1_step (k + d) i x0 kList (spreadL s 64) (rollV h s i) (rollV_wd hh s i) klen (spreadL_length s 64) (by omega) (klist_wd i) (spread_wd s hs 64 i)
    have hgo := ih (i + 1) k (by omega)
    rw [rollV] at hgo
    rw [← Nat.add_assoc, hst, hgo]
def addTo (h v : V8) : Nat → List Int
  | 0 => []
  | i + 1 => addTo h v i ++ [(h.list.getD i 0 + v.list.getD i 0) % 4294967296]
theorem addTo_length (h v : V8) (i : Nat) : (addTo h v i).length = i := by
  induction i with
  | zero => rfl
  | succ i ih => simp only [addTo, List.length_append, ih, List.length_cons, List.length_nil]
theorem addTo_eight (h v : V8) : addTo h v 8 = (addV h v).list := rfl
theorem list_wd {v : V8} (h : Wd8 v) : ∀ i, Wd (v.list.getD i 0) := by
  intro i
  match i with
  | 0 => exact h.a
  | 1 => exact h.b
  | 2 => exact h.c
  | 3 => exact h.d
  | 4 => exact h.e
  | 5 => exact h.f
  | 6 => exact h.g
  | 7 => exact h.z
  | n + 8 => exact ⟨Int.le_refl _, by show (0 : Int) < 4294967296; decide⟩
theorem rolled_l2 (h v : V8) (hh : Wd8 h) (hv : Wd8 v) (d : Nat) : ∀ (i k : Nat), i + d = 8 → 1 ≤ k →
    armadaref12_rolled.l2 (k + d) h.list v.list (addTo h v i) (i : Int) = some (addV h v).list := by
  induction d with
  | zero =>
    intro i k hi hk
    obtain ⟨k, rfl⟩ : ∃ q, k = q + 1 := ⟨k - 1, by omega⟩
    obtain rfl : i = 8 := by omega
    rw [Nat.add_zero, armadaref12_rolled.l2, if_neg (by decide), addTo_eight]
  | succ d ih =>
    intro i k hi hk
    have c0 : (i : Int) < 8 := by omega
    have c1 : (i : Int) < (h.list.length : Int) := c0
    have c2 : (i : Int) < (v.list.length : Int) := c0
    have c3 : (addTo h v i).length < 17592186044416 := by rw [addTo_length]; omega
    have a1 : wrap64 ((i : Int) + 1) = ((i + 1 : Nat) : Int) := by unfold wrap64; omega
    have q := num2 _ _ (list_wd hh i) (list_wd hv i)
    have hgo := ih (i + 1) k (by omega) hk
    rw [addTo] at hgo
    rw [← Nat.add_assoc, armadaref12_rolled.l2, if_pos c0, if_pos (Int.natCast_nonneg _), if_pos c1, if_pos c2, rd_nat, rd_nat, q, Option.bind_some, if_pos c3, a1, hgo]
theorem rolledV_wd {h : V8} (s : ByteArray) : Wd8 (rolledV h s) := ⟨Wd.mod _, Wd.mod _, Wd.mod _, Wd.mod _, Wd.mod _, Wd.mod _, Wd.mod _, Wd.mod _⟩
theorem rolled_is (s : ByteArray) (hs : s.size = 64) (h : V8) (hh : Wd8 h) (k : Nat) (hk : 200 ≤ k) : armadaref12_rolled.f k h.list (wordsN s 16) kList = some (rolledV h s).list := by
  have e0 : k = (k - 48) + 48 := by omega
  have e1 : k - 48 = (k - 49) + 1 := by omega
  have e2 : k - 49 = (k - 113) + 64 := by omega
  have e3 : k - 113 = (k - 114) + 1 := by omega
  have e4 : k - 114 = (k - 122) + 8 := by omega
  have h0 := rolled_l0 s hs h.list kList 48 16 (k - 48) (Nat.le_refl _) rfl
  have h1 := rolled_l1 s hs h hh h.list 64 0 (k - 113) rfl
  have h2 := rolled_l2 h (rollV h s 64) hh (rollV_wd hh s 64) 8 0 (k - 122) rfl (by omega)
  rw [spread_words s 16 (Nat.le_refl _)] at h0
  unfold armadaref12_rolled.f
  rw [Option.bind_some, if_pos (by rw [List.length_nil, wordsN_length]; omega), List.nil_append]
  rw [show (16 : Int) = ((16 : Nat) : Int) from rfl, e0, h0, e1, armadaref12_rolled.l0, if_neg (by decide), Option.bind_some, if_pos (by rw [List.length_nil]; show 0 + 8 < _; omega), List.nil_append]
  rw [e2]
  refine h1.trans ?_
  rw [e3, armadaref12_rolled.l1, if_neg (by decide), e4]
  exact h2
end Go.Proofs.Ytkejacgedipoeaa.P
