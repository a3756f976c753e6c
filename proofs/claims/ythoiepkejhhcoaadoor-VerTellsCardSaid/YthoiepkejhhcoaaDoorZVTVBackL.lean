/- ver: the version of a version's text is that version. No program in sight. -/
import Derived.Test.YthoiepkejhhcoaaDoorZVTM4
import Derived.Test.YthoiepkejhhcoaaDoorZVTVOrd
import Derived.Test.YthoiepkejhhcoaaDoorZVTVParse
import Derived.Lib.AtoiTie
import Derived.Lib.ItoaMem
set_option linter.unusedVariables false
set_option linter.unusedSimpArgs false
namespace Go.Proofs.YthoiepkejhhcoaaDoor.P
open Go.RowKit Go.Proofs.YthoiepkejhhcoaaDoorW.PrintWords Go.Proofs.YthoiepkejhhcoaaDoorW.PrintLast Go.Proofs.YthoiepkejhhcoaaDoorW.PrintMore
theorem dec_step (u : Nat) (h : ¬ u < 10) : Lib.decDigits u = Lib.decDigits (u / 10) ++ [UInt8.ofNat (48 + u % 10)] := by rw [Lib.decDigits, dif_neg h]
theorem dig_nat (d : Nat) (h : d < 10) : (UInt8.ofNat (48 + d)).toNat = 48 + d := by
  rw [UInt8.toNat_ofNat', Nat.mod_eq_of_lt (by omega)]
theorem dec_all (u : Nat) : ∀ b ∈ Lib.decDigits u, 48 ≤ b.toNat ∧ b.toNat ≤ 57 := by
  induction u using Nat.strongRecOn with
  | _ u ih =>
    intro b hb
    by_cases h : u < 10
    · rw [Lib.decDigits_one h, List.mem_singleton] at hb
      rw [hb, dig_nat u h]; omega
    · rw [dec_step u h, List.mem_append, List.mem_singleton] at hb
      rcases hb with hb | rfl
      · exact ih (u / 10) (by omega) b hb
      · rw [dig_nat _ (by omega)]; omega
theorem decFrom_app (b : UInt8) (d : Nat) (hd : Lib.digitVal b = some d) : ∀ (l : List UInt8) (acc n : Nat), Lib.decFrom acc l = some n → Lib.decFrom acc (l ++ [b]) = some (n * 10 + d)
  | [], acc, n, h => by
    simp only [Lib.decFrom, Option.some.injEq] at h
    subst h
    simp [Lib.decFrom, hd]
  | a :: t, acc, n, h => by
    simp only [Lib.decFrom, List.cons_append] at h ⊢
    cases ha : Lib.digitVal a with
    | none => simp [ha] at h
    | some e =>
      simp only [ha] at h ⊢
      exact decFrom_app b d hd t _ n h
theorem dval (d : Nat) (h : d < 10) : Lib.digitVal (UInt8.ofNat (48 + d)) = some d := by
  unfold Lib.digitVal
  rw [dig_nat d h, if_pos ⟨by omega, by omega⟩]
  congr 1; omega
theorem dec_val (u : Nat) : Lib.decFrom 0 (Lib.decDigits u) = some u := by
  induction u using Nat.strongRecOn with
  | _ u ih =>
    by_cases h : u < 10
    · rw [Lib.decDigits_one h, Lib.decFrom, dval u h]
      show some (0 * 10 + u) = some u
      congr 1; omega
    · rw [dec_step u h, decFrom_app _ (u % 10) (dval _ (by omega)) _ 0 (u / 10) (ih (u / 10) (by omega))]
      congr 1; omega
theorem nd_le : ∀ (k u : Nat), u < 10 ^ (k + 1) → Lib.nDigits u ≤ k + 1
  | 0, u, h => by rw [Lib.nDigits_small (by simpa using h)]; omega
  | k + 1, u, h => by
    by_cases c : u < 10
    · rw [Lib.nDigits_small c]; omega
    · rw [Nat.pow_succ] at h
      rw [Lib.nDigits_big c]
      have := nd_le k (u / 10) (by omega)
      omega
theorem atoi_dec (u : Nat) (h : u ≤ 999999999) : Lib.atoiAll (Lib.decDigits u) = .ok (u : Int) := by
  have hl : (Lib.decDigits u).length ≤ 18 := by
    rw [Lib.decDigits_length]
    have := nd_le 8 u (by omega)
    omega
  rw [Lib.atoiAll_short _ hl]
  have key : Lib.atoi (Lib.decDigits u) = some (u : Int) := by
    have hv := dec_val u
    have ha := dec_all u
    have hlen := Lib.decDigits_length u
    have hpos := Lib.nDigits_pos u
    cases hd : Lib.decDigits u with
    | nil => rw [hd, List.length_nil] at hlen; omega
    | cons b r =>
      rw [hd] at hv ha
      have hb := ha b List.mem_cons_self
      have n45 : ¬ (b == 45) = true := by
        intro e; rw [beq_iff_eq] at e; subst e; revert hb; decide
      have n43 : ¬ (b == 43) = true := by
        intro e; rw [beq_iff_eq] at e; subst e; revert hb; decide
      rw [Lib.atoi, if_neg n45, if_neg n43]
      unfold Lib.decNat
      rw [if_neg (by simp), hv]; rfl
  rw [key]; rfl
theorem num_nat {n : Int} (h : numB n = true) : ∃ u : Nat, n = u ∧ u ≤ 999999999 := by
  unfold numB at h
  simp only [Bool.and_eq_true, decide_eq_true_eq] at h
  exact ⟨n.toNat, by omega, by omega⟩
theorem atoi_itoa (n : Int) (h : numB n = true) : atoiO (itoaB n) = some n := by
  obtain ⟨u, rfl, hu⟩ := num_nat h
  unfold atoiO itoaB
  rw [Lib.itoa_nonneg]
  change (match Lib.atoiAll (Lib.decDigits u).toArray.toList with | .ok v => some v | _ => none) = _
  rw [List.toList_toArray, atoi_dec u hu]
theorem cnt_app (c : UInt8) (a b : ByteArray) : cnt c (a ++ b) = cnt c a + cnt c b := by
  unfold cnt Lib.countByte
  rw [ByteArray.data_append, Array.toList_append, List.count_append]
theorem cnt_itoa (c : UInt8) (hc : c.toNat < 48) (n : Int) (h : numB n = true) : cnt c (itoaB n) = 0 := by
  obtain ⟨u, rfl, hu⟩ := num_nat h
  unfold cnt Lib.countByte itoaB
  rw [Lib.itoa_nonneg]
  change List.count c (Lib.decDigits u).toArray.toList = 0
  rw [List.toList_toArray]
  apply List.count_eq_zero.2
  intro hm
  have := dec_all u c hm
  omega
theorem index_app (c : UInt8) (r : List UInt8) : ∀ l : List UInt8, l.count c = 0 → Lib.indexByte (l ++ c :: r) c = (l.length : Int)
  | [], _ => by
    show Lib.indexByte (c :: r) c = 0
    unfold Lib.indexByte
    rw [if_pos (by simp)]
  | b :: l, h => by
    rw [List.cons_append]
    unfold Lib.indexByte
    by_cases e : (b == c) = true
    · rw [List.count_cons, if_pos e] at h; omega
    · rw [List.count_cons, if_neg e, Nat.add_zero] at h
      rw [if_neg e, index_app c r l h]
      have : ¬ (((l.length : Nat) : Int) == -1) = true := by rw [beq_iff_eq]; omega
      rw [if_neg this, List.length_cons]; omega
theorem data_one (c : UInt8) : (⟨#[c]⟩ : ByteArray).data.toList = [c] := rfl
theorem ix_app {c : UInt8} {x : ByteArray} (y : ByteArray) (h : cnt c x = 0) : ix c (x ++ (⟨#[c]⟩ ++ y)) = x.size := by
  unfold ix
  rw [ByteArray.data_append, Array.toList_append, ByteArray.data_append, Array.toList_append, data_one, List.singleton_append, index_app c _ _ h]
  rw [Int.toNat_natCast, Array.length_toList]; rfl
theorem cnt_one (c : UInt8) : cnt c ⟨#[c]⟩ = 1 := by
  unfold cnt Lib.countByte
  rw [data_one]; simp
theorem ext_tail (x y : ByteArray) (c : UInt8) : (x ++ (⟨#[c]⟩ ++ y)).extract (x.size + 1) (x ++ (⟨#[c]⟩ ++ y)).size = y := by
  apply tl_inj
  have hz : x.data.toList.length = x.size := by rw [Array.length_toList]; rfl
  have hs : (x ++ (⟨#[c]⟩ ++ y)).size = x.size + (1 + y.size) := by rw [ByteArray.size_append, ByteArray.size_append]; rfl
  have hy : y.data.toList.length = y.size := by rw [Array.length_toList]; rfl
  rw [hs, ByteArray.data_extract, Array.toList_extract, List.extract_eq_take_drop, ByteArray.data_append, Array.toList_append, ByteArray.data_append, Array.toList_append, data_one, List.singleton_append]
  rw [List.drop_append, List.drop_eq_nil_of_le (by omega), hz, Nat.add_sub_cancel_left, List.drop_succ_cons, List.drop_zero, List.nil_append]
  exact List.take_of_length_le (by omega)
theorem ext_head (x z : ByteArray) : (x ++ z).extract 0 x.size = x := by rw [ext_left _ _ _ _ (Nat.le_refl _), ext_all]
theorem cut_at {c : UInt8} {x : ByteArray} (y : ByteArray) (h : cnt c x = 0) : cut2 c (x ++ (⟨#[c]⟩ ++ y)) = (x, y) := by
  unfold cut2
  have : ¬ cnt c (x ++ (⟨#[c]⟩ ++ y)) = 0 := by rw [cnt_app, cnt_app, cnt_one]; omega
  rw [if_neg this, ix_app y h, ext_head, ext_tail]
theorem cut_none {c : UInt8} {x : ByteArray} (h : cnt c x = 0) : cut2 c x = (x, emp) := by unfold cut2; rw [if_pos h]
theorem spl_at {c : UInt8} {x : ByteArray} (y : ByteArray) (h : cnt c x = 0) : spl c (x ++ (⟨#[c]⟩ ++ y)) = x :: spl c y := by
  unfold spl
  rw [show cnt c (x ++ (⟨#[c]⟩ ++ y)) = cnt c y + 1 by rw [cnt_app, cnt_app, cnt_one, h]; omega, pieces, ix_app y h, ext_head, ext_tail]
theorem spl_none {c : UInt8} {x : ByteArray} (h : cnt c x = 0) : spl c x = [x] := by unfold spl; rw [h]; rfl
theorem allP_true (p : Int → Bool) (s : ByteArray) : ∀ (n i : Nat), allP p s n i = true → ∀ j, i ≤ j → j < i + n → p (bt s (j : Int)) = true
  | 0, i, _, j, h1, h2 => by omega
  | n + 1, i, h, j, h1, h2 => by
    rw [allP, Bool.and_eq_true] at h
    by_cases e : j = i
    · rw [e]; exact h.1
    · exact allP_true p s n (i + 1) h.2 j (by omega) (by omega)
theorem word_cnt (c : UInt8) (hc : wch (c.toNat : Int) = false) {x : ByteArray} (h : wordB x = true) : cnt c x = 0 := by
  apply Nat.eq_zero_of_not_pos
  intro hp
  obtain ⟨h1, h2, _⟩ := cnt_first hp
  unfold wordB at h
  rw [Bool.and_eq_true] at h
  have := allP_true wch x x.size 0 h.1 (ix c x) (Nat.zero_le _) (by omega)
  rw [h2, hc] at this; cases this
theorem cnt_join (c d : UInt8) (hcd : c ≠ d) : ∀ l : List ByteArray, (∀ x ∈ l, cnt c x = 0) → cnt c (joinc d l) = 0
  | [], _ => rfl
  | [x], h => h x List.mem_cons_self
  | x :: y :: l, h => by
    have ih := cnt_join c d hcd (y :: l) (fun z hz => h z (List.mem_cons_of_mem _ hz))
    have h1 : cnt c ⟨#[d]⟩ = 0 := by
      unfold cnt Lib.countByte
      rw [data_one]; simp [hcd.symm]
    have hx := h x List.mem_cons_self
    show cnt c (x ++ (⟨#[d]⟩ ++ joinc d (y :: l))) = 0
    rw [cnt_app, cnt_app, hx, h1, ih]
theorem join_spl (c : UInt8) (s : ByteArray) : joinc c (spl c s) = s := by
  rw [spl_sp, join_sp c s s.size 0 0 (by omega) (by omega), ext_all]
theorem pre_cnt {p : ByteArray} (h : preB p = true) : cnt 43 p = 0 := by
  rw [← join_spl 46 p]
  refine cnt_join 43 46 (by decide) _ fun x hx => ?_
  unfold preB at h
  have := List.all_eq_true.1 h x hx
  rw [Bool.and_eq_true] at this
  exact word_cnt 43 (by decide) this.1
theorem app_assoc (a b c : ByteArray) : a ++ b ++ c = a ++ (b ++ c) := ByteArray.append_assoc
def numD (a b c : Int) : ByteArray := itoaB a ++ (⟨#[46]⟩ ++ (itoaB b ++ (⟨#[46]⟩ ++ itoaB c)))
theorem text_v (a b c : Int) (p q : ByteArray) (h : checkB a b c p q = true) : textZ a b c p q = ⟨#[118]⟩ ++ withBld (withPre (numD a b c) p) q := by
  unfold textZ
  rw [if_pos h]
  unfold withBld withPre dotted numD
  split <;> split <;> simp only [app_assoc]
theorem one_size (c : UInt8) : (⟨#[c]⟩ : ByteArray).size = 1 := rfl
theorem has_v (x : ByteArray) : hasV (⟨#[118]⟩ ++ x) = true := by
  unfold hasV
  have h1 : (⟨#[118]⟩ ++ x : ByteArray).size = 1 + x.size := by rw [ByteArray.size_append]; rfl
  have h2 := bt_left ⟨#[118]⟩ x 0 (by rw [one_size]; omega)
  have h3 : bt (⟨#[118]⟩ : ByteArray) ((0 : Nat) : Int) = 118 := by rw [bt_nat _ 0 (by rw [one_size]; omega)]; rfl
  rw [h3] at h2
  have h4 : bt (⟨#[118]⟩ ++ x) 0 = 118 := h2
  rw [h4, decide_eq_true (show 0 < (⟨#[118]⟩ ++ x : ByteArray).size by omega)]; rfl
theorem cut_v (x : ByteArray) : (⟨#[118]⟩ ++ x : ByteArray).extract 1 (⟨#[118]⟩ ++ x : ByteArray).size = x := by
  have h := ext_tail ⟨#[]⟩ x 118
  have e : (⟨#[]⟩ : ByteArray) ++ (⟨#[118]⟩ ++ x) = ⟨#[118]⟩ ++ x := ByteArray.empty_append
  rw [e] at h
  exact h
theorem emp_of {x : ByteArray} (h : x.size = 0) : x = emp := ByteArray.size_eq_zero_iff.1 h
theorem check_pre {a b c : Int} {p q : ByteArray} (h : checkB a b c p q = true) : p.size = 0 ∨ preB p = true := by
  unfold checkB at h
  simp only [Bool.and_eq_true, Bool.or_eq_true, beq_iff_eq] at h
  exact h.2.2.2.2.2.1
theorem text_cuts (a b c : Int) (p q : ByteArray) (h : checkB a b c p q = true) : cut2 43 (withBld (withPre (numD a b c) p) q) = (withPre (numD a b c) p, q) ∧ cut2 45 (withPre (numD a b c) p) = (numD a b c, p) ∧ spl 46 (numD a b c) = [itoaB a, itoaB b, itoaB c] := by
  obtain ⟨n1, n2, n3, _, _⟩ := check_nums h
  have c43 : cnt 43 (withPre (numD a b c) p) = 0 := by
    have hd : cnt 43 (numD a b c) = 0 := by
      unfold numD
      rw [cnt_app, cnt_app, cnt_app, cnt_app, cnt_itoa 43 (by decide) a n1, cnt_itoa 43 (by decide) b n2, cnt_itoa 43 (by decide) c n3]; rfl
    unfold withPre
    split
    · exact hd
    · rename_i hp
      rw [cnt_app, cnt_app, hd]
      rcases check_pre h with g | g
      · exact absurd g hp
      · rw [pre_cnt g]; rfl
  have c45 : cnt 45 (numD a b c) = 0 := by
    unfold numD
    rw [cnt_app, cnt_app, cnt_app, cnt_app, cnt_itoa 45 (by decide) a n1, cnt_itoa 45 (by decide) b n2, cnt_itoa 45 (by decide) c n3]; rfl
  have k1 : cut2 43 (withBld (withPre (numD a b c) p) q) = (withPre (numD a b c) p, q) := by
    unfold withBld
    split
    · rename_i hq; rw [cut_none c43, emp_of hq]
    · exact cut_at q c43
  have k2 : cut2 45 (withPre (numD a b c) p) = (numD a b c, p) := by
    unfold withPre
    split
    · rename_i hp; rw [cut_none c45, emp_of hp]
    · exact cut_at p c45
  have k3 : spl 46 (numD a b c) = [itoaB a, itoaB b, itoaB c] := by
    unfold numD
    rw [spl_at _ (cnt_itoa 46 (by decide) a n1), spl_at _ (cnt_itoa 46 (by decide) b n2), spl_none (cnt_itoa 46 (by decide) c n3)]
  exact ⟨k1, k2, k3⟩
theorem parse_text (a b c : Int) (p q : ByteArray) (h : checkB a b c p q = true) : parseZ (textZ a b c p q) = (a, b, c, p, q, true) := by
  obtain ⟨n1, n2, n3, _, _⟩ := check_nums h
  have c43 : cnt 43 (withPre (numD a b c) p) = 0 := by
    have hd : cnt 43 (numD a b c) = 0 := by
      unfold numD
      rw [cnt_app, cnt_app, cnt_app, cnt_app, cnt_itoa 43 (by decide) a n1, cnt_itoa 43 (by decide) b n2, cnt_itoa 43 (by decide) c n3]; rfl
    unfold withPre
    split
    · exact hd
    · rename_i hp
      rw [cnt_app, cnt_app, hd]
      rcases check_pre h with g | g
      · exact absurd g hp
      · rw [pre_cnt g]; rfl
  have c45 : cnt 45 (numD a b c) = 0 := by
    unfold numD
    rw [cnt_app, cnt_app, cnt_app, cnt_app, cnt_itoa 45 (by decide) a n1, cnt_itoa 45 (by decide) b n2, cnt_itoa 45 (by decide) c n3]; rfl
  have k1 : cut2 43 (withBld (withPre (numD a b c) p) q) = (withPre (numD a b c) p, q) := by
    unfold withBld
    split
    · rename_i hq; rw [cut_none c43, emp_of hq]
    · exact cut_at q c43
  have k2 : cut2 45 (withPre (numD a b c) p) = (numD a b c, p) := by
    unfold withPre
    split
    · rename_i hp; rw [cut_none c45, emp_of hp]
    · exact cut_at p c45
  have k3 : spl 46 (numD a b c) = [itoaB a, itoaB b, itoaB c] := by
    unfold numD
    rw [spl_at _ (cnt_itoa 46 (by decide) a n1), spl_at _ (cnt_itoa 46 (by decide) b n2), spl_none (cnt_itoa 46 (by decide) c n3)]
  have ht := text_v a b c p q h
  unfold parseZ
  rw [ht, if_pos (has_v _), cut_v, k1]
  dsimp only
  rw [k2]
  unfold parseT
  dsimp only
  rw [k3, if_pos (show [itoaB a, itoaB b, itoaB c].length = 3 from rfl)]
  have e0 : nth [itoaB a, itoaB b, itoaB c] 0 = itoaB a := rfl
  have e1 : nth [itoaB a, itoaB b, itoaB c] 1 = itoaB b := rfl
  have e2 : nth [itoaB a, itoaB b, itoaB c] 2 = itoaB c := rfl
  rw [e0, e1, e2, atoi_itoa a n1, atoi_itoa b n2, atoi_itoa c n3]
  show (if (textZ a b c p q).toList = (⟨#[118]⟩ ++ withBld (withPre (numD a b c) p) q).toList then (a, b, c, p, q, true) else noV) = _
  rw [if_pos (by rw [ht])]
theorem parse_true {s : ByteArray} {a b c : Int} {p q : ByteArray} (h : parseZ s = (a, b, c, p, q, true)) : checkB a b c p q = true ∧ textZ a b c p q = s := by
  have hno : ∀ {x y z : Int} {u v : ByteArray}, noV ≠ (x, y, z, u, v, true) := by
    intro x y z u v e
    unfold noV at e
    simp at e
  unfold parseZ at h
  by_cases hv : hasV s = true
  · rw [if_pos hv] at h
    unfold parseT at h
    split at h
    · have key : ∀ x y z : Option Int, ∀ r t : ByteArray, fin3 s r t x y z = (a, b, c, p, q, true) → (textZ a b c p q).toList = s.toList := by
        intro x y z r t e
        unfold fin3 at e
        split at e
        · split at e
          · rename_i hq
            simp only [Prod.mk.injEq] at e
            obtain ⟨rfl, rfl, rfl, rfl, rfl, _⟩ := e
            exact hq
          · exact absurd e hno
        · exact absurd e hno
      have e := (toList_eq _ _).1 (key _ _ _ _ _ h)
      refine ⟨?_, e⟩
      apply Classical.byContradiction
      intro g
      unfold textZ at e
      rw [if_neg g] at e
      rw [← e] at hv
      revert hv; decide
    · exact absurd h hno
  · rw [if_neg hv] at h
    exact absurd h hno
end Go.Proofs.YthoiepkejhhcoaaDoor.P
