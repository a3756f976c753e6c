/- ver: what the document's functions tell: Check, Compare: as the program's. -/
import Derived.Test.YthoiepkejhhcoaaDoorZVQM1
import Derived.Test.YthoiepkejhhcoaaDoorZVQVMaxL
set_option linter.unusedVariables false
set_option linter.unusedSimpArgs false
namespace Go.Proofs.YthoiepkejhhcoaaDoor.P
open Go.RowKit Go.Proofs.YthoiepkejhhcoaaDoorW.PrintWords Go.Proofs.YthoiepkejhhcoaaDoorW.PrintLast Go.Proofs.YthoiepkejhhcoaaDoorW.PrintMore
theorem rdig_l0 (s : ByteArray) (hs : s.size ≤ 1000000) : ∀ (n i k : Nat), n + i = s.size → n + 1 ≤ k → armadaref07_digits.l0 k s (i : Int) = some (allP dch s n i && (s.size != 0))
  | 0, i, k, hn, hk => by
    obtain ⟨k, rfl⟩ : ∃ k', k = k' + 1 := ⟨k - 1, by omega⟩
    rw [armadaref07_digits.l0, if_neg (by omega), toList_bne]; rfl
  | n + 1, i, k, hn, hk => by
    obtain ⟨k, rfl⟩ : ∃ k', k = k' + 1 := ⟨k - 1, by omega⟩
    rw [armadaref07_digits.l0, if_pos (by omega), if_pos (by omega), wsucc i (by omega), rdig_l0 s hs n (i + 1) k (by omega) (by omega), allP]
    unfold dch
    by_cases c1 : bt s (i : Int) < 48
    · rw [if_pos c1, decide_eq_false (show ¬ (48 : Int) ≤ bt s (i : Int) by omega)]; rfl
    · rw [if_neg c1, decide_eq_true (show (48 : Int) ≤ bt s (i : Int) by omega)]
      by_cases c2 : bt s (i : Int) > 57
      · rw [if_pos c2, decide_eq_false (show ¬ bt s (i : Int) ≤ 57 by omega)]; rfl
      · rw [if_neg c2, decide_eq_true (show bt s (i : Int) ≤ 57 by omega)]; rfl
theorem rdig_f (s : ByteArray) (hs : s.size ≤ 1000000) (k : Nat) (hk : s.size + 1 ≤ k) : armadaref07_digits.f k s = some (digB s) := by
  unfold armadaref07_digits.f digB
  exact rdig_l0 s hs s.size 0 k (by omega) hk
theorem rspl_l0 (s : ByteArray) (c : Int) (hs : s.size ≤ 1000000) : ∀ (n fr i k : Nat) (out : List ByteArray), n + i = s.size → fr ≤ i → out.length ≤ i → n + 2 ≤ k → armadaref05_Split.l0 k s c out (fr : Int) (i : Int) = some (out ++ sp c s n fr i)
  | 0, fr, i, k, out, hn, hf, ho, hk => by
    obtain ⟨k, rfl⟩ : ∃ k', k = k' + 2 := ⟨k - 2, by omega⟩
    obtain rfl : i = s.size := by omega
    rw [armadaref05_Split.l0, if_pos (by omega), if_pos rfl, if_pos (by omega), if_pos (by omega), if_pos (by omega), wsucc s.size (by omega), armadaref05_Split.l0, if_neg (by omega), Int.toNat_natCast, Int.toNat_natCast]
    rfl
  | n + 1, fr, i, k, out, hn, hf, ho, hk => by
    obtain ⟨k, rfl⟩ : ∃ k', k = k' + 1 := ⟨k - 1, by omega⟩
    rw [armadaref05_Split.l0, if_pos (by omega), if_neg (by omega), if_pos (by omega), if_pos (by omega), wsucc i (by omega), sp]
    by_cases e : bt s (i : Int) = c
    · rw [if_pos e, if_pos e, if_pos (by omega), if_pos (by omega), if_pos (by omega), Int.toNat_natCast, Int.toNat_natCast]
      rw [rspl_l0 s c hs n (i + 1) (i + 1) k _ (by omega) (by omega) (by rw [List.length_append, List.length_singleton]; omega) (by omega)]
      simp
    · rw [if_neg e, if_neg e]
      exact rspl_l0 s c hs n fr (i + 1) k out (by omega) (by omega) (by omega) (by omega)
theorem rspl_f (s : ByteArray) (hs : s.size ≤ 1000000) (k : Nat) (hk : s.size + 2 ≤ k) : armadaref05_Split.f k s 46 = some (spl 46 s) := by
  unfold armadaref05_Split.f
  have := rspl_l0 s 46 hs s.size 0 0 k [] (by omega) (by omega) (Nat.zero_le _) hk
  rw [spl_sp]
  exact this
theorem wch_ite {α : Type} (c : Int) (T F : α) :
    (if c ≥ 97 then (if c ≤ 122 then T else (if c ≥ 65 then (if c ≤ 90 then T else (if c ≥ 48 then (if c ≤ 57 then T else (if c = 45 then T else F)) else (if c = 45 then T else F))) else (if c ≥ 48 then (if c ≤ 57 then T else (if c = 45 then T else F)) else (if c = 45 then T else F))))
     else (if c ≥ 65 then (if c ≤ 90 then T else (if c ≥ 48 then (if c ≤ 57 then T else (if c = 45 then T else F)) else (if c = 45 then T else F))) else (if c ≥ 48 then (if c ≤ 57 then T else (if c = 45 then T else F)) else (if c = 45 then T else F)))) = if wch c = true then T else F := by
  by_cases h : wch c = true
  · rw [if_pos h]
    unfold wch dch at h
    simp only [Bool.or_eq_true, Bool.and_eq_true, decide_eq_true_eq, beq_iff_eq] at h
    repeat' split
    all_goals first | rfl | (exfalso; omega)
  · rw [if_neg h]
    unfold wch dch at h
    simp only [Bool.or_eq_true, Bool.and_eq_true, decide_eq_true_eq, beq_iff_eq, not_or, not_and] at h
    obtain ⟨h1, h2, h3, h4⟩ := h
    repeat' split
    all_goals first | rfl | (exfalso; omega)
def okW (z : Bool) (x : ByteArray) : Bool := wordB x && (z || tightB x)
theorem rid_l1 (z : Bool) (l : List ByteArray) (i : Nat) (x : ByteArray) (hi : i < l.length) (hn : l.length ≤ 1000000) (hx : rdOf ByteArray.empty l (i : Int) = x) (hs : x.size ≤ 1000) (K : Nat) (R : Bool)
    (C : ∀ k, K ≤ k → armadaref07_identifiers.l0 k z l ((i + 1 : Nat) : Int) = some R) :
    ∀ (n j k : Nat), n + j = x.size → n + K + x.size + 3 ≤ k → armadaref07_identifiers.l1 k z l (i : Int) (j : Int) = some ((allP wch x n j && (x.size != 0) && (z || tightB x)) && R)
  | 0, j, k, hj, hk => by
    obtain ⟨k, rfl⟩ : ∃ k', k = k' + 1 := ⟨k - 1, by omega⟩
    rw [armadaref07_identifiers.l1, if_pos (by omega), if_pos (by omega), hx, if_neg (by omega), wsucc i (by omega), C k (by omega), allP, Bool.true_and]
    by_cases e : x.size = 0
    · rw [if_pos ((toList_nil x).2 e), e]; rfl
    · have hb : (x.size != 0) = true := by simp [e]
      rw [if_neg (fun h => e ((toList_nil x).1 h)), hb, Bool.true_and]
      cases z with
      | true => rw [if_pos rfl]; rfl
      | false =>
        rw [if_neg (by simp), rdig_f x (by omega) k (by omega), Bool.false_or]
        simp only [Option.bind_some]
        unfold tightB
        by_cases d : digB x = true
        · rw [if_pos d, d]
          by_cases g : (x.size : Int) > 1
          · rw [if_pos g, if_pos (by omega), decide_eq_false (show ¬ x.size < 2 by omega)]
            by_cases q : bt x 0 = 48
            · rw [if_pos q, q]; rfl
            · have hq : (bt x 0 != 48) = true := by simp [q]
              rw [if_neg q, hq]; rfl
          · rw [if_neg g, decide_eq_true (show x.size < 2 by omega)]; rfl
        · rw [if_neg d, Bool.eq_false_iff.2 d]
          simp
  | n + 1, j, k, hj, hk => by
    obtain ⟨k, rfl⟩ : ∃ k', k = k' + 1 := ⟨k - 1, by omega⟩
    have ih := rid_l1 z l i x hi hn hx hs K R C n (j + 1) k (by omega) (by omega)
    rw [armadaref07_identifiers.l1, if_pos (by omega), if_pos (by omega), hx, if_pos (by omega), if_pos (by omega), wsucc j (by omega), ih]
    refine (wch_ite _ _ _).trans ?_
    rw [allP]
    by_cases w : wch (bt x (j : Int)) = true
    · rw [if_pos w, w, Bool.true_and]
    · rw [if_neg w, Bool.eq_false_iff.2 w, Bool.false_and, Bool.false_and, Bool.false_and, Bool.false_and]
theorem rd_drop' {l : List ByteArray} {i : Nat} {x : ByteArray} {r : List ByteArray} (h : l.drop i = x :: r) : rdOf ByteArray.empty l (i : Int) = x ∧ i < l.length ∧ l.drop (i + 1) = r := by
  have hi : i < l.length := by
    apply Nat.lt_of_not_le
    intro c
    rw [List.drop_eq_nil_iff.2 c] at h; cases h
  rw [List.drop_eq_getElem_cons hi] at h
  have h1 := (List.cons.inj h).1
  have h2 := (List.cons.inj h).2
  refine ⟨?_, hi, h2⟩
  unfold rdOf
  rw [Int.toNat_natCast, List.getD_eq_getElem?_getD, List.getElem?_eq_getElem hi]
  exact h1
def cst : Nat → Nat
  | 0 => 0
  | n + 1 => cst n + 3000
theorem cst_le (n : Nat) (h : n ≤ 1001) : cst n ≤ 3003000 := by
  have : ∀ n, cst n = n * 3000 := fun n => by
    induction n with
    | zero => rfl
    | succ n ih => rw [cst, ih]; omega
  rw [this]; omega
theorem rid_l0 (z : Bool) (l : List ByteArray) (hn : l.length ≤ 1000000) (hs : ∀ x ∈ l, x.size ≤ 1000) (r : List ByteArray) : ∀ (i k : Nat), l.drop i = r → i ≤ l.length → cst r.length < k → armadaref07_identifiers.l0 k z l (i : Int) = some (r.all (okW z)) := by
  induction r with
  | nil =>
    intro i k hr hi hk
    obtain ⟨k, rfl⟩ : ∃ k', k = k' + 1 := ⟨k - 1, by omega⟩
    have := List.drop_eq_nil_iff.1 hr
    rw [armadaref07_identifiers.l0, if_neg (by omega)]; rfl
  | cons x r ih =>
    intro i k hr hi hk
    obtain ⟨k, rfl⟩ : ∃ k', k = k' + 1 := ⟨k - 1, by omega⟩
    obtain ⟨hx, hlt, hd⟩ := rd_drop' hr
    have hmem : x ∈ l := List.mem_of_mem_drop (i := i) (by rw [hr]; exact List.mem_cons_self)
    have hsx := hs x hmem
    rw [List.length_cons, cst] at hk
    rw [armadaref07_identifiers.l0, if_pos (by omega)]
    obtain ⟨K, hK⟩ : ∃ K, K = cst r.length + 1 := ⟨_, rfl⟩
    have C : ∀ k', K ≤ k' → armadaref07_identifiers.l0 k' z l ((i + 1 : Nat) : Int) = some (r.all (okW z)) := fun k' hk' => ih (i + 1) k' hd (by omega) (by omega)
    have h3 : x.size + K + x.size + 3 ≤ k := by omega
    have := rid_l1 z l i x hlt hn hx hsx K (r.all (okW z)) C x.size 0 k (by omega) h3
    refine this.trans ?_
    rw [List.all_cons]
    unfold okW wordB
    rfl
theorem rid_f (z : Bool) (s : ByteArray) (hs : s.size ≤ 1000) (k : Nat) (hk : 4000000 ≤ k) : armadaref07_identifiers.f k s z = some ((spl 46 s).all (okW z)) := by
  unfold armadaref07_identifiers.f
  rw [rspl_f s (by omega) k (by omega)]
  simp only [Option.bind_some]
  have hl := spl_length 46 s
  have hc := cnt_le 46 s
  exact rid_l0 z (spl 46 s) (by omega) (fun x hx => Nat.le_trans (spl_sizes 46 s x hx) hs) (spl 46 s) 0 k rfl (Nat.zero_le _) (by have := cst_le (spl 46 s).length (by omega); omega)
theorem okW_true : (okW true : ByteArray → Bool) = fun x => wordB x && true := by funext x; unfold okW; rw [Bool.true_or]
theorem okW_false : (okW false : ByteArray → Bool) = fun x => wordB x && tightB x := by funext x; unfold okW; rw [Bool.false_or]
theorem rnum_f (n : Int) : armadaref07_num.f n = some (numB n) := by
  unfold armadaref07_num.f numB
  by_cases h : n ≥ 0
  · rw [if_pos h, decide_eq_true (show 0 ≤ n from h), Bool.true_and]
  · rw [if_neg h, decide_eq_false (show ¬ 0 ≤ n from h), Bool.false_and]
theorem rcheck_f (a b c : Int) (p q : ByteArray) (k : Nat) (hk : 4000001 ≤ k) : armadaref07_Check.f k a b c p q = some (checkB a b c p q) := by
  obtain ⟨k, rfl⟩ : ∃ k', k = k' + 1 := ⟨k - 1, by omega⟩
  have no : armadaref07_Check.j0 (k + 1) true a b c p q = some false := by rw [armadaref07_Check.j0, if_pos rfl]
  unfold armadaref07_Check.f checkB
  rw [rnum_f, rnum_f, rnum_f]
  simp only [Option.bind_some]
  cases numB a with
  | false => rw [if_neg (by simp), no, Bool.false_and]
  | true =>
    rw [if_pos rfl, Bool.true_and]
    cases numB b with
    | false => rw [if_neg (by simp), no, Bool.false_and]
    | true =>
      rw [if_pos rfl, Bool.true_and]
      cases numB c with
      | false => rw [if_neg (by simp), no, Bool.false_and]
      | true =>
        rw [if_pos rfl, Bool.true_and]
        by_cases h1 : (p.size : Int) > 30
        · rw [if_pos h1, no, decide_eq_false (show ¬ p.size ≤ 30 by omega), Bool.false_and]
        · rw [if_neg h1, decide_eq_true (show p.size ≤ 30 by omega), Bool.true_and]
          by_cases h2 : (q.size : Int) > 30
          · rw [decide_eq_true h2, no, decide_eq_false (show ¬ q.size ≤ 30 by omega), Bool.false_and]
          · rw [decide_eq_false h2, decide_eq_true (show q.size ≤ 30 by omega), Bool.true_and, armadaref07_Check.j0, if_neg (by simp)]
            have hp := rid_f false p (by omega) k (by omega)
            have hq := rid_f true q (by omega) k (by omega)
            rw [okW_false] at hp
            rw [okW_true] at hq
            change _ = some (preB p) at hp
            change _ = some (bldB q) at hq
            rw [hp, hq]
            simp only [Option.bind_some]
            by_cases e1 : p.size = 0
            · rw [if_pos ((toList_nil p).2 e1), e1]
              by_cases e2 : q.size = 0
              · rw [if_pos ((toList_nil q).2 e2), e2]; rfl
              · rw [if_neg (fun h => e2 ((toList_nil q).1 h)), beq_eq_false_iff_ne.2 e2]; rfl
            · rw [if_neg (fun h => e1 ((toList_nil p).1 h)), beq_eq_false_iff_ne.2 e1, Bool.false_or]
              cases preB p with
              | false => rw [if_neg (by simp)]; rfl
              | true =>
                rw [if_pos rfl, Bool.true_and]
                by_cases e2 : q.size = 0
                · rw [if_pos ((toList_nil q).2 e2), e2]; rfl
                · rw [if_neg (fun h => e2 ((toList_nil q).1 h)), beq_eq_false_iff_ne.2 e2]; rfl
theorem rorder_f (a b : Int) : armadaref07_order.f a b = some (cmpI a b) := by
  unfold armadaref07_order.f cmpI
  split
  · rfl
  · split <;> rfl
theorem less_cmp : ∀ a b : List UInt8, (if Op.bytesLess a b = true then (-1 : Int) else (if Op.bytesLess b a = true then 1 else 0)) = Lib.compareBytes a b
  | [], [] => rfl
  | [], _ :: _ => rfl
  | _ :: _, [] => rfl
  | x :: xs, y :: ys => by
    have ih := less_cmp xs ys
    have e1 : Op.bytesLess (x :: xs) (y :: ys) = (decide (x < y) || (x == y && Op.bytesLess xs ys)) := rfl
    have e2 : Op.bytesLess (y :: ys) (x :: xs) = (decide (y < x) || (y == x && Op.bytesLess ys xs)) := rfl
    rw [Lib.compareBytes, ← ih, e1, e2]
    by_cases h1 : x < y
    · rw [decide_eq_true h1, Bool.true_or, if_pos rfl, if_pos h1]
    · by_cases h2 : y < x
      · have hne : ¬ x = y := fun e => by subst e; exact h1 h2
        rw [decide_eq_false h1, beq_eq_false_iff_ne.2 hne, Bool.false_and, Bool.false_or, if_neg (by simp), decide_eq_true h2, Bool.true_or, if_pos rfl, if_neg h1, if_pos h2]
      · have e : x = y := by
          rw [UInt8.lt_iff_toNat_lt] at h1 h2
          exact UInt8.toNat_inj.1 (by omega)
        subst e
        rw [decide_eq_false h1, beq_self_eq_true, Bool.true_and, Bool.false_or, Bool.true_and, Bool.false_or, if_neg h1, if_neg h1]
theorem cmpI_ne {a b : Int} : (a != b) = true ↔ cmpI a b ≠ 0 := by
  rw [bne_iff_ne, Ne, Ne, cmpI_zero]
theorem rwords_f (a b : ByteArray) (ha : a.size ≤ 1000) (hb : b.size ≤ 1000) (k : Nat) (hk : 1010 ≤ k) : armadaref07_words.f k a b = some (byWordZ a b) := by
  obtain ⟨k, rfl⟩ : ∃ k', k = k' + 3 := ⟨k - 3, by omega⟩
  have hz : (if Op.bytesLess a.toList b.toList = true then (some (-1 : Int)) else (if Op.bytesLess b.toList a.toList = true then (some 1) else (some 0))) = some (cz a b) := by
    have := less_cmp a.toList b.toList
    unfold cz
    rw [← ByteArray.toList_eq, ← ByteArray.toList_eq, ← this]
    split
    · rfl
    · split <;> rfl
  unfold armadaref07_words.f byWordZ
  rw [rdig_f a (by omega) _ (by omega), rdig_f b (by omega) _ (by omega)]
  simp only [Option.bind_some]
  cases digB a with
  | true =>
    rw [if_pos rfl, if_pos rfl]
    cases digB b with
    | true =>
      rw [if_pos rfl, if_pos rfl, armadaref07_words.j0]
      by_cases e : cmpI (a.size : Int) (b.size : Int) = 0
      · have : ¬ ((a.size : Int) != (b.size : Int)) = true := fun h => cmpI_ne.1 h e
        rw [if_neg this, if_pos rfl, armadaref07_words.j1, if_neg (by simp), if_pos rfl, armadaref07_words.j2, if_neg (by simp), if_pos e]
        exact hz
      · rw [if_pos (cmpI_ne.2 e), rorder_f, if_neg e]; rfl
    | false =>
      rw [if_neg (by simp), if_neg (by simp), armadaref07_words.j0, if_neg (by simp), if_pos rfl, armadaref07_words.j1, if_pos (by rfl)]
  | false =>
    rw [if_neg (by simp), if_neg (by simp), armadaref07_words.j0, if_neg (by simp), if_neg (by simp), armadaref07_words.j1, if_neg (by simp)]
    cases digB b with
    | true => rw [if_pos rfl, if_pos rfl, armadaref07_words.j2, if_pos (by rfl)]
    | false => rw [if_neg (by simp), if_neg (by simp), armadaref07_words.j2, if_neg (by simp)]; exact hz
theorem rpre_l0 (l m : List ByteArray) (hl : l.length ≤ 1000000) (hm : m.length ≤ 1000000) (sl : ∀ x ∈ l, x.size ≤ 1000) (sm : ∀ x ∈ m, x.size ≤ 1000) : ∀ (r t : List ByteArray) (i k : Nat), l.drop i = r → m.drop i = t → i ≤ l.length → i ≤ m.length → 2 * r.length + 2000 ≤ k →
    armadaref07_pre.l0 k l m (i : Int) = some (cmpL r t)
  | [], t, i, k, hr, ht, hi, hj, hk => by
    obtain ⟨k, rfl⟩ : ∃ k', k = k' + 2 := ⟨k - 2, by omega⟩
    have e := List.drop_eq_nil_iff.1 hr
    rw [armadaref07_pre.l0, if_neg (by omega), armadaref07_pre.j2, if_neg (by simp), rorder_f]
    have hlen : t.length = m.length - i := by rw [← ht, List.length_drop]
    cases t with
    | nil => rw [List.length_nil] at hlen; rw [show (l.length : Int) = (m.length : Int) by omega, cmpI_zero.2 rfl]; rfl
    | cons y t =>
      rw [List.length_cons] at hlen
      have : cmpI (l.length : Int) (m.length : Int) = -1 := by unfold cmpI; rw [if_pos (by omega)]
      rw [this]; rfl
  | x :: r, [], i, k, hr, ht, hi, hj, hk => by
    obtain ⟨k, rfl⟩ : ∃ k', k = k' + 2 := ⟨k - 2, by omega⟩
    obtain ⟨hx, hlt, hd⟩ := rd_drop' hr
    have e := List.drop_eq_nil_iff.1 ht
    rw [armadaref07_pre.l0, if_pos (by omega), decide_eq_false (show ¬ (i : Int) < (m.length : Int) by omega), armadaref07_pre.j2, if_neg (by simp), rorder_f]
    have : cmpI (l.length : Int) (m.length : Int) = 1 := by unfold cmpI; rw [if_neg (by omega), if_pos (by omega)]
    rw [this]; rfl
  | x :: r, y :: t, i, k, hr, ht, hi, hj, hk => by
    obtain ⟨k, rfl⟩ : ∃ k', k = k' + 2 := ⟨k - 2, by omega⟩
    obtain ⟨hx, hlt, hd⟩ := rd_drop' hr
    obtain ⟨hy, hlt2, hd2⟩ := rd_drop' ht
    have mx : x ∈ l := List.mem_of_mem_drop (i := i) (by rw [hr]; exact List.mem_cons_self)
    have my : y ∈ m := List.mem_of_mem_drop (i := i) (by rw [ht]; exact List.mem_cons_self)
    rw [List.length_cons] at hk
    rw [armadaref07_pre.l0, if_pos (by omega), decide_eq_true (show (i : Int) < (m.length : Int) by omega), armadaref07_pre.j2, if_pos rfl, if_pos (by omega), if_pos (by omega), if_pos (by omega), hx, hy, rwords_f x y (sl x mx) (sm y my) k (by omega)]
    simp only [Option.bind_some]
    rw [cmpL]
    by_cases e : byWordZ x y = 0
    · rw [if_pos e, if_pos e, wsucc i (by omega)]
      exact rpre_l0 l m hl hm sl sm r t (i + 1) k hd hd2 (by omega) (by omega) (by omega)
    · rw [if_neg e, if_neg e]
theorem nil_beq (x : ByteArray) : (x.toList == ([] : List UInt8)) = decide (x.size = 0) := by
  by_cases h : x.size = 0
  · rw [decide_eq_true h, beq_iff_eq]; exact (toList_nil x).2 h
  · rw [decide_eq_false h, beq_eq_false_iff_ne]; exact fun e => h ((toList_nil x).1 e)
theorem rone_f (x : Bool) : armadaref07_one.f x = some (if x = true then 1 else 0) := by unfold armadaref07_one.f; split <;> rfl
theorem rpre_f (a b : ByteArray) (ha : a.size ≤ 1000) (hb : b.size ≤ 1000) (k : Nat) (hk : 10000 ≤ k) : armadaref07_pre.f k a b = some (preZ a b) := by
  obtain ⟨k, rfl⟩ : ∃ k', k = k' + 1 := ⟨k - 1, by omega⟩
  have one : armadaref07_pre.j0 (k + 1) a b true = some (cmpI (if a.size = 0 then 1 else 0) (if b.size = 0 then 1 else 0)) := by
    rw [armadaref07_pre.j0, if_pos rfl, nil_beq, nil_beq, rone_f, rone_f]
    simp only [Option.bind_some, decide_eq_true_eq]
    rw [rorder_f]; rfl
  unfold armadaref07_pre.f
  by_cases e1 : a.size = 0
  · rw [if_pos ((toList_nil a).2 e1), one, if_pos e1]
    unfold preZ
    by_cases e2 : b.size = 0
    · rw [if_pos e2, if_pos (((toList_nil a).2 e1).trans ((toList_nil b).2 e2).symm)]; rfl
    · have : ¬ a.toList = b.toList := fun h => e2 ((toList_nil b).1 (h.symm.trans ((toList_nil a).2 e1)))
      rw [if_neg e2, if_neg this, if_pos e1]; rfl
  · rw [if_neg (fun h => e1 ((toList_nil a).1 h)), nil_beq]
    by_cases e2 : b.size = 0
    · rw [decide_eq_true e2, one, if_neg e1, if_pos e2]
      have : ¬ a.toList = b.toList := fun h => e1 ((toList_nil a).1 (h.trans ((toList_nil b).2 e2)))
      unfold preZ
      rw [if_neg this, if_neg e1, if_pos e2]; rfl
    · rw [decide_eq_false e2, armadaref07_pre.j0, if_neg (by simp), rspl_f a (by omega) k (by omega), rspl_f b (by omega) k (by omega)]
      simp only [Option.bind_some]
      have la := spl_length 46 a
      have ca := cnt_le 46 a
      have lb := spl_length 46 b
      have cb := cnt_le 46 b
      refine (rpre_l0 (spl 46 a) (spl 46 b) (by omega) (by omega) (fun x hx => Nat.le_trans (spl_sizes 46 a x hx) ha) (fun x hx => Nat.le_trans (spl_sizes 46 b x hx) hb) (spl 46 a) (spl 46 b) 0 k rfl rfl (Nat.zero_le _) (Nat.zero_le _) (by omega)).trans ?_
      unfold preZ
      by_cases e : a.toList = b.toList
      · rw [if_pos e, (toList_eq a b).1 e, tot_cmpL.self]
      · rw [if_neg e, if_neg e1, if_neg e2]
theorem rcompare_f (x y : Vr) (k : Nat) (hk : 4000010 ≤ k) : armadaref07_Compare.f k x.a x.b x.c x.p x.q y.a y.b y.c y.p y.q = some (compareZ x y) := by
  obtain ⟨k, rfl⟩ : ∃ k', k = k' + 1 := ⟨k - 1, by omega⟩
  unfold armadaref07_Compare.f compareZ
  rw [rcheck_f _ _ _ _ _ _ (by omega), rcheck_f _ _ _ _ _ _ (by omega)]
  simp only [Option.bind_some]
  by_cases h1 : x.ok = true
  · have h1' : checkB x.a x.b x.c x.p x.q = true := h1
    rw [if_pos h1', if_pos h1]
    by_cases h2 : y.ok = true
    · have h2' : checkB y.a y.b y.c y.p y.q = true := h2
      obtain ⟨_, _, _, s1, _⟩ := check_nums h1'
      obtain ⟨_, _, _, s2, _⟩ := check_nums h2'
      rw [if_pos h2, h2', armadaref07_Compare.j0, if_neg (by simp), rpre_f _ _ (by omega) (by omega) _ (by omega), rorder_f, rorder_f, rorder_f]
      simp only [Option.bind_some]
      unfold ordV
      by_cases e1 : x.a = y.a
      · rw [if_pos e1, if_pos (cmpI_zero.2 e1)]
        by_cases e2 : x.b = y.b
        · rw [if_pos e2, if_pos (cmpI_zero.2 e2)]
          by_cases e3 : x.c = y.c
          · rw [if_pos e3, if_pos (cmpI_zero.2 e3)]
          · rw [if_neg e3, if_neg (fun h => e3 (cmpI_zero.1 h))]
        · rw [if_neg e2, if_neg (fun h => e2 (cmpI_zero.1 h))]
      · rw [if_neg e1, if_neg (fun h => e1 (cmpI_zero.1 h))]
    · have h2' : checkB y.a y.b y.c y.p y.q = false := Bool.eq_false_iff.2 h2
      rw [if_neg h2, h2', armadaref07_Compare.j0, if_pos (by rfl)]
  · have h1' : ¬ checkB x.a x.b x.c x.p x.q = true := h1
    rw [if_neg h1', if_neg h1, armadaref07_Compare.j0, if_pos rfl]
end Go.Proofs.YthoiepkejhhcoaaDoor.P
