/- ver: what the document's Text and Parse tell: as the program's. -/
import Derived.Test.YthoiepkejhhcoaaDoorZVTM1
import Derived.Test.YthoiepkejhhcoaaDoorZVTVRef
import Derived.Test.YthoiepkejhhcoaaDoorZVTVBackL
set_option linter.unusedVariables false
set_option linter.unusedSimpArgs false
namespace Go.Proofs.YthoiepkejhhcoaaDoor.P
open Go.RowKit Go.Proofs.YthoiepkejhhcoaaDoorW.PrintWords Go.Proofs.YthoiepkejhhcoaaDoorW.PrintLast Go.Proofs.YthoiepkejhhcoaaDoorW.PrintMore
theorem rfind_l0 (s : ByteArray) (c : UInt8) (hs : s.size ≤ 1000000) (n : Nat) : ∀ (i k : Nat), n + i = s.size → n + 1 ≤ k → (∀ m, m < i → bt s (m : Int) ≠ (c.toNat : Int)) →
    armadaref07_find.l0 k s (c.toNat : Int) (i : Int) = some (if cnt c s = 0 then -1 else (ix c s : Int)) := by
  induction n with
  | zero =>
    intro i k hn hk hm
    obtain ⟨k, rfl⟩ : ∃ k', k = k' + 1 := ⟨k - 1, by omega⟩
    have : cnt c s = 0 := by
      apply Nat.eq_zero_of_not_pos
      intro hp
      obtain ⟨h1, h2, _⟩ := cnt_first hp
      exact hm _ (by omega) h2
    rw [armadaref07_find.l0, if_neg (by omega), if_pos this]
  | succ n ih =>
    intro i k hn hk hm
    obtain ⟨k, rfl⟩ : ∃ k', k = k' + 1 := ⟨k - 1, by omega⟩
    rw [armadaref07_find.l0, if_pos (by omega), if_pos (by omega), wsucc i (by omega)]
    by_cases e : bt s (i : Int) = (c.toNat : Int)
    · have h0 : ¬ cnt c s = 0 := fun h => cnt_zero h i (by omega) e
      obtain ⟨h1, h2, h3, _⟩ := cnt_first (c := c) (x := s) (by omega)
      have : ix c s = i := by
        rcases Nat.lt_trichotomy (ix c s) i with h | h | h
        · exact absurd h2 (hm _ h)
        · exact h
        · exact absurd e (h3 i h)
      rw [if_pos e, if_neg h0, this]
    · rw [if_neg e]
      refine ih (i + 1) k (by omega) (by omega) fun m h => ?_
      rcases Nat.lt_or_ge m i with g | g
      · exact hm m g
      · rw [show m = i by omega]; exact e
theorem rfind_f (s : ByteArray) (c : UInt8) (hs : s.size ≤ 1000000) (k : Nat) (hk : s.size + 1 ≤ k) : armadaref07_find.f k s (c.toNat : Int) = some (if cnt c s = 0 then -1 else (ix c s : Int)) := by
  unfold armadaref07_find.f
  exact rfind_l0 s c hs s.size 0 k (by omega) hk (fun m h => by omega)
theorem rnumber_f (k : Nat) : ∀ u : Nat, u ≤ 4000000000000000000 → Lib.nDigits u ≤ k → armadaref07_Number.f k (u : Int) = some ⟨(Lib.decDigits u).toArray⟩ := by
  induction k with
  | zero => intro u _ h; have := Lib.nDigits_pos u; omega
  | succ k ih =>
    intro u hu hk
    have t1 : Int.tmod (u : Int) 10 = ((u % 10 : Nat) : Int) := by rw [Int.tmod_eq_emod_of_nonneg (by omega)]; rfl
    have t2 : Int.tdiv (u : Int) 10 = ((u / 10 : Nat) : Int) := by rw [Int.tdiv_eq_ediv_of_nonneg (by omega)]; rfl
    have t3 : (wrap64 (48 + Int.tmod (u : Int) 10)) % 256 = ((48 + u % 10 : Nat) : Int) := by rw [t1]; unfold wrap64; omega
    have one : strOfNums [(wrap64 (48 + Int.tmod (u : Int) 10)) % 256] = ⟨#[UInt8.ofNat (48 + u % 10)]⟩ := by rw [t3]; rfl
    rw [armadaref07_Number.f]
    simp only [Option.bind_some]
    rw [one]
    by_cases h : u < 10
    · rw [if_neg (by omega), Lib.decDigits_one h, Nat.mod_eq_of_lt h]
    · rw [if_pos (by omega), t2]
      have w : wrap64 ((u / 10 : Nat) : Int) = ((u / 10 : Nat) : Int) := by unfold wrap64; omega
      have nd := Lib.nDigits_big h
      rw [w, ih (u / 10) (by omega) (by omega)]
      simp only [Option.bind_some]
      have sz : (⟨(Lib.decDigits (u / 10)).toArray⟩ : ByteArray).size = Lib.nDigits (u / 10) := by
        rw [← Lib.decDigits_length]; show (Lib.decDigits (u / 10)).toArray.size = _; simp
      have nl := nd_le 18 (u / 10) (by omega)
      rw [if_pos (by rw [sz, one_size]; omega), dec_step u h]
      congr 1
theorem rnumber_n (n : Int) (h : numB n = true) (k : Nat) (hk : 20 ≤ k) : armadaref07_Number.f k n = some (itoaB n) := by
  obtain ⟨u, rfl, hu⟩ := num_nat h
  have := nd_le 8 u (by omega)
  rw [rnumber_f k u (by omega) (by omega)]
  unfold itoaB
  rw [Lib.itoa_nonneg]
theorem rtext_f (a b c : Int) (p q : ByteArray) (k : Nat) (hk : 4000001 ≤ k) : armadaref07_Text.f k a b c p q = some (textZ a b c p q) := by
  unfold armadaref07_Text.f textZ
  rw [rcheck_f a b c p q k hk]
  simp only [Option.bind_some]
  by_cases h : checkB a b c p q = true
  · obtain ⟨n1, n2, n3, hp, hq⟩ := check_nums h
    have s1 := itoaB_size a n1
    have s2 := itoaB_size b n2
    have s3 := itoaB_size c n3
    rw [if_pos h, if_pos h, rnumber_n a n1 k (by omega), rnumber_n b n2 k (by omega), rnumber_n c n3 k (by omega)]
    simp only [Option.bind_some]
    unfold withBld withPre dotted
    generalize itoaB a = A at *
    generalize itoaB b = B at *
    generalize itoaB c = C at *
    simp only [ByteArray.size_append, one_size]
    rw [if_pos (by omega), if_pos (by omega), if_pos (by omega), if_pos (by omega), if_pos (by omega)]
    by_cases e1 : p.size = 0
    · rw [if_pos ((toList_nil p).2 e1), if_pos e1]
      by_cases e2 : q.size = 0
      · rw [if_pos ((toList_nil q).2 e2), if_pos e2]
      · rw [if_neg (fun g => e2 ((toList_nil q).1 g)), if_neg e2, if_pos (by omega), if_pos (by omega)]
        simp only [app_assoc]
    · rw [if_neg (fun g => e1 ((toList_nil p).1 g)), if_neg e1, if_pos (by omega), if_pos (by omega)]
      by_cases e2 : q.size = 0
      · rw [if_pos ((toList_nil q).2 e2), if_pos e2]
        simp only [app_assoc]
      · rw [if_neg (fun g => e2 ((toList_nil q).1 g)), if_neg e2, if_pos (by omega), if_pos (by omega)]
        simp only [app_assoc]
  · rw [if_neg h, if_neg h]
/-- The document's read tells a number of every short text. -/
theorem rread_l0 (s : ByteArray) (hs : s.size ≤ 1000000) (n : Nat) : ∀ (i k : Nat) (acc : Int), n + i = s.size → n + 1 ≤ k → ∃ v, armadaref07_read.l0 k s acc (i : Int) = some v := by
  induction n with
  | zero =>
    intro i k acc hn hk
    obtain ⟨k, rfl⟩ : ∃ k', k = k' + 1 := ⟨k - 1, by omega⟩
    rw [armadaref07_read.l0, if_neg (by omega)]; exact ⟨_, rfl⟩
  | succ n ih =>
    intro i k acc hn hk
    obtain ⟨k, rfl⟩ : ∃ k', k = k' + 1 := ⟨k - 1, by omega⟩
    rw [armadaref07_read.l0, if_pos (by omega), if_pos (by omega), wsucc i (by omega)]
    exact ih (i + 1) k _ (by omega) (by omega)
theorem rread_any (s : ByteArray) (hs : s.size ≤ 1000000) (k : Nat) (hk : s.size + 10 ≤ k) : ∃ v, armadaref07_read.f k s = some v := by
  obtain ⟨k, rfl⟩ : ∃ k', k = k' + 1 := ⟨k - 1, by omega⟩
  unfold armadaref07_read.f
  rw [rdig_f s hs _ (by omega)]
  simp only [Option.bind_some]
  have y : armadaref07_read.j0 (k + 1) s 0 true = some (-1) := by rw [armadaref07_read.j0, if_pos rfl]
  by_cases d : digB s = true
  · rw [if_pos d]
    by_cases g : (s.size : Int) > 9
    · rw [decide_eq_true g, y]; exact ⟨_, rfl⟩
    · rw [decide_eq_false g, armadaref07_read.j0, if_neg (by simp)]
      exact rread_l0 s hs s.size 0 k 0 (by omega) (by omega)
  · rw [if_neg d, y]; exact ⟨_, rfl⟩
theorem decFrom_ge : ∀ (l : List UInt8) (acc m : Nat), Lib.decFrom acc l = some m → acc ≤ m
  | [], acc, m, h => by simp only [Lib.decFrom, Option.some.injEq] at h; omega
  | a :: t, acc, m, h => by
    simp only [Lib.decFrom] at h
    cases ha : Lib.digitVal a with
    | none => simp [ha] at h
    | some e =>
      simp only [ha] at h
      have := decFrom_ge t _ m h
      omega
theorem rread_val (s : ByteArray) (hs : s.size ≤ 1000000) (m : Nat) (hm : m ≤ 999999999) (r : List UInt8) : ∀ (i k acc : Nat), s.data.toList.drop i = r → i ≤ s.size → r.length + 1 ≤ k → Lib.decFrom acc r = some m →
    armadaref07_read.l0 k s (acc : Int) (i : Int) = some (m : Int) := by
  have hz : s.data.toList.length = s.size := by rw [Array.length_toList]; rfl
  induction r with
  | nil =>
    intro i k acc hr hi hk h
    obtain ⟨k, rfl⟩ : ∃ k', k = k' + 1 := ⟨k - 1, by omega⟩
    have := List.drop_eq_nil_iff.1 hr
    simp only [Lib.decFrom, Option.some.injEq] at h
    rw [armadaref07_read.l0, if_neg (by omega), h]
  | cons b r ih =>
    intro i k acc hr hi hk h
    obtain ⟨k, rfl⟩ : ∃ k', k = k' + 1 := ⟨k - 1, by omega⟩
    have hlt : i < s.size := by
      apply Nat.lt_of_not_le
      intro c
      rw [List.drop_eq_nil_iff.2 (by omega)] at hr; cases hr
    rw [List.drop_eq_getElem_cons (by omega)] at hr
    have h1 := (List.cons.inj hr).1
    have h2 := (List.cons.inj hr).2
    have hb : bt s (i : Int) = (b.toNat : Int) := (bt_get b s i hlt).2 (by rw [List.getElem?_eq_getElem (by omega), h1])
    simp only [Lib.decFrom] at h
    cases ha : Lib.digitVal b with
    | none => simp [ha] at h
    | some e =>
      simp only [ha] at h
      obtain ⟨d1, d2, d3⟩ := Lib.digitVal_eq ha
      have ge := decFrom_ge r _ m h
      have hk2 : r.length + 1 ≤ k := by rw [List.length_cons] at hk; omega
      have ih2 := ih (i + 1) k (acc * 10 + e) h2 (by omega) hk2 h
      have ac : acc * 10 + e ≤ 999999999 := by omega
      rw [armadaref07_read.l0, if_pos (by omega), if_pos (by omega), wsucc i (by omega), hb]
      clear ih h h1 h2 hr hb ge hk hk2
      have w : wrap64 (wrap64 (wrap64 (10 * (acc : Int)) + wrap64 (b.toNat : Int)) - 48) = ((acc * 10 + e : Nat) : Int) := by
        rw [gw64 (x := 10 * (acc : Int)) (by omega) (by omega), gw64 (x := (b.toNat : Int)) (by omega) (by omega), gw64 (x := 10 * (acc : Int) + (b.toNat : Int)) (by omega) (by omega), gw64 (x := 10 * (acc : Int) + (b.toNat : Int) - 48) (by omega) (by omega)]
        omega
      rw [w]
      exact ih2
theorem rread_n (n : Int) (h : numB n = true) (k : Nat) (hk : 100 ≤ k) : armadaref07_read.f k (itoaB n) = some n := by
  obtain ⟨k, rfl⟩ : ∃ k', k = k' + 1 := ⟨k - 1, by omega⟩
  have hz := itoaB_size n h
  have hd : digB (itoaB n) = true := by
    obtain ⟨u, rfl, hu⟩ := num_nat h
    have hall := dec_all u
    have hs : (itoaB (u : Int)).data.toList = Lib.decDigits u := by unfold itoaB; rw [Lib.itoa_nonneg]
    have hpos := Lib.nDigits_pos u
    have hlen := Lib.decDigits_length u
    have hsz : (itoaB (u : Int)).size = (Lib.decDigits u).length := by rw [← hs, Array.length_toList]; rfl
    unfold digB
    rw [Bool.and_eq_true]
    refine ⟨?_, by rw [bne_iff_ne]; omega⟩
    have key : ∀ n i, n + i = (itoaB (u : Int)).size → allP dch (itoaB (u : Int)) n i = true := by
      intro n
      induction n with
      | zero => intro i _; rfl
      | succ n ih =>
        intro i hi
        rw [allP, ih (i + 1) (by omega), Bool.and_true]
        have hlt : i < (itoaB (u : Int)).data.toList.length := by rw [hs]; omega
        have hb : bt (itoaB (u : Int)) (i : Int) = (((itoaB (u : Int)).data.toList[i]).toNat : Int) := (bt_get _ _ i (by omega)).2 (List.getElem?_eq_getElem hlt)
        have hm : (itoaB (u : Int)).data.toList[i] ∈ Lib.decDigits u := by rw [← hs]; exact List.getElem_mem hlt
        have := hall _ hm
        rw [hb]
        unfold dch
        rw [decide_eq_true (by omega), decide_eq_true (by omega)]; rfl
    exact key _ 0 (by omega)
  obtain ⟨u, rfl, hu⟩ := num_nat h
  have hs : (itoaB (u : Int)).data.toList = Lib.decDigits u := by unfold itoaB; rw [Lib.itoa_nonneg]
  have hlen := Lib.decDigits_length u
  have nd := nd_le 8 u (by omega)
  have hsz : (itoaB (u : Int)).size = (Lib.decDigits u).length := by rw [← hs, Array.length_toList]; rfl
  unfold armadaref07_read.f
  rw [rdig_f _ (by omega) _ (by omega)]
  simp only [Option.bind_some]
  rw [if_pos hd, decide_eq_false (by omega), armadaref07_read.j0, if_neg (by simp)]
  exact rread_val (itoaB (u : Int)) (by omega) u hu (Lib.decDigits u) 0 k 0 (by rw [hs]; rfl) (Nat.zero_le _) (by omega) (dec_val u)
end Go.Proofs.YthoiepkejhhcoaaDoor.P
