/- ver: byWord's answer; slices.CompareFunc over it; byPre, walked. -/
import Derived.Test.YthoiepkejhhcoaaDoorZVQM1
import Derived.Test.YthoiepkejhhcoaaDoorZVQVCheck
import Derived.Test.YthoiepkejhhcoaaDoorZVQGSplit
import Derived.Deep.LoopGhost
import Derived.Outline
import Derived.Sort.AtCall
namespace Go.Proofs.YthoiepkejhhcoaaDoor.P
open Go.RowKit Go.Proofs.YthoiepkejhhcoaaDoorW.PrintWords Go.Proofs.YthoiepkejhhcoaaDoorW.PrintLast Go.Proofs.YthoiepkejhhcoaaDoorW.PrintMore
attribute [local go_sem] max2_int min2_int max_two min_two max_three min_three max_four min_four
set_option linter.unusedVariables false
set_option linter.unusedSimpArgs false
def cz (a b : ByteArray) : Int := Lib.compareBytes a.data.toList b.data.toList
def cmpI (a b : Int) : Int := if a < b then -1 else if a > b then 1 else 0
def byWordZ (a b : ByteArray) : Int :=
  if digB a = true then (if digB b = true then (if cmpI (a.size : Int) (b.size : Int) = 0 then cz a b else cmpI (a.size : Int) (b.size : Int)) else -1) else (if digB b = true then 1 else cz a b)
theorem compare_f (a b : Int) : cmp_Compare_int.f a b = some (cmpI a b) := by
  unfold cmp_Compare_int.f cmp_isNaN_int.f cmpI
  simp only [Option.bind_some, bne_self_eq_false, Bool.false_eq_true, if_false]
  split
  · rfl
  · split <;> rfl
theorem or_two (x y : Int) (k : Nat) (hk : 3 ≤ k) : cmp_Or_int.f k [x, y] = some (if x = 0 then y else x) := by
  obtain ⟨k, rfl⟩ : ∃ k', k = k' + 3 := ⟨k - 3, by omega⟩
  unfold cmp_Or_int.f
  have e0 : rd [x, y] 0 = x := rfl
  have e1 : rd [x, y] 1 = y := rfl
  have w0 : wrap64 (0 + 1) = 1 := by unfold wrap64; omega
  have w1 : wrap64 (1 + 1) = 2 := by unfold wrap64; omega
  have hl : (([x, y] : List Int).length : Int) = 2 := rfl
  rw [hl, cmp_Or_int.l0, hl, if_pos (by omega), if_pos (by omega), if_pos (by omega), e0, w0]
  by_cases c : x = 0
  · rw [if_pos c, if_pos c, cmp_Or_int.l0, hl, if_pos (by omega), if_pos (by omega), if_pos (by omega), e1, w1]
    by_cases c2 : y = 0
    · rw [if_pos c2, cmp_Or_int.l0, if_neg (by omega), c2]
    · rw [if_neg c2]
  · rw [if_neg c, if_neg c]
theorem byWord_f (a b : ByteArray) (ha : a.size ≤ 1000000) (hb : b.size ≤ 1000000) (k : Nat) (hk : a.size + b.size + 10 ≤ k) : ver_byWord.f k a b = some (byWordZ a b) := by
  unfold ver_byWord.f byWordZ
  rw [digits_f a ha k (by omega), digits_f b hb k (by omega)]
  simp only [Option.bind_some]
  obtain ⟨k, rfl⟩ : ∃ k', k = k' + 1 := ⟨k - 1, by omega⟩
  have hc : strings_Compare.f a b = some (cz a b) := rfl
  cases digB a with
  | true =>
    rw [if_pos rfl, if_pos rfl]
    cases digB b with
    | true => rw [ver_byWord.j0, if_pos rfl, if_pos rfl, compare_f, hc]; simp only [Option.bind_some]; rw [or_two _ _ k (by omega)]; rfl
    | false => rw [ver_byWord.j0, if_neg (by simp), if_pos rfl, if_neg (by simp)]
  | false =>
    rw [if_neg (by simp), if_neg (by simp)]
    cases digB b with
    | true => rw [ver_byWord.j0, if_neg (by simp), if_neg (by simp), if_pos rfl, if_pos rfl]
    | false => rw [ver_byWord.j0, if_neg (by simp), if_neg (by simp), if_neg (by simp), if_neg (by simp), hc]; rfl
def cmpL : List ByteArray → List ByteArray → Int
  | [], [] => 0
  | [], _ :: _ => -1
  | _ :: _, [] => 1
  | x :: xs, y :: ys => if byWordZ x y = 0 then cmpL xs ys else byWordZ x y
theorem byWord_any (a b : ByteArray) (ha : a.size ≤ 1000000) (hb : b.size ≤ 1000000) (w : World) : Calls Tryd.prog 55 #[.string a, .string b] w fun e w' => e = .returned (.int .i64 (byWordZ a b)) ∧ Below w.heap.size w w' :=
  ver_byWord.calls _ a b _ w (byWord_f a b ha hb _ (Nat.le_refl _))
set_option maxHeartbeats 8000000 in
set_option maxRecDepth 100000 in
theorem compareFunc_any (A1 A2 : Option Addr) (c1 c2 : Nat) (l1 l2 : List ByteArray) (w : World) (h1 : Kd.C Kd.string w A1 l1.length l1) (h2 : Kd.C Kd.string w A2 l2.length l2) (s1 : ∀ x ∈ l1, x.size ≤ 1000000) (s2 : ∀ x ∈ l2, x.size ≤ 1000000) (n1 : l1.length ≤ 2000000) (n2 : l2.length ≤ 2000000) :
    Calls Tryd.prog 54 #[.slice A1 l1.length c1, .slice A2 l2.length c2, .func (.func 55) #[] #[]] w fun e w' => e = .returned (.int .i64 (cmpL l1 l2)) ∧ Below w.heap.size w w' := by
  have H1 := Aside0.mk h1
  have H2 := Aside0.mk h2
  have S1 := Aside0.mk s1
  have S2 := Aside0.mk s2
  have N1 := Aside0.mk n1
  have N2 := Aside0.mk n2
  have HB0 := Aside0.mk (Below.refl w.heap.size w)
  clear h1 h2 s1 s2 n1 n2
  go_enter Tryd.func54, Tryd.ntmps54
  go_wp2
  go_loopg [13] l1.length (fun kq v13 w' => ∃ i : Nat, v13 = .int .i64 (i : Int) ∧ Aside0 (kq + i = l1.length) ∧ Aside0 (cmpL (l1.drop i) (l2.drop i) = cmpL l1 l2 ∧ i ≤ l2.length) ∧ Aside0 (Below w.heap.size w w'))
  case atStart => exact ⟨0, rfl, ⟨by omega⟩, ⟨rfl, Nat.zero_le _⟩, HB0⟩
  case round =>
    clear HB0
    obtain ⟨i, rfl, HI, HC, HB⟩ := hrel
    cases gk with
    | zero =>
      have hi : i = l1.length := by have := HI.out; omega
      have d0 : decide ((i : Int) < (l1.length : Int)) = false := decide_eq_false (by omega)
      have d0n : decide (i < l1.length) = false := decide_eq_false (by omega)
      by_cases c : l1.length < l2.length
      · have d1 : decide ((l1.length : Int) < (l2.length : Int)) = true := decide_eq_true (by omega)
        have d2 : decide (l1.length < l2.length) = true := decide_eq_true c
        have E := HC.out.1
        rw [List.drop_of_length_le (by omega), List.drop_eq_getElem_cons (show i < l2.length by omega)] at E
        replace E : (-1 : Int) = cmpL l1 l2 := E
        replace E := Aside0.mk E
        clear hi c
        go_wp2
        go_ret
        exact ⟨by rw [← E.out]; rfl, HB.out⟩
      · have d1 : decide ((l1.length : Int) < (l2.length : Int)) = false := decide_eq_false (by omega)
        have d2 : decide (l1.length < l2.length) = false := decide_eq_false c
        have E := HC.out.1
        rw [List.drop_of_length_le (by omega), List.drop_of_length_le (by have := HC.out.2; omega)] at E
        replace E : (0 : Int) = cmpL l1 l2 := E
        replace E := Aside0.mk E
        clear hi c
        go_wp2
        go_ret
        exact ⟨by rw [← E.out]; rfl, HB.out⟩
    | succ j1 =>
      have hi : i < l1.length := by have := HI.out; omega
      have hi0 : (0 : Int) ≤ (i : Int) := by omega
      have hi1 : (i : Int) < (l1.length : Int) := by omega
      have d0 : decide ((i : Int) < (l1.length : Int)) = true := decide_eq_true (by omega)
      have d0n : decide (i < l1.length) = true := decide_eq_true hi
      have hw1 : IntKind.i64.wrap ((i : Int) + 1) = (i : Int) + 1 := by rw [IntKind.wrap_i64]; have := N1.out; omega
      obtain ⟨a1, e1, x1⟩ := Kd.at_string (Kd.C_below H1.out HB.out) (i : Int) (by omega) (by omega)
      rw [Int.toNat_natCast] at x1
      have r1 : rdOf ByteArray.empty l1 (i : Int) = l1[i] := by unfold rdOf; rw [Int.toNat_natCast, List.getD_eq_getElem?_getD, List.getElem?_eq_getElem hi]; rfl
      rw [r1] at x1
      have z1 : (l1[i]).size ≤ 1000000 := S1.out _ (List.getElem_mem hi)
      by_cases c : i < l2.length
      · have d1 : decide ((l2.length : Int) ≤ (i : Int)) = false := decide_eq_false (by omega)
        have d2 : decide (l2.length ≤ i) = false := decide_eq_false (by omega)
        have hi2 : (i : Int) < (l2.length : Int) := by omega
        obtain ⟨a2, e2, x2⟩ := Kd.at_string (Kd.C_below H2.out HB.out) (i : Int) (by omega) (by omega)
        rw [Int.toNat_natCast] at x2
        have r2 : rdOf ByteArray.empty l2 (i : Int) = l2[i] := by unfold rdOf; rw [Int.toNat_natCast, List.getD_eq_getElem?_getD, List.getElem?_eq_getElem c]; rfl
        rw [r2] at x2
        have z2 : (l2[i]).size ≤ 1000000 := S2.out _ (List.getElem_mem c)
        have E := HC.out.1
        rw [List.drop_eq_getElem_cons hi, List.drop_eq_getElem_cons c, cmpL] at E
        subst e1 e2
        clear r1 r2
        generalize l1[i] = x at *
        generalize l2[i] = y at *
        by_cases cw : byWordZ x y = 0
        · rw [if_pos cw] at E
          have q0 : (byWordZ x y != 0) = false := bne_eq_false_iff_eq.2 cw
          have q1 : (byWordZ x y == 0) = true := beq_iff_eq.2 cw
          have E' := Aside0.mk E
          have hii := Aside0.mk hi
          have hcc := Aside0.mk c
          clear cw E hi c
          go_wp2_with (first
            | (go_at_call 55; (with_reducible refine (byWord_any x y z1 z2 _).mono ?_); rintro e w2 ⟨rfl, hb⟩; have HB2 := Aside0.mk (below_step HB.out hb); clear hb))
          go_roundg j1
          case measure => omega
          case rel => exact ⟨i + 1, by simp, ⟨by have := HI.out; omega⟩, ⟨E'.out, hcc.out⟩, HB2⟩
        · rw [if_neg cw] at E
          have q0 : (byWordZ x y != 0) = true := bne_iff_ne.2 cw
          have q1 : (byWordZ x y == 0) = false := beq_eq_false_iff_ne.2 cw
          have E' := Aside0.mk E
          have hii := Aside0.mk hi
          have hcc := Aside0.mk c
          clear cw E hi c
          go_wp2_with (first
            | (go_at_call 55; (with_reducible refine (byWord_any x y z1 z2 _).mono ?_); rintro e w2 ⟨rfl, hb⟩; have HB2 := Aside0.mk (below_step HB.out hb); clear hb))
          go_ret
          exact ⟨by rw [← E'.out]; rfl, HB2.out⟩
      · have d1 : decide ((l2.length : Int) ≤ (i : Int)) = true := decide_eq_true (by omega)
        have d2 : decide (l2.length ≤ i) = true := decide_eq_true (by omega)
        have E := HC.out.1
        rw [List.drop_eq_getElem_cons hi, show l2.drop i = [] from List.drop_of_length_le (by omega)] at E
        replace E : (1 : Int) = cmpL l1 l2 := E
        replace E := Aside0.mk E
        subst e1
        clear r1 c
        generalize l1[i] = x at *
        clear hi
        go_wp2
        go_ret
        exact ⟨by rw [← E.out]; rfl, HB.out⟩
def preZ (a b : ByteArray) : Int := if a.toList = b.toList then 0 else (if a.size = 0 then 1 else (if b.size = 0 then -1 else cmpL (spl 46 a) (spl 46 b)))
theorem eq_facts {a b : ByteArray} (h : a.toList = b.toList) : (a.toList == b.toList) = true := beq_iff_eq.2 h
theorem ne_facts {a b : ByteArray} (h : ¬ a.toList = b.toList) : (a.toList == b.toList) = false := beq_eq_false_iff_ne.2 h
set_option maxHeartbeats 4000000 in
set_option maxRecDepth 100000 in
theorem byPre_any (a b : ByteArray) (ha : a.size ≤ 1000000) (hb : b.size ≤ 1000000) (w : World) : Calls Tryd.prog 40 #[.string a, .string b] w fun e w' => e = .returned (.int .i64 (preZ a b)) ∧ Below w.heap.size w w' := by
  have HA := Aside0.mk ha
  have HB' := Aside0.mk hb
  clear ha hb
  unfold preZ
  by_cases c1 : a.toList = b.toList
  · rw [if_pos c1]
    have f1 := eq_facts c1
    clear c1
    go_enter Tryd.func40, Tryd.ntmps40
    go_wp2
    go_ret
    exact ⟨rfl, Below.refl _ _⟩
  · rw [if_neg c1]
    have f1 := ne_facts c1
    clear c1
    by_cases c2 : a.size = 0
    · rw [if_pos c2]
      obtain ⟨f2, f3⟩ := nil_facts c2
      clear c2
      go_enter Tryd.func40, Tryd.ntmps40
      go_wp2
      go_ret
      exact ⟨rfl, Below.refl _ _⟩
    · rw [if_neg c2]
      obtain ⟨f2, f3⟩ := some_facts c2
      clear c2
      by_cases c3 : b.size = 0
      · rw [if_pos c3]
        obtain ⟨f4, f5⟩ := nil_facts c3
        clear c3
        go_enter Tryd.func40, Tryd.ntmps40
        go_wp2
        go_ret
        exact ⟨rfl, Below.refl _ _⟩
      · rw [if_neg c3]
        obtain ⟨f4, f5⟩ := some_facts c3
        clear c3
        go_enter Tryd.func40, Tryd.ntmps40
        go_wp2_with (fail)
        (with_reducible refine (split_any 46 a HA.out _).mono ?_)
        rintro e w1 ⟨v0, rfl, hr, hb⟩
        obtain ⟨A1, c1, e1⟩ := Kd.R_slice hr
        subst e1
        have R1 := Aside0.mk hr
        have HB1 := Aside0.mk hb
        clear hr hb
        go_wp2_with (fail)
        (with_reducible refine (split_any 46 b HB'.out _).mono ?_)
        rintro e w2 ⟨v0, rfl, hr, hb⟩
        obtain ⟨A2, c2, e2⟩ := Kd.R_slice hr
        subst e2
        have R2 := Aside0.mk hr
        have HB2 := Aside0.mk hb
        clear hr hb
        go_wp2_with (fail)
        refine (compareFunc_any A1 A2 c1 c2 (spl 46 a) (spl 46 b) _ (Kd.C_below (Kd.R_reads' R1.out).2.2 HB2.out) (Kd.R_reads' R2.out).2.2 (fun x hx => Nat.le_trans (spl_sizes 46 a x hx) HA.out) (fun x hx => Nat.le_trans (spl_sizes 46 b x hx) HB'.out) (by rw [spl_length]; have := cnt_le 46 a; have := HA.out; omega) (by rw [spl_length]; have := cnt_le 46 b; have := HB'.out; omega)).mono ?_
        rintro e w3 ⟨rfl, hb⟩
        have HB3 := Aside0.mk (below_step (below_step HB1.out HB2.out) hb)
        clear hb
        go_wp2_with (fail)
        go_ret
        exact ⟨rfl, HB3.out⟩
def ver_byPre.f (a b : ByteArray) : Option Int := if a.size ≤ 1000000 ∧ b.size ≤ 1000000 then some (preZ a b) else none
theorem ver_byPre.calls (a0 a1 : ByteArray) (r : Int) (w : World) (h : ver_byPre.f a0 a1 = some r) :
    Calls Tryd.prog 40 #[.string a0, .string a1] w fun e w' => e = .returned (.int .i64 r) ∧ Below w.heap.size w w' := by
  unfold ver_byPre.f at h
  by_cases c : a0.size ≤ 1000000 ∧ a1.size ≤ 1000000
  · rw [if_pos c] at h
    obtain rfl := Option.some.inj h
    exact byPre_any _ _ c.1 c.2 w
  · rw [if_neg c] at h; cases h
end Go.Proofs.YthoiepkejhhcoaaDoor.P
