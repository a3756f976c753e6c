/- ver: what digits, word and tight tell; words at either test. -/
import Derived.Test.YthoiepkejhhcoaaDoorZVQM0
import Derived.Test.YthoiepkejhhcoaaDoorZVQVWords
set_option linter.unusedVariables false
set_option linter.unusedSimpArgs false
namespace Go.Proofs.YthoiepkejhhcoaaDoor.P
open Go.RowKit Go.Proofs.YthoiepkejhhcoaaDoorW.PrintWords Go.Proofs.YthoiepkejhhcoaaDoorW.PrintLast Go.Proofs.YthoiepkejhhcoaaDoorW.PrintMore
def dch (c : Int) : Bool := decide (48 ≤ c) && decide (c ≤ 57)
def wch (c : Int) : Bool := dch c || ((decide (97 ≤ c) && decide (c ≤ 122)) || ((decide (65 ≤ c) && decide (c ≤ 90)) || c == 45))
def allP (p : Int → Bool) (s : ByteArray) : Nat → Nat → Bool
  | 0, _ => true
  | n + 1, i => p (bt s (i : Int)) && allP p s n (i + 1)
def digB (s : ByteArray) : Bool := allP dch s s.size 0 && (s.size != 0)
def wordB (s : ByteArray) : Bool := allP wch s s.size 0 && (s.size != 0)
def tightB (s : ByteArray) : Bool := decide (s.size < 2) || (bt s 0 != 48 || !digB s)
def numB (n : Int) : Bool := decide (0 ≤ n) && decide (n ≤ 999999999)
theorem toList_bne (s : ByteArray) : (s.toList != ([] : List UInt8)) = (s.size != 0) := by
  rw [Bool.eq_iff_iff, bne_iff_ne, bne_iff_ne]
  exact not_congr (toList_nil s)
theorem digit_f (c : Int) : ver_digit.f c = some (dch c) := by
  unfold ver_digit.f dch
  by_cases h : c ≥ 48
  · rw [if_pos h, decide_eq_true (show 48 ≤ c from h)]; simp
  · rw [if_neg h, decide_eq_false (show ¬ 48 ≤ c from h)]; simp
theorem digits_l0 (s : ByteArray) (hs : s.size ≤ 1000000) : ∀ (n i k : Nat), n + i = s.size → n + 1 ≤ k → ver_digits.l0 k s (s.size : Int) (i : Int) = some (allP dch s n i && (s.size != 0))
  | 0, i, k + 1, hn, hk => by
    rw [ver_digits.l0, if_neg (by omega), toList_bne, allP]; rfl
  | n + 1, i, k + 1, hn, hk => by
    have e1 : wrap64 ((i : Int) + 1) = ((i + 1 : Nat) : Int) := by rw [gw64 (by omega) (by omega)]; omega
    rw [ver_digits.l0, if_pos (by omega), if_pos (by omega), if_pos (by omega), digit_f, e1, allP]
    simp only [Option.bind_some]
    by_cases c : dch (bt s (i : Int)) = true
    · rw [if_pos c, c, digits_l0 s hs n (i + 1) k (by omega) (by omega)]; rfl
    · rw [if_neg c, Bool.eq_false_iff.2 c]; rfl
theorem digits_f (s : ByteArray) (hs : s.size ≤ 1000000) (k : Nat) (hk : s.size + 1 ≤ k) : ver_digits.f k s = some (digB s) := by
  unfold ver_digits.f digB
  exact digits_l0 s hs s.size 0 k (by omega) hk
theorem word_l0 (s : ByteArray) (hs : s.size ≤ 1000000) : ∀ (n i k : Nat), n + i = s.size → n + 1 ≤ k → ver_word.l0 k s (s.size : Int) (i : Int) = some (allP wch s n i && (s.size != 0))
  | 0, i, k + 1, hn, hk => by
    rw [ver_word.l0, if_neg (by omega), toList_bne, allP]; rfl
  | n + 1, i, k + 1, hn, hk => by
    have e1 : wrap64 ((i : Int) + 1) = ((i + 1 : Nat) : Int) := by rw [gw64 (by omega) (by omega)]; omega
    have ih := word_l0 s hs n (i + 1) k (by omega) (by omega)
    rw [ver_word.l0, if_pos (by omega), if_pos (by omega), if_pos (by omega), digit_f, e1, ih, allP]
    simp only [Option.bind_some]
    generalize bt s (i : Int) = c
    unfold wch
    by_cases cd : dch c = true
    · rw [if_pos cd, cd]; simp
    · rw [if_neg cd, Bool.eq_false_iff.2 cd, Bool.false_or]
      by_cases c1 : c < 97
      · rw [if_pos c1, decide_eq_false (show ¬ 97 ≤ c by omega)]
        by_cases c2 : c < 65
        · rw [if_pos c2, decide_eq_false (show ¬ 65 ≤ c by omega)]
          by_cases c3 : c = 45
          · rw [if_pos c3, beq_iff_eq.2 c3]; simp
          · rw [if_neg c3, beq_eq_false_iff_ne.2 c3]; simp
        · rw [if_neg c2, decide_eq_true (show 65 ≤ c by omega)]
          by_cases c3 : c > 90
          · rw [if_pos c3, decide_eq_false (show ¬ c ≤ 90 by omega)]
            by_cases c4 : c = 45
            · omega
            · rw [if_neg c4, beq_eq_false_iff_ne.2 c4]; simp
          · rw [if_neg c3, decide_eq_true (show c ≤ 90 by omega)]; simp
      · rw [if_neg c1, decide_eq_true (show 97 ≤ c by omega)]
        by_cases c3 : c > 122
        · rw [if_pos c3, decide_eq_false (show ¬ c ≤ 122 by omega), if_neg (by omega), if_pos (by omega), if_neg (by omega), decide_eq_false (show ¬ c ≤ 90 by omega), beq_eq_false_iff_ne.2 (show c ≠ 45 by omega)]; simp
        · rw [if_neg c3, decide_eq_true (show c ≤ 122 by omega)]; simp
theorem word_f (s : ByteArray) (hs : s.size ≤ 1000000) (k : Nat) (hk : s.size + 1 ≤ k) : ver_word.f k s = some (wordB s) := by
  unfold ver_word.f wordB
  exact word_l0 s hs s.size 0 k (by omega) hk
theorem tight_f (s : ByteArray) (hs : s.size ≤ 1000000) (k : Nat) (hk : s.size + 1 ≤ k) : ver_tight.f k s = some (tightB s) := by
  unfold ver_tight.f tightB
  by_cases c : (s.size : Int) < 2
  · rw [if_pos c, decide_eq_true (by omega)]; rfl
  · rw [if_neg c, if_pos (by omega), decide_eq_false (by omega)]
    by_cases c1 : bt s 0 = 48
    · rw [if_pos c1, digits_f s hs k hk, bne_eq_false_iff_eq.2 c1]; rfl
    · rw [if_neg c1, bne_iff_ne.2 c1]; rfl
theorem num_f (n : Int) : ver_num.f n = some (numB n) := by
  unfold ver_num.f numB
  by_cases h : n ≥ 0
  · rw [if_pos h, decide_eq_true (show 0 ≤ n from h)]; simp
  · rw [if_neg h, decide_eq_false (show ¬ 0 ≤ n from h)]; simp
theorem num_any (n : Int) (w : World) : Calls Tryd.prog 31 #[.int .i64 n] w fun e w' => e = .returned (.bool (numB n)) ∧ Drawn0 w w' := ver_num.calls n _ w (num_f n)
theorem word_any (x : ByteArray) (W : World) (hx : x.size ≤ 1000000) : Calls Tryd.prog 50 #[.string x] W fun e W' => e = .returned (.bool (wordB x)) ∧ ∃ n, W' = W.drewN n :=
  (ver_word.calls (x.size + 1) x _ W (word_f x hx _ (Nat.le_refl _))).mono (fun _ _ ⟨h1, nd, h2⟩ => ⟨h1, nd, h2.symm ▸ rfl⟩)
theorem tight_any (x : ByteArray) (W : World) (hx : x.size ≤ 1000000) : Calls Tryd.prog 33 #[.string x] W fun e W' => e = .returned (.bool (tightB x)) ∧ ∃ n, W' = W.drewN n :=
  (ver_tight.calls (x.size + 1) x _ W (tight_f x hx _ (Nat.le_refl _))).mono (fun _ _ ⟨h1, nd, h2⟩ => ⟨h1, nd, h2.symm ▸ rfl⟩)
theorem any_any (x : ByteArray) (W : World) : Calls Tryd.prog 30 #[.string x] W fun e W' => e = .returned (.bool true) ∧ ∃ n, W' = W.drewN n := by
  go_enter Tryd.func30, Tryd.ntmps30
  go_wp2
  go_ret
  exact ⟨rfl, 0, rfl⟩
def preB (s : ByteArray) : Bool := (spl 46 s).all fun x => wordB x && tightB x
def bldB (s : ByteArray) : Bool := (spl 46 s).all fun x => wordB x && true
theorem words_pre (s : ByteArray) (hs : s.size ≤ 1000000) (w : World) : Calls Tryd.prog 32 #[.string s, .func (.func 33) #[] #[]] w fun e w' => e = .returned (.bool (preB s)) ∧ Below w.heap.size w w' :=
  words_in s hs 33 wordB tightB (enters_of Tryd.func33 (by kernel_rfl) rfl) word_any tight_any w
theorem words_bld (s : ByteArray) (hs : s.size ≤ 1000000) (w : World) : Calls Tryd.prog 32 #[.string s, .func (.func 30) #[] #[]] w fun e w' => e = .returned (.bool (bldB s)) ∧ Below w.heap.size w w' :=
  words_in s hs 30 wordB (fun _ => true) (enters_of Tryd.func30 (by kernel_rfl) rfl) word_any (fun x W _ => any_any x W) w
end Go.Proofs.YthoiepkejhhcoaaDoor.P
