/- digest.Pad, walked by hand over the shelf's builder. -/
import Derived.Test.YtkejacgedipoeaaDHex
namespace Go.Proofs.Ytkejacgedipoeaa.P
open Go.RowKit Go.Shelf Go.Proofs.YtkejacgedipoeaaW.PrintWords Go.Proofs.YtkejacgedipoeaaW.PrintLast Go.Proofs.YtkejacgedipoeaaW.PrintMore Go.Proofs.Ytkejacgedipoeaa.Pl
set_option linter.unusedVariables false
set_option linter.unusedSimpArgs false
def zeroCount (n : Int) : Nat := ((119 - n % 64) % 64).toNat
def padHead (n : Int) : List Int := 128 :: List.replicate (zeroCount n) 0
def padTo (n : Int) : Nat → List Int
  | 0 => padHead n
  | j + 1 => padTo n j ++ [8 * n / 2 ^ (56 - 8 * j) % 256]
def digest_Pad.f (a0 : Int) : Option ByteArray := if a0 < 0 ∨ 1099511627776 < a0 then some ⟨#[]⟩ else some (strOfNums (padTo a0 8))
theorem padHead_length (n : Int) : (padHead n).length = 1 + zeroCount n := by simp [padHead]; omega
theorem padTo_length (n : Int) (j : Nat) : (padTo n j).length = 1 + zeroCount n + j := by
  induction j with
  | zero => exact padHead_length n
  | succ j ih => simp only [padTo, List.length_append, ih, List.length_cons, List.length_nil]; omega
theorem zeroCount_lt (n : Int) : zeroCount n < 64 := by unfold zeroCount; omega
theorem repeat_zero (n : Nat) : Lib.repeatL [(0 : UInt8)] n = List.replicate n 0 := by
  induction n with
  | zero => rfl
  | succ n ih => rw [List.replicate_succ, ← ih]; rfl
theorem zeros_str (n : Nat) : (⟨(List.replicate n (0 : UInt8)).toArray⟩ : ByteArray) = strOfNums (List.replicate n 0) := by
  unfold strOfNums
  simp
set_option maxHeartbeats 8000000 in
set_option maxRecDepth 100000 in
theorem pad_yes (n : Int) (w : World) (h0 : 0 ≤ n) (h1 : n ≤ 1099511627776) : Calls Try.prog 15 #[.int .i64 n] w fun e w' => e = .returned (.string (strOfNums (padTo n 8))) ∧ Below w.heap.size w w' := by
  have hn := Aside0.mk (Bld.new w)
  have d0 : decide (n < 0) = false := decide_eq_false (by omega)
  have d1 : decide (1099511627776 < n) = false := decide_eq_false (by omega)
  have m1 : Int.tmod n 64 = n % 64 := Int.tmod_eq_emod_of_nonneg h0
  have m2 : Int.tmod (119 - n % 64) 64 = (119 - n % 64) % 64 := Int.tmod_eq_emod_of_nonneg (by omega)
  have zc : (119 - n % 64) % 64 = (zeroCount n : Int) := by unfold zeroCount; omega
  obtain ⟨z, hz⟩ : ∃ z, zeroCount n = z := ⟨_, rfl⟩
  have zl := zeroCount_lt n
  rw [hz] at zc zl
  have HR : ∀ w1, Calls Try.prog 30 #[.string ⟨#[0]⟩, .int .i64 (z : Int)] w1 fun e w' => e = .returned (.string (strOfNums (List.replicate z 0))) ∧ Below w1.heap.size w1 w' := by
    intro w1
    refine (Try.strings_Repeat ⟨#[0]⟩ z w1 (by omega) (by show 1 * z ≤ _; omega)).mono ?_
    rintro e w' ⟨rfl, hb⟩
    refine ⟨?_, hb⟩
    rw [← zeros_str, ← repeat_zero]
  replace HR := Aside0.mk HR
  have H0 := Aside0.mk h0
  have H1 := Aside0.mk h1
  replace hz := Aside0.mk hz
  replace zl := Aside0.mk zl
  have w1 : IntKind.i64.wrap (119 - n % 64) = 119 - n % 64 := by rw [IntKind.wrap_i64]; omega
  clear h0 h1
  go_enter Try.func15, Try.ntmps15
  go_wp2_with (first
    | (go_at_call 27; (with_reducible refine (Bld.byte hn.out 128 (by omega) (by simp)).mono ?_); rintro e w2 ⟨rfl, HO2⟩)
    | (go_at_call 30; (with_reducible refine (HR.out _).mono ?_); rintro e w3 ⟨rfl, hb3⟩; replace hb3 := Aside0.mk hb3)
    | (go_at_call 29; (with_reducible refine (Bld.text (HO2.out.step hb3.out) (List.replicate z 0) (by intro c hc; obtain rfl := List.eq_of_mem_replicate hc; omega) (by have := zl.out; simp only [List.length_append, List.length_cons, List.length_nil, List.length_replicate]; omega)).mono ?_); rintro e w4 ⟨⟨m, rfl⟩, HO4⟩))
  have HP : Aside0 (Bld w w.heap.size (padTo n 0) w4) := ⟨by have := HO4.out; rw [← hz.out] at this; exact this⟩
  clear HO4 HO2 hb3 hn HR m1 m2 zc w1 d0 d1
  have w8 : IntKind.i64.wrap (8 * n) = 8 * n := by rw [IntKind.wrap_i64]; have := H0.out; have := H1.out; omega
  go_loopg [5] 8 (fun kq v5 w' => ∃ (j : Nat) (sh : Int), v5 = .int .i64 sh ∧ Aside0 (sh = 56 - 8 * (j : Int)) ∧ Aside0 (kq + j = 8) ∧ Aside0 (Bld w w.heap.size (padTo n j) w'))
  case atStart => exact ⟨0, 56, rfl, ⟨rfl⟩, ⟨rfl⟩, HP⟩
  case round =>
    clear HP
    obtain ⟨j, sh, rfl, HS, HK, HO⟩ := hrel
    cases gk with
    | zero =>
      have c0 : decide (0 ≤ sh) = false := decide_eq_false (by have := HS.out; have := HK.out; omega)
      obtain rfl : j = 8 := by have := HK.out; omega
      go_wp2_with (go_at_call 28; (with_reducible refine (Bld.string HO.out).mono ?_); rintro e w2 ⟨rfl, hb2⟩)
      go_ret
      exact ⟨rfl, hb2.out⟩
    | succ k1 =>
      have c0 : decide (0 ≤ sh) = true := decide_eq_true (by have := HS.out; have := HK.out; omega)
      have c1 : 0 ≤ sh := by have := HS.out; have := HK.out; omega
      have c2 : min sh.toNat 64 = sh.toNat := by have := HS.out; omega
      have c3 : sh.toNat = 56 - 8 * j := by have := HS.out; omega
      have hl : Aside0 ((padTo n j).length < 140737488355328 - 1) := ⟨by rw [padTo_length]; have := zeroCount_lt n; have := HK.out; omega⟩
      go_wp2_with (go_at_call 27; (with_reducible refine (Bld.byte HO.out (8 * n / 2 ^ (56 - 8 * j) % 256) (by omega) (by have := hl.out; omega)).mono ?_); rintro e w2 ⟨rfl, HO2⟩)
      go_roundg k1
      case measure => omega
      case rel =>
        refine ⟨j + 1, sh - 8, ?_, ⟨by have := HS.out; omega⟩, ⟨by have := HK.out; omega⟩, HO2⟩
        have h1 : wrap64 (sh - 8) = sh - 8 := by unfold wrap64; have := HS.out; have := HK.out; omega
        first | rfl | rw [h1]
set_option maxHeartbeats 4000000 in
set_option maxRecDepth 100000 in
theorem pad_no (n : Int) (w : World) (h : n < 0 ∨ 1099511627776 < n) : Calls Try.prog 15 #[.int .i64 n] w fun e w' => e = .returned (.string ⟨#[]⟩) ∧ Below w.heap.size w w' := by
  have HB := Below.refl w.heap.size w
  by_cases h0 : n < 0
  · have d0 : decide (n < 0) = true := decide_eq_true h0
    clear h0 h
    go_enter Try.func15, Try.ntmps15
    go_wp2
    go_ret
    exact ⟨rfl, HB⟩
  · have d0 : decide (n < 0) = false := decide_eq_false h0
    have d1 : decide (1099511627776 < n) = true := decide_eq_true (by omega)
    clear h0 h
    go_enter Try.func15, Try.ntmps15
    go_wp2
    go_ret
    exact ⟨rfl, HB⟩
theorem digest_Pad.calls (a0 : Int) (r : ByteArray) (w : World) (h : digest_Pad.f a0 = some r) :
    Calls Try.prog 15 #[.int .i64 a0] w fun e w' => e = .returned (.string r) ∧ Below w.heap.size w w' := by
  unfold digest_Pad.f at h
  by_cases c : a0 < 0 ∨ 1099511627776 < a0
  · rw [if_pos c] at h
    obtain rfl := Option.some.inj h
    exact pad_no a0 w c
  · rw [if_neg c] at h
    obtain rfl := Option.some.inj h
    exact pad_yes a0 w (by omega) (by omega)
end Go.Proofs.Ytkejacgedipoeaa.P
