/- strings.Split at a sign of one byte, walked by hand. -/
import Derived.Test.YthoiepkejhhcoaaDoorZVQGPieces
import Derived.Test.YthoiepkejhhcoaaDoorZVQGShelf
import Derived.Deep.LoopGhost
namespace Go.Proofs.YthoiepkejhhcoaaDoor.P
open Go.RowKit Go.Proofs.YthoiepkejhhcoaaDoorW.PrintWords Go.Proofs.YthoiepkejhhcoaaDoorW.PrintLast Go.Proofs.YthoiepkejhhcoaaDoorW.PrintMore
attribute [local go_sem] max2_int min2_int max_two min_two max_three min_three max_four min_four
set_option linter.unusedVariables false
set_option linter.unusedSimpArgs false
theorem R_some {w : World} {base : Nat} {ok : Nat → Prop} {v : Value} {xs : List ByteArray} (h : Kd.string.R 9 w base ok v xs) (hn : 0 < xs.length) : ∃ g cap, v = .slice (some ⟨g, 0, none⟩) xs.length cap ∧ base ≤ g ∧ xs.length ≤ cap := by
  obtain ⟨hok, inner, ⟨hl, h | ⟨g, cap, cur, e1, hg, _, hc, _⟩⟩, _⟩ := h
  · omega
  · exact ⟨g, cap, e1, hg, hc⟩
theorem set_here (done : List ByteArray) (k i : Nat) (hl : done.length = i) (p e : ByteArray) : (done ++ List.replicate (k + 1) e).set i p = (done ++ [p]) ++ List.replicate k e := by
  rw [List.set_append_right _ _ (by omega), hl, Nat.sub_self, List.replicate_succ, List.set_cons_zero, List.append_assoc]; rfl
set_option maxHeartbeats 8000000 in
set_option maxRecDepth 100000 in
theorem genSplit_walk (c : UInt8) (s : ByteArray) (w : World) (hs : s.size ≤ 1000000) :
    Calls Tryd.prog 45 #[.string s, .string ⟨#[c]⟩, .int .i64 0, .int .i64 (-1)] w fun e w' => ∃ v0, e = .returned v0 ∧ Kd.R Kd.string 9 w' w.heap.size (fun _ => True) v0 (spl c s) ∧ Below w.heap.size w w' := by
  have HS := Aside0.mk hs
  have hc := cnt_le c s
  have hmin : min ((cnt c s : Int) + 1) ((s.size : Int) + 1) = (cnt c s : Int) + 1 := by omega
  have hw1 : IntKind.i64.wrap ((cnt c s : Int) + 1) = (cnt c s : Int) + 1 := by rw [IntKind.wrap_i64]; omega
  have hw2 : IntKind.i64.wrap ((s.size : Int) + 1) = (s.size : Int) + 1 := by rw [IntKind.wrap_i64]; omega
  have hw3 : IntKind.i64.wrap ((cnt c s : Int) + 1 - 1) = (cnt c s : Int) := by rw [IntKind.wrap_i64]; omega
  go_enter Tryd.func45, Tryd.ntmps45
  go_upto_region 10 with (first
    | (go_at_call 61; refine (YthoiepkejhhcoaaDoorS.strings_Count_one s c _).mono ?_; rintro e w' ⟨rfl, hww⟩; subst w'; rw [show Lib.countByte s.data.toList c = cnt c s from rfl])
    | ((with_reducible refine gate_dst (N := 31) rfl ?_); refine Kd.R_make Kd.string (w0 := w) w.heap.size 9 rfl rfl 44 (.tmp 30) (.tmp 30) rfl ((cnt c s : Int) + 1) rfl rfl Tryd.underlying44 (.string ⟨#[]⟩) 16 info9 rfl (by decide) (by decide) (⟨#[]⟩ : ByteArray) (okp := fun _ => False) (ok := fun _ => True) ?hz (fun _ h => h.elim) trivial (by omega) ?hl (Below.refl _ _) (Nat.le_refl _) ?_; (case hz => exact rfl); (case hl => have := HS.out; omega); intro v1 w1 ho hb hg hat; have HO1 := Aside0.mk ho; have HB1 := Aside0.mk hb; clear ho hb hg hat))
  obtain ⟨g, cap, e1, hgb, hcap⟩ := R_some HO1.out (by rw [List.length_replicate]; omega)
  rw [List.length_replicate, show ((cnt c s : Int) + 1).toNat = cnt c s + 1 by omega] at e1 hcap
  subst e1
  have HG := Aside0.mk hgb
  have HCAP := Aside0.mk hcap
  have HC := Aside0.mk hc
  replace HO1 : Aside0 (Kd.string.R 9 w1 w.heap.size (fun _ => True) (.slice (some ⟨g, 0, none⟩) (cnt c s + 1) cap) (List.replicate (cnt c s + 1) (⟨#[]⟩ : ByteArray))) := ⟨HO1.out⟩
  clear hgb hcap hmin hw1 hw2 hw3 hc hs
  go_wp2
  go_loopg [0, 10] (cnt c s) (fun kq v0 v10 w' => ∃ (i : Nat) (x : ByteArray) (done : List ByteArray), v0 = .string x ∧ v10 = .int .i64 (i : Int) ∧ Aside0 (kq + i = cnt c s) ∧ Aside0 (done.length = i ∧ done ++ pieces c kq x = pieces c (cnt c s) s ∧ cnt c x = kq ∧ x.size ≤ s.size) ∧ Aside0 (Kd.string.R 9 w' w.heap.size (fun _ => True) (.slice (some ⟨g, 0, none⟩) (cnt c s + 1) cap) (done ++ List.replicate (kq + 1) (⟨#[]⟩ : ByteArray))) ∧ Aside0 (Below w.heap.size w w'))
  case atStart => exact ⟨0, s, [], rfl, rfl, ⟨by omega⟩, ⟨rfl, rfl, rfl, Nat.le_refl _⟩, HO1, HB1⟩
  case round =>
    clear HO1 HB1
    obtain ⟨i, x, done, rfl, rfl, HK, HX, HO, HB⟩ := hrel
    have hi0 : (0 : Int) ≤ (i : Int) := by omega
    have hi1 : (i : Int) < ((cnt c s + 1 : Nat) : Int) := by have := HK.out; omega
    have hi2 : (i : Int) < (cnt c s : Int) + 1 := by have := HK.out; omega
    have hcel := Kd.R_celln (⟨#[]⟩ : ByteArray) HO.out (i : Int) (by omega) hi1
    rw [Int.toNat_natCast] at hcel
    have hcell := hcel.1
    have hfro := hcel.2
    clear hcel
    have hwi : IntKind.i64.wrap ((i : Int) + 1) = (i : Int) + 1 := by rw [IntKind.wrap_i64]; have := HC.out; have := HS.out; omega
    cases gk with
    | zero =>
      have d0 : decide ((i : Int) < (cnt c s : Int)) = false := decide_eq_false (by have := HK.out; omega)
      have d1 : decide (i < cnt c s) = false := decide_eq_false (by have := HK.out; omega)
      have b1 : (i : Int) + 1 ≤ (cap : Int) := by have := HK.out; have := HCAP.out; omega
      have b2 : i + 1 ≤ cap := by omega
      have b3 : (0 : Int) ≤ (i : Int) + 1 := by omega
      go_wp2
      go_ret
      have hR := Kd.R_putn HO.out (i : Int) x
      rw [Int.toNat_natCast, set_here done 0 i HX.out.1] at hR
      have hp : (done ++ [x]) ++ List.replicate 0 (⟨#[]⟩ : ByteArray) = spl c s := by rw [spl, ← HX.out.2.1]; simp [pieces]
      rw [hp] at hR
      have hii : i = cnt c s := by have := HK.out; omega
      refine ⟨_, rfl, ?_, HB.out.setCell HG.out _⟩
      rw [← hii] at hR ⊢
      exact hR
    | succ k1 =>
      have d0 : decide ((i : Int) < (cnt c s : Int)) = true := decide_eq_true (by have := HK.out; omega)
      have d1 : decide (i < cnt c s) = true := decide_eq_true (by have := HK.out; omega)
      have hx := cnt_pos (c := c) (s := x) (by have := HX.out.2.2.1; omega)
      obtain ⟨m, hm⟩ : ∃ m, ix c x = m := ⟨_, rfl⟩
      rw [hm] at hx
      have hxx : x.size ≤ s.size := HX.out.2.2.2
      have HI := Aside0.mk hx.1
      have hmx := hx.2.1
      have hcx := Aside0.mk hx.2.2
      have HM := Aside0.mk hm
      have m0 : decide ((m : Int) < 0) = false := decide_eq_false (by omega)
      have m1 : (m : Int) ≤ (x.size : Int) := by omega
      have m2 : IntKind.i64.wrap (m : Int) = (m : Int) := by rw [IntKind.wrap_i64]; have := HS.out; omega
      have m3 : IntKind.i64.wrap ((m : Int) + 1) = (m : Int) + 1 := by rw [IntKind.wrap_i64]; have := HS.out; omega
      have m4 : (m : Int) + 1 ≤ (x.size : Int) := by omega
      have m5 : (0 : Int) ≤ (m : Int) + 1 := by omega
      have m6 : (0 : Int) ≤ (m : Int) := by omega
      clear hx hm hxx
      go_wp2_with (first
        | (go_at_call 62; refine (YthoiepkejhhcoaaDoorS.strings_Index_one x c _).mono ?_; rintro e w' ⟨rfl, hww⟩; subst w'; rw [HI.out]))
      go_roundg k1
      case measure => omega
      case rel =>
        have hR := Kd.R_putn HO.out (i : Int) (x.extract 0 m)
        rw [Int.toNat_natCast, set_here done (k1 + 1) i HX.out.1] at hR
        refine ⟨i + 1, x.extract (m + 1) x.size, done ++ [x.extract 0 m], rfl, by simp, ⟨by have := HK.out; omega⟩, ⟨?_, ?_, ?_, ?_⟩, ⟨hR⟩, ⟨HB.out.setCell HG.out _⟩⟩
        · rw [List.length_append, HX.out.1]; rfl
        · have h2 := HX.out.2.1
          rw [pieces, HM.out] at h2
          rw [← h2, List.append_assoc]; rfl
        · have h3 := HX.out.2.2.1
          have h4 := hcx.out
          omega
        · rw [ByteArray.size_extract]; have := HX.out.2.2.2; omega
set_option maxHeartbeats 8000000 in
set_option maxRecDepth 100000 in
theorem split_any (c : UInt8) (s : ByteArray) (hs : s.size ≤ 1000000) (w : World) :
    Calls Tryd.prog 25 #[.string s, .string ⟨#[c]⟩] w fun e w' => ∃ v0, e = .returned v0 ∧ Kd.R Kd.string 9 w' w.heap.size (fun _ => True) v0 (spl c s) ∧ Below w.heap.size w w' := by
  have HC := Aside0.mk hs
  clear hs
  go_enter Tryd.func25, Tryd.ntmps25
  go_wp2_with (first
    | (go_at_call 45; refine (genSplit_walk c s _ HC.out).mono ?_; rintro e w' ⟨v0, rfl, hr, hb⟩; have HR := Aside0.mk hr; have HB := Aside0.mk hb; clear hr hb))
  go_ret
  exact ⟨_, rfl, HR.out, HB.out⟩
end Go.Proofs.YthoiepkejhhcoaaDoor.P
