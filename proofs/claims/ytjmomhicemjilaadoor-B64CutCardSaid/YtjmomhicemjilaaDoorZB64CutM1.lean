/- Printed functions, merged. -/
import Derived.Test.YtjmomhicemjilaaDoorZB64CutM0
import Derived.Test.YtjmomhicemjilaaDoorZB64CutBDecode
import Derived.Test.YtjmomhicemjilaaDoorZB64CutBEncode
namespace Go.Proofs.YtjmomhicemjilaaDoor.P
open Go.RowKit Go.Proofs.YtjmomhicemjilaaDoorW.PrintWords Go.Proofs.YtjmomhicemjilaaDoorW.PrintLast Go.Proofs.YtjmomhicemjilaaDoorW.PrintMore
attribute [local go_sem] max2_int min2_int max_two min_two max_three min_three max_four min_four   -- for this text's walks alone
set_option linter.unusedVariables false
set_option linter.unusedSimpArgs false
def armadalaw13_live.f  : Option (Bool) := (b64_Decode.f (⟨#[90, 109, 57, 118, 89, 103, 61, 61]⟩ : ByteArray)).bind fun bt103 => ((b64_Decode.f (⟨#[90, 109, 57, 118, 89, 104, 61, 61]⟩ : ByteArray)).bind fun bt105 => ((b64_Encode.f (⟨#[]⟩ : ByteArray)).bind fun t107 => (if t107.toList = ([] : List UInt8) then ((b64_Encode.f (⟨#[102]⟩ : ByteArray)).bind fun t108 => (if t108.toList = ([90, 103, 61, 61] : List UInt8) then ((b64_Encode.f (⟨#[102, 111]⟩ : ByteArray)).bind fun t109 => (if t109.toList = ([90, 109, 56, 61] : List UInt8) then ((b64_Encode.f (⟨#[102, 111, 111, 98, 97, 114]⟩ : ByteArray)).bind fun t110 => (if t110.toList = ([90, 109, 57, 118, 89, 109, 70, 121] : List UInt8) then ((b64_Encode.f (⟨#[251, 255]⟩ : ByteArray)).bind fun t111 => (if t111.toList = ([43, 47, 56, 61] : List UInt8) then (if bt103.1.toList = ([102, 111, 111, 98] : List UInt8) then (if bt103.2 = true then (if bt105.2 = true then (some false) else ((b64_Size.f 4).bind fun t112 => (if t112 = 8 then ((b64_Size.f (-1)).bind fun t113 => (some (t113 == (-1)))) else (some false)))) else (some false)) else (some false)) else (some false))) else (some false))) else (some false))) else (some false))) else (some false))))
set_option maxHeartbeats 8000000 in
set_option maxRecDepth 100000 in
theorem armadalaw13_live.calls  (r : Bool) (w : World) (h : armadalaw13_live.f  = some r) (hT_ : r = true := by rfl) :
    Calls Tryd.prog 7 #[] w fun e w' => e = .returned (.bool r) ∧ Below w.heap.size w w' := by
  subst hT_
  have HB := Aside0.mk (Below.refl w.heap.size w)
  have H : ((b64_Decode.f (⟨#[90, 109, 57, 118, 89, 103, 61, 61]⟩ : ByteArray)).bind fun bt103 => ((b64_Decode.f (⟨#[90, 109, 57, 118, 89, 104, 61, 61]⟩ : ByteArray)).bind fun bt105 => ((b64_Encode.f (⟨#[]⟩ : ByteArray)).bind fun t107 => (if t107.toList = ([] : List UInt8) then ((b64_Encode.f (⟨#[102]⟩ : ByteArray)).bind fun t108 => (if t108.toList = ([90, 103, 61, 61] : List UInt8) then ((b64_Encode.f (⟨#[102, 111]⟩ : ByteArray)).bind fun t109 => (if t109.toList = ([90, 109, 56, 61] : List UInt8) then ((b64_Encode.f (⟨#[102, 111, 111, 98, 97, 114]⟩ : ByteArray)).bind fun t110 => (if t110.toList = ([90, 109, 57, 118, 89, 109, 70, 121] : List UInt8) then ((b64_Encode.f (⟨#[251, 255]⟩ : ByteArray)).bind fun t111 => (if t111.toList = ([43, 47, 56, 61] : List UInt8) then (if bt103.1.toList = ([102, 111, 111, 98] : List UInt8) then (if bt103.2 = true then (if bt105.2 = true then (some false) else ((b64_Size.f 4).bind fun t112 => (if t112 = 8 then ((b64_Size.f (-1)).bind fun t113 => (some (t113 == (-1)))) else (some false)))) else (some false)) else (some false)) else (some false))) else (some false))) else (some false))) else (some false))) else (some false))))) = some true := h
  clear h
  replace H := Option.bind_eq_some_iff.mp H
  obtain ⟨⟨t103, t104⟩, A10, H⟩ := H
  replace H : ((b64_Decode.f (⟨#[90, 109, 57, 118, 89, 104, 61, 61]⟩ : ByteArray)).bind fun bt105 => ((b64_Encode.f (⟨#[]⟩ : ByteArray)).bind fun t107 => (if t107.toList = ([] : List UInt8) then ((b64_Encode.f (⟨#[102]⟩ : ByteArray)).bind fun t108 => (if t108.toList = ([90, 103, 61, 61] : List UInt8) then ((b64_Encode.f (⟨#[102, 111]⟩ : ByteArray)).bind fun t109 => (if t109.toList = ([90, 109, 56, 61] : List UInt8) then ((b64_Encode.f (⟨#[102, 111, 111, 98, 97, 114]⟩ : ByteArray)).bind fun t110 => (if t110.toList = ([90, 109, 57, 118, 89, 109, 70, 121] : List UInt8) then ((b64_Encode.f (⟨#[251, 255]⟩ : ByteArray)).bind fun t111 => (if t111.toList = ([43, 47, 56, 61] : List UInt8) then (if t103.toList = ([102, 111, 111, 98] : List UInt8) then (if t104 = true then (if bt105.2 = true then (some false) else ((b64_Size.f 4).bind fun t112 => (if t112 = 8 then ((b64_Size.f (-1)).bind fun t113 => (some (t113 == (-1)))) else (some false)))) else (some false)) else (some false)) else (some false))) else (some false))) else (some false))) else (some false))) else (some false)))) = some true := H
  have A1 := Aside0.mk A10
  clear A10
  replace H := Option.bind_eq_some_iff.mp H
  obtain ⟨⟨t105, t106⟩, A20, H⟩ := H
  replace H : ((b64_Encode.f (⟨#[]⟩ : ByteArray)).bind fun t107 => (if t107.toList = ([] : List UInt8) then ((b64_Encode.f (⟨#[102]⟩ : ByteArray)).bind fun t108 => (if t108.toList = ([90, 103, 61, 61] : List UInt8) then ((b64_Encode.f (⟨#[102, 111]⟩ : ByteArray)).bind fun t109 => (if t109.toList = ([90, 109, 56, 61] : List UInt8) then ((b64_Encode.f (⟨#[102, 111, 111, 98, 97, 114]⟩ : ByteArray)).bind fun t110 => (if t110.toList = ([90, 109, 57, 118, 89, 109, 70, 121] : List UInt8) then ((b64_Encode.f (⟨#[251, 255]⟩ : ByteArray)).bind fun t111 => (if t111.toList = ([43, 47, 56, 61] : List UInt8) then (if t103.toList = ([102, 111, 111, 98] : List UInt8) then (if t104 = true then (if t106 = true then (some false) else ((b64_Size.f 4).bind fun t112 => (if t112 = 8 then ((b64_Size.f (-1)).bind fun t113 => (some (t113 == (-1)))) else (some false)))) else (some false)) else (some false)) else (some false))) else (some false))) else (some false))) else (some false))) else (some false))) = some true := H
  have A2 := Aside0.mk A20
  clear A20
  replace H := Option.bind_eq_some_iff.mp H
  obtain ⟨t107, A30, H⟩ := H
  replace H : (if t107.toList = ([] : List UInt8) then ((b64_Encode.f (⟨#[102]⟩ : ByteArray)).bind fun t108 => (if t108.toList = ([90, 103, 61, 61] : List UInt8) then ((b64_Encode.f (⟨#[102, 111]⟩ : ByteArray)).bind fun t109 => (if t109.toList = ([90, 109, 56, 61] : List UInt8) then ((b64_Encode.f (⟨#[102, 111, 111, 98, 97, 114]⟩ : ByteArray)).bind fun t110 => (if t110.toList = ([90, 109, 57, 118, 89, 109, 70, 121] : List UInt8) then ((b64_Encode.f (⟨#[251, 255]⟩ : ByteArray)).bind fun t111 => (if t111.toList = ([43, 47, 56, 61] : List UInt8) then (if t103.toList = ([102, 111, 111, 98] : List UInt8) then (if t104 = true then (if t106 = true then (some false) else ((b64_Size.f 4).bind fun t112 => (if t112 = 8 then ((b64_Size.f (-1)).bind fun t113 => (some (t113 == (-1)))) else (some false)))) else (some false)) else (some false)) else (some false))) else (some false))) else (some false))) else (some false))) else (some false)) = some true := H
  have A3 := Aside0.mk A30
  clear A30
  by_cases c4 : t107.toList = ([] : List UInt8)
  · rw [if_pos c4] at H
    have c4b0 : (t107.toList == ([] : List UInt8)) = true := beq_iff_eq.mpr c4
    have c4b1 : (t107.toList != ([] : List UInt8)) = false := bne_eq_false_iff_eq.mpr c4
    clear c4
    replace H := Option.bind_eq_some_iff.mp H
    obtain ⟨t108, A50, H⟩ := H
    replace H : (if t108.toList = ([90, 103, 61, 61] : List UInt8) then ((b64_Encode.f (⟨#[102, 111]⟩ : ByteArray)).bind fun t109 => (if t109.toList = ([90, 109, 56, 61] : List UInt8) then ((b64_Encode.f (⟨#[102, 111, 111, 98, 97, 114]⟩ : ByteArray)).bind fun t110 => (if t110.toList = ([90, 109, 57, 118, 89, 109, 70, 121] : List UInt8) then ((b64_Encode.f (⟨#[251, 255]⟩ : ByteArray)).bind fun t111 => (if t111.toList = ([43, 47, 56, 61] : List UInt8) then (if t103.toList = ([102, 111, 111, 98] : List UInt8) then (if t104 = true then (if t106 = true then (some false) else ((b64_Size.f 4).bind fun t112 => (if t112 = 8 then ((b64_Size.f (-1)).bind fun t113 => (some (t113 == (-1)))) else (some false)))) else (some false)) else (some false)) else (some false))) else (some false))) else (some false))) else (some false)) = some true := H
    have A5 := Aside0.mk A50
    clear A50
    by_cases c6 : t108.toList = ([90, 103, 61, 61] : List UInt8)
    · rw [if_pos c6] at H
      have c6b0 : (t108.toList == ([90, 103, 61, 61] : List UInt8)) = true := beq_iff_eq.mpr c6
      have c6b1 : (t108.toList != ([90, 103, 61, 61] : List UInt8)) = false := bne_eq_false_iff_eq.mpr c6
      clear c6
      replace H := Option.bind_eq_some_iff.mp H
      obtain ⟨t109, A70, H⟩ := H
      replace H : (if t109.toList = ([90, 109, 56, 61] : List UInt8) then ((b64_Encode.f (⟨#[102, 111, 111, 98, 97, 114]⟩ : ByteArray)).bind fun t110 => (if t110.toList = ([90, 109, 57, 118, 89, 109, 70, 121] : List UInt8) then ((b64_Encode.f (⟨#[251, 255]⟩ : ByteArray)).bind fun t111 => (if t111.toList = ([43, 47, 56, 61] : List UInt8) then (if t103.toList = ([102, 111, 111, 98] : List UInt8) then (if t104 = true then (if t106 = true then (some false) else ((b64_Size.f 4).bind fun t112 => (if t112 = 8 then ((b64_Size.f (-1)).bind fun t113 => (some (t113 == (-1)))) else (some false)))) else (some false)) else (some false)) else (some false))) else (some false))) else (some false)) = some true := H
      have A7 := Aside0.mk A70
      clear A70
      by_cases c8 : t109.toList = ([90, 109, 56, 61] : List UInt8)
      · rw [if_pos c8] at H
        have c8b0 : (t109.toList == ([90, 109, 56, 61] : List UInt8)) = true := beq_iff_eq.mpr c8
        have c8b1 : (t109.toList != ([90, 109, 56, 61] : List UInt8)) = false := bne_eq_false_iff_eq.mpr c8
        clear c8
        replace H := Option.bind_eq_some_iff.mp H
        obtain ⟨t110, A90, H⟩ := H
        replace H : (if t110.toList = ([90, 109, 57, 118, 89, 109, 70, 121] : List UInt8) then ((b64_Encode.f (⟨#[251, 255]⟩ : ByteArray)).bind fun t111 => (if t111.toList = ([43, 47, 56, 61] : List UInt8) then (if t103.toList = ([102, 111, 111, 98] : List UInt8) then (if t104 = true then (if t106 = true then (some false) else ((b64_Size.f 4).bind fun t112 => (if t112 = 8 then ((b64_Size.f (-1)).bind fun t113 => (some (t113 == (-1)))) else (some false)))) else (some false)) else (some false)) else (some false))) else (some false)) = some true := H
        have A9 := Aside0.mk A90
        clear A90
        by_cases c10 : t110.toList = ([90, 109, 57, 118, 89, 109, 70, 121] : List UInt8)
        · rw [if_pos c10] at H
          have c10b0 : (t110.toList == ([90, 109, 57, 118, 89, 109, 70, 121] : List UInt8)) = true := beq_iff_eq.mpr c10
          have c10b1 : (t110.toList != ([90, 109, 57, 118, 89, 109, 70, 121] : List UInt8)) = false := bne_eq_false_iff_eq.mpr c10
          clear c10
          replace H := Option.bind_eq_some_iff.mp H
          obtain ⟨t111, A110, H⟩ := H
          replace H : (if t111.toList = ([43, 47, 56, 61] : List UInt8) then (if t103.toList = ([102, 111, 111, 98] : List UInt8) then (if t104 = true then (if t106 = true then (some false) else ((b64_Size.f 4).bind fun t112 => (if t112 = 8 then ((b64_Size.f (-1)).bind fun t113 => (some (t113 == (-1)))) else (some false)))) else (some false)) else (some false)) else (some false)) = some true := H
          have A11 := Aside0.mk A110
          clear A110
          by_cases c12 : t111.toList = ([43, 47, 56, 61] : List UInt8)
          · rw [if_pos c12] at H
            have c12b0 : (t111.toList == ([43, 47, 56, 61] : List UInt8)) = true := beq_iff_eq.mpr c12
            have c12b1 : (t111.toList != ([43, 47, 56, 61] : List UInt8)) = false := bne_eq_false_iff_eq.mpr c12
            clear c12
            by_cases c13 : t103.toList = ([102, 111, 111, 98] : List UInt8)
            · rw [if_pos c13] at H
              have c13b0 : (t103.toList == ([102, 111, 111, 98] : List UInt8)) = true := beq_iff_eq.mpr c13
              have c13b1 : (t103.toList != ([102, 111, 111, 98] : List UInt8)) = false := bne_eq_false_iff_eq.mpr c13
              clear c13
              by_cases c14 : t104 = true
              · subst c14
                have H1 : (if t106 = true then (some false) else ((b64_Size.f 4).bind fun t112 => (if t112 = 8 then ((b64_Size.f (-1)).bind fun t113 => (some (t113 == (-1)))) else (some false)))) = some true := by rw [if_pos rfl] at H; exact H
                clear H
                have H := H1
                clear H1
                by_cases c15 : t106 = true
                · subst c15
                  have H1 : (some false) = some true := by rw [if_pos rfl] at H; exact H
                  clear H
                  have H := H1
                  clear H1
                  exact absurd H (by simp)
                · replace c15 := Bool.eq_false_iff.mpr c15
                  subst c15
                  have H1 : ((b64_Size.f 4).bind fun t112 => (if t112 = 8 then ((b64_Size.f (-1)).bind fun t113 => (some (t113 == (-1)))) else (some false))) = some true := by rw [if_neg (show ¬ (false = true) by decide)] at H; exact H
                  clear H
                  have H := H1
                  clear H1
                  replace H := Option.bind_eq_some_iff.mp H
                  obtain ⟨t112, A160, H⟩ := H
                  replace H : (if t112 = 8 then ((b64_Size.f (-1)).bind fun t113 => (some (t113 == (-1)))) else (some false)) = some true := H
                  have A16 := Aside0.mk A160
                  clear A160
                  by_cases c17 : t112 = 8
                  · rw [if_pos c17] at H
                    have c17b0 : (t112 == 8) = true := beq_iff_eq.mpr c17
                    have c17b1 : (t112 != 8) = false := bne_eq_false_iff_eq.mpr c17
                    clear c17
                    replace H := Option.bind_eq_some_iff.mp H
                    obtain ⟨t113, A180, H⟩ := H
                    replace H : (some (t113 == (-1))) = some true := H
                    have A18 := Aside0.mk A180
                    clear A180
                    have hret_ := Option.some.inj H
                    clear H
                    go_enter Tryd.func7, Tryd.ntmps7
                    go_wp2_with (first | ((with_reducible refine gate_callee (f := 8) rfl ?_); refine goesL_ (some 6) rfl rfl Tryd.func8 (by kernel_rfl) rfl #[.string (⟨#[90, 109, 57, 118, 89, 103, 61, 61]⟩ : ByteArray)] rfl (by (try simp only [List.map_toArray, List.map_cons, List.map_nil]); first | done | rfl | (simp only [List.length_drop, List.length_take]; rfl)) ?_; (with_reducible refine (b64_Decode.calls (⟨#[90, 109, 57, 118, 89, 103, 61, 61]⟩ : ByteArray) t103 true _ A1.out).mono ?_); rintro e w19 ⟨rfl, hb⟩; refine ⟨_, rfl, ?_⟩; have n0_ := Aside0.mk (below_step (by repeat (first | (with_reducible first | exact HB.out | apply below_alloc | apply pw_below_drewN | apply below_drew1) | exact HB.out)) hb); clear HB; have HB := n0_; clear n0_; (try clear hb); (try clear hb2); (try clear hk); (try clear hi)) | ((with_reducible refine gate_callee (f := 8) rfl ?_); refine goesL_ (some 10) rfl rfl Tryd.func8 (by kernel_rfl) rfl #[.string (⟨#[90, 109, 57, 118, 89, 104, 61, 61]⟩ : ByteArray)] rfl (by (try simp only [List.map_toArray, List.map_cons, List.map_nil]); first | done | rfl | (simp only [List.length_drop, List.length_take]; rfl)) ?_; (with_reducible refine (b64_Decode.calls (⟨#[90, 109, 57, 118, 89, 104, 61, 61]⟩ : ByteArray) t105 false _ A2.out).mono ?_); rintro e w20 ⟨rfl, hb⟩; refine ⟨_, rfl, ?_⟩; have n0_ := Aside0.mk (below_step (by repeat (first | (with_reducible first | exact HB.out | apply below_alloc | apply pw_below_drewN | apply below_drew1) | exact HB.out)) hb); clear HB; have HB := n0_; clear n0_; (try clear hb); (try clear hb2); (try clear hk); (try clear hi)) | ((with_reducible refine gate_callee (f := 10) rfl ?_); refine goesL_ (some 13) rfl rfl Tryd.func10 (by kernel_rfl) rfl #[.string (⟨#[]⟩ : ByteArray)] rfl (by (try simp only [List.map_toArray, List.map_cons, List.map_nil]); first | done | rfl | (simp only [List.length_drop, List.length_take]; rfl)) ?_; (with_reducible refine (b64_Encode.calls (⟨#[]⟩ : ByteArray) t107 _ A3.out).mono ?_); rintro e w21 ⟨rfl, hb⟩; refine ⟨_, rfl, ?_⟩; have n0_ := Aside0.mk (below_step (by repeat (first | (with_reducible first | exact HB.out | apply below_alloc | apply pw_below_drewN | apply below_drew1) | exact HB.out)) hb); clear HB; have HB := n0_; clear n0_; (try clear hb); (try clear hb2); (try clear hk); (try clear hi)) | (go_at_call 10; (with_reducible refine (b64_Encode.calls (⟨#[102]⟩ : ByteArray) t108 _ A5.out).mono ?_); rintro e w22 ⟨rfl, hb⟩; have n0_ := Aside0.mk (below_step (by repeat (first | (with_reducible first | exact HB.out | apply below_alloc | apply pw_below_drewN | apply below_drew1) | exact HB.out)) hb); clear HB; have HB := n0_; clear n0_; (try clear hb); (try clear hb2); (try clear hk); (try clear hi)) | (go_at_call 10; (with_reducible refine (b64_Encode.calls (⟨#[102, 111]⟩ : ByteArray) t109 _ A7.out).mono ?_); rintro e w23 ⟨rfl, hb⟩; have n0_ := Aside0.mk (below_step (by repeat (first | (with_reducible first | exact HB.out | apply below_alloc | apply pw_below_drewN | apply below_drew1) | exact HB.out)) hb); clear HB; have HB := n0_; clear n0_; (try clear hb); (try clear hb2); (try clear hk); (try clear hi)) | (go_at_call 10; (with_reducible refine (b64_Encode.calls (⟨#[102, 111, 111, 98, 97, 114]⟩ : ByteArray) t110 _ A9.out).mono ?_); rintro e w24 ⟨rfl, hb⟩; have n0_ := Aside0.mk (below_step (by repeat (first | (with_reducible first | exact HB.out | apply below_alloc | apply pw_below_drewN | apply below_drew1) | exact HB.out)) hb); clear HB; have HB := n0_; clear n0_; (try clear hb); (try clear hb2); (try clear hk); (try clear hi)) | (go_at_call 10; (with_reducible refine (b64_Encode.calls (⟨#[251, 255]⟩ : ByteArray) t111 _ A11.out).mono ?_); rintro e w25 ⟨rfl, hb⟩; have n0_ := Aside0.mk (below_step (by repeat (first | (with_reducible first | exact HB.out | apply below_alloc | apply pw_below_drewN | apply below_drew1) | exact HB.out)) hb); clear HB; have HB := n0_; clear n0_; (try clear hb); (try clear hb2); (try clear hk); (try clear hi)) | (go_at_call 12; (with_reducible refine (b64_Size.calls 4 t112 _ A16.out).mono ?_); rintro e w' ⟨rfl, ⟨nd, rfl⟩⟩) | (go_at_call 12; (with_reducible refine (b64_Size.calls (-1) t113 _ A18.out).mono ?_); rintro e w' ⟨rfl, ⟨nd, rfl⟩⟩))
                    go_ret
                    exact ⟨by first | rfl | (simp [errW_none, errW_some] <;> rfl) | (simp [*, errW_none, errW_some] <;> rfl), by repeat (first | (with_reducible first | exact HB.out | apply below_alloc | apply pw_below_drewN | apply below_drew1) | exact HB.out)⟩
                  · rw [if_neg c17] at H
                    have c17b0 : (t112 == 8) = false := beq_eq_false_iff_ne.mpr c17
                    have c17b1 : (t112 != 8) = true := bne_iff_ne.mpr c17
                    exact absurd H (by simp)
              · replace c14 := Bool.eq_false_iff.mpr c14
                subst c14
                have H1 : (some false) = some true := by rw [if_neg (show ¬ (false = true) by decide)] at H; exact H
                clear H
                have H := H1
                clear H1
                exact absurd H (by simp)
            · rw [if_neg c13] at H
              have c13b0 : (t103.toList == ([102, 111, 111, 98] : List UInt8)) = false := beq_eq_false_iff_ne.mpr c13
              have c13b1 : (t103.toList != ([102, 111, 111, 98] : List UInt8)) = true := bne_iff_ne.mpr c13
              exact absurd H (by simp)
          · rw [if_neg c12] at H
            have c12b0 : (t111.toList == ([43, 47, 56, 61] : List UInt8)) = false := beq_eq_false_iff_ne.mpr c12
            have c12b1 : (t111.toList != ([43, 47, 56, 61] : List UInt8)) = true := bne_iff_ne.mpr c12
            exact absurd H (by simp)
        · rw [if_neg c10] at H
          have c10b0 : (t110.toList == ([90, 109, 57, 118, 89, 109, 70, 121] : List UInt8)) = false := beq_eq_false_iff_ne.mpr c10
          have c10b1 : (t110.toList != ([90, 109, 57, 118, 89, 109, 70, 121] : List UInt8)) = true := bne_iff_ne.mpr c10
          exact absurd H (by simp)
      · rw [if_neg c8] at H
        have c8b0 : (t109.toList == ([90, 109, 56, 61] : List UInt8)) = false := beq_eq_false_iff_ne.mpr c8
        have c8b1 : (t109.toList != ([90, 109, 56, 61] : List UInt8)) = true := bne_iff_ne.mpr c8
        exact absurd H (by simp)
    · rw [if_neg c6] at H
      have c6b0 : (t108.toList == ([90, 103, 61, 61] : List UInt8)) = false := beq_eq_false_iff_ne.mpr c6
      have c6b1 : (t108.toList != ([90, 103, 61, 61] : List UInt8)) = true := bne_iff_ne.mpr c6
      exact absurd H (by simp)
  · rw [if_neg c4] at H
    have c4b0 : (t107.toList == ([] : List UInt8)) = false := beq_eq_false_iff_ne.mpr c4
    have c4b1 : (t107.toList != ([] : List UInt8)) = true := bne_iff_ne.mpr c4
    exact absurd H (by simp)
def armadalaw13_B64Cut.j0 : Nat → ByteArray → Int → Bool → Option (Bool)
  | 0, _, _, _ => none
  | k + 1, x0, x1, x23 => if x23 = true then ((armadalaw13_live.f).bind fun t158 => (some t158)) else ((b64_Encode.f x0).bind fun t159 => (if (wrap64 (4 * x1)) > (t159.size : Int) then (some false) else (if 0 ≤ (wrap64 (4 * x1)) then (if (wrap64 (4 * x1)) ≤ (t159.size : Int) then ((b64_Decode.f (t159.extract 0 ((wrap64 (4 * x1)) : Int).toNat)).bind fun bt160 => ((b64_Decode.f (t159.extract ((wrap64 (4 * x1)) : Int).toNat t159.size)).bind fun bt162 => (if bt160.2 = true then (if bt162.2 = true then (if bt160.1.size + bt162.1.size ≤ 9223372036854775807 then (if (bt160.1 ++ bt162.1).toList = x0.toList then (if (bt160.1.size : Int) = (wrap64 (3 * x1)) then ((armadalaw13_live.f).bind fun t164 => (some t164)) else (some false)) else (some false)) else (none)) else (some false)) else (some false)))) else (none)) else (none))))
def armadalaw13_B64Cut.f (k : Nat) (a0 : ByteArray) (a1 : Int) : Option (Bool) := if (a0.size : Int) > 2000 then (armadalaw13_B64Cut.j0 k a0 a1 true) else (if a1 < 0 then (armadalaw13_B64Cut.j0 k a0 a1 true) else (armadalaw13_B64Cut.j0 k a0 a1 (decide (a1 > (wrap64 ((a0.size : Int) / 3))))))
set_option maxHeartbeats 8000000 in
set_option maxRecDepth 100000 in
theorem armadalaw13_B64Cut.calls (k : Nat) (a0 : ByteArray) (a1 : Int) (r : Bool) (w : World) (h : armadalaw13_B64Cut.f k a0 a1 = some r) (hT_ : r = true := by rfl) :
    Calls Tryd.prog 6 #[.string a0, .int .i64 a1] w fun e w' => e = .returned (.bool r) ∧ Below w.heap.size w w' := by
  subst hT_
  have HB := Aside0.mk (Below.refl w.heap.size w)
  have H : (if (a0.size : Int) > 2000 then (armadalaw13_B64Cut.j0 k a0 a1 true) else (if a1 < 0 then (armadalaw13_B64Cut.j0 k a0 a1 true) else (armadalaw13_B64Cut.j0 k a0 a1 (decide (a1 > (wrap64 ((a0.size : Int) / 3))))))) = some true := h
  clear h
  have HC3 := Aside0.mk H
  clear H
  go_enter Tryd.func6, Tryd.ntmps6
  go_upto_region 1 with (fail)
  go_cut [23] (fun v23 wc => ∃ (kq : Nat) (x23_2 : Bool), v23 = .bool x23_2 ∧ Aside0 (armadalaw13_B64Cut.j0 kq a0 a1 x23_2 = some true) ∧ Aside0 (kq ≤ k) ∧ Aside0 (Below w.heap.size w wc))
  case first =>
    have H := HC3.out
    clear HC3
    by_cases c4 : (a0.size : Int) > 2000
    · rw [if_pos c4] at H
      have c4b0 : decide (2000 < (a0.size : Int)) = true := decide_eq_true c4
      have c4b1 : decide (2000 < a0.size) = true := decide_eq_true (by omega)
      clear c4
      (first | rw [c4b0] | (simp only [i64_w, i32_w]; rw [c4b0]) | skip)
      have H' := Aside0.mk H
      clear H
      go_wp2
      go_meet
      case rel => exact ⟨_, (true), (by first | rfl | (simp; done) | (simp [*]; done)), H', ⟨by first | omega | exact Nat.le_refl _⟩, ⟨by repeat (first | (with_reducible first | exact HB.out | apply below_alloc | apply pw_below_drewN | apply below_drew1) | exact HB.out)⟩⟩
    · rw [if_neg c4] at H
      have c4b0 : decide (2000 < (a0.size : Int)) = false := decide_eq_false c4
      have c4b1 : decide (2000 < a0.size) = false := decide_eq_false (by omega)
      clear c4
      (first | rw [c4b0] | (simp only [i64_w, i32_w]; rw [c4b0]) | skip)
      by_cases c5 : a1 < 0
      · rw [if_pos c5] at H
        have c5b0 : decide (a1 < 0) = true := decide_eq_true c5
        clear c5
        have H' := Aside0.mk H
        clear H
        go_wp2
        go_meet
        case rel => exact ⟨_, (true), (by first | rfl | (simp; done) | (simp [*]; done)), H', ⟨by first | omega | exact Nat.le_refl _⟩, ⟨by repeat (first | (with_reducible first | exact HB.out | apply below_alloc | apply pw_below_drewN | apply below_drew1) | exact HB.out)⟩⟩
      · rw [if_neg c5] at H
        have c5b0 : decide (a1 < 0) = false := decide_eq_false c5
        clear c5
        have H' := Aside0.mk H
        clear H
        go_wp2
        go_meet
        case rel => exact ⟨_, (decide (a1 > (wrap64 ((a0.size : Int) / 3)))), (by first | rfl | (simp; done) | (simp [*]; done)), H', ⟨by first | omega | exact Nat.le_refl _⟩, ⟨by repeat (first | (with_reducible first | exact HB.out | apply below_alloc | apply pw_below_drewN | apply below_drew1) | exact HB.out)⟩⟩
  case rest =>
    clear HC3
    try clear p2
    try clear c4
    try clear c4b0
    try clear c4b1
    try clear c5
    try clear c5b0
    obtain ⟨kq, x23_2, rfl, HA, HJ2, HB⟩ := hcut
    cases kq with
    | zero => exact absurd HA.out (by simp [armadalaw13_B64Cut.j0])
    | succ kj2 =>
      have H := HA.out
      clear HA
      simp only [armadalaw13_B64Cut.j0] at H
      by_cases c6 : x23_2 = true
      · subst c6
        have H1 : ((armadalaw13_live.f).bind fun t158 => (some t158)) = some true := by rw [if_pos rfl] at H; exact H
        clear H
        have H := H1
        clear H1
        replace H := Option.bind_eq_some_iff.mp H
        obtain ⟨t158, A70, H⟩ := H
        replace H : (some t158) = some true := H
        have A7 := Aside0.mk A70
        clear A70
        obtain rfl := Option.some.inj H
        go_wp2_with (first | ((with_reducible refine gate_callee (f := 7) rfl ?_); refine goesL_ (some 24) rfl rfl Tryd.func7 (by kernel_rfl) rfl #[] rfl (by (try simp only [List.map_toArray, List.map_cons, List.map_nil]); first | done | rfl | (simp only [List.length_drop, List.length_take]; rfl)) ?_; (with_reducible refine (armadalaw13_live.calls  true _ A7.out).mono ?_); rintro e w8 ⟨rfl, hb⟩; refine ⟨_, rfl, ?_⟩; have n0_ := Aside0.mk (below_step (by repeat (first | (with_reducible first | exact HB.out | apply below_alloc | apply pw_below_drewN | apply below_drew1) | exact HB.out)) hb); clear HB; have HB := n0_; clear n0_; (try clear hb); (try clear hb2); (try clear hk); (try clear hi)))
        go_ret
        exact ⟨by first | rfl | (simp [errW_none, errW_some] <;> rfl) | (simp [*, errW_none, errW_some] <;> rfl), by repeat (first | (with_reducible first | exact HB.out | apply below_alloc | apply pw_below_drewN | apply below_drew1) | exact HB.out)⟩
      · replace c6 := Bool.eq_false_iff.mpr c6
        subst c6
        have H1 : ((b64_Encode.f a0).bind fun t159 => (if (wrap64 (4 * a1)) > (t159.size : Int) then (some false) else (if 0 ≤ (wrap64 (4 * a1)) then (if (wrap64 (4 * a1)) ≤ (t159.size : Int) then ((b64_Decode.f (t159.extract 0 ((wrap64 (4 * a1)) : Int).toNat)).bind fun bt160 => ((b64_Decode.f (t159.extract ((wrap64 (4 * a1)) : Int).toNat t159.size)).bind fun bt162 => (if bt160.2 = true then (if bt162.2 = true then (if bt160.1.size + bt162.1.size ≤ 9223372036854775807 then (if (bt160.1 ++ bt162.1).toList = a0.toList then (if (bt160.1.size : Int) = (wrap64 (3 * a1)) then ((armadalaw13_live.f).bind fun t164 => (some t164)) else (some false)) else (some false)) else (none)) else (some false)) else (some false)))) else (none)) else (none)))) = some true := by rw [if_neg (show ¬ (false = true) by decide)] at H; exact H
        clear H
        have H := H1
        clear H1
        replace H := Option.bind_eq_some_iff.mp H
        obtain ⟨t159, A90, H⟩ := H
        replace H : (if (wrap64 (4 * a1)) > (t159.size : Int) then (some false) else (if 0 ≤ (wrap64 (4 * a1)) then (if (wrap64 (4 * a1)) ≤ (t159.size : Int) then ((b64_Decode.f (t159.extract 0 ((wrap64 (4 * a1)) : Int).toNat)).bind fun bt160 => ((b64_Decode.f (t159.extract ((wrap64 (4 * a1)) : Int).toNat t159.size)).bind fun bt162 => (if bt160.2 = true then (if bt162.2 = true then (if bt160.1.size + bt162.1.size ≤ 9223372036854775807 then (if (bt160.1 ++ bt162.1).toList = a0.toList then (if (bt160.1.size : Int) = (wrap64 (3 * a1)) then ((armadalaw13_live.f).bind fun t164 => (some t164)) else (some false)) else (some false)) else (none)) else (some false)) else (some false)))) else (none)) else (none))) = some true := H
        have A9 := Aside0.mk A90
        clear A90
        by_cases c10 : (wrap64 (4 * a1)) > (t159.size : Int)
        · rw [if_pos c10] at H
          have c10b0 : decide ((t159.size : Int) < (wrap64 (4 * a1))) = true := decide_eq_true c10
          clear c10
          exact absurd H (by simp)
        · rw [if_neg c10] at H
          have c10b0 : decide ((t159.size : Int) < (wrap64 (4 * a1))) = false := decide_eq_false c10
          clear c10
          obtain ⟨ji11, hji11⟩ : ∃ j_ : Int, (wrap64 (4 * a1)) = j_ := ⟨_, rfl⟩
          replace H : (if 0 ≤ (ji11) then (if (ji11) ≤ (t159.size : Int) then ((b64_Decode.f (t159.extract 0 ((ji11) : Int).toNat)).bind fun bt160 => ((b64_Decode.f (t159.extract ((ji11) : Int).toNat t159.size)).bind fun bt162 => (if bt160.2 = true then (if bt162.2 = true then (if bt160.1.size + bt162.1.size ≤ 9223372036854775807 then (if (bt160.1 ++ bt162.1).toList = a0.toList then (if (bt160.1.size : Int) = (wrap64 (3 * a1)) then ((armadalaw13_live.f).bind fun t164 => (some t164)) else (some false)) else (some false)) else (none)) else (some false)) else (some false)))) else (none)) else (none)) = some true := by first | (rw [hji11] at H; exact H) | (simp only [hji11] at H ⊢; exact H)
          (try rw [hji11] at c10b0)
          (try rw [hji11] at A9)
          have hji11w : (IntKind.i64.wrap (4 * a1)) = ji11 := (i64_w _).trans hji11
          by_cases c12 : 0 ≤ (ji11)
          · rw [if_pos c12] at H
            have c12b0 := eq_true c12
            have c12b1 : decide (0 ≤ (ji11)) = true := decide_eq_true c12
            clear c12
            by_cases c13 : (ji11) ≤ (t159.size : Int)
            · rw [if_pos c13] at H
              have c13b0 := eq_true c13
              have c13b1 : decide ((ji11) ≤ (t159.size : Int)) = true := decide_eq_true c13
              clear c13
              replace H := Option.bind_eq_some_iff.mp H
              obtain ⟨⟨t160, t161⟩, A140, H⟩ := H
              replace H : ((b64_Decode.f (t159.extract ((ji11) : Int).toNat t159.size)).bind fun bt162 => (if t161 = true then (if bt162.2 = true then (if t160.size + bt162.1.size ≤ 9223372036854775807 then (if (t160 ++ bt162.1).toList = a0.toList then (if (t160.size : Int) = (wrap64 (3 * a1)) then ((armadalaw13_live.f).bind fun t164 => (some t164)) else (some false)) else (some false)) else (none)) else (some false)) else (some false))) = some true := H
              have A14 := Aside0.mk A140
              clear A140
              have c15b0 := eq_true (of_decide_eq_true (by first | (with_reducible assumption) | assumption) : 0 ≤ (ji11))
              have c16b0 := eq_true (of_decide_eq_true (by first | (with_reducible assumption) | assumption) : (ji11) ≤ (t159.size : Int))
              replace H := Option.bind_eq_some_iff.mp H
              obtain ⟨⟨t162, t163⟩, A170, H⟩ := H
              replace H : (if t161 = true then (if t163 = true then (if t160.size + t162.size ≤ 9223372036854775807 then (if (t160 ++ t162).toList = a0.toList then (if (t160.size : Int) = (wrap64 (3 * a1)) then ((armadalaw13_live.f).bind fun t164 => (some t164)) else (some false)) else (some false)) else (none)) else (some false)) else (some false)) = some true := H
              have A17 := Aside0.mk A170
              clear A170
              by_cases c18 : t161 = true
              · subst c18
                have H1 : (if t163 = true then (if t160.size + t162.size ≤ 9223372036854775807 then (if (t160 ++ t162).toList = a0.toList then (if (t160.size : Int) = (wrap64 (3 * a1)) then ((armadalaw13_live.f).bind fun t164 => (some t164)) else (some false)) else (some false)) else (none)) else (some false)) = some true := by rw [if_pos rfl] at H; exact H
                clear H
                have H := H1
                clear H1
                by_cases c19 : t163 = true
                · subst c19
                  have H1 : (if t160.size + t162.size ≤ 9223372036854775807 then (if (t160 ++ t162).toList = a0.toList then (if (t160.size : Int) = (wrap64 (3 * a1)) then ((armadalaw13_live.f).bind fun t164 => (some t164)) else (some false)) else (some false)) else (none)) = some true := by rw [if_pos rfl] at H; exact H
                  clear H
                  have H := H1
                  clear H1
                  by_cases c20 : t160.size + t162.size ≤ 9223372036854775807
                  · rw [if_pos c20] at H
                    have c20b0 := eq_true c20
                    have c20b1 : decide (t160.size + t162.size ≤ 9223372036854775807) = true := decide_eq_true c20
                    try have c20b2 : (9223372036854775807 < t160.size + t162.size) = False := eq_false (Nat.not_lt.2 c20)
                    by_cases c21 : (t160 ++ t162).toList = a0.toList
                    · rw [if_pos c21] at H
                      have c21b0 : ((t160 ++ t162).toList == a0.toList) = true := beq_iff_eq.mpr c21
                      have c21b1 : ((t160 ++ t162).toList != a0.toList) = false := bne_eq_false_iff_eq.mpr c21
                      clear c21
                      by_cases c22 : (t160.size : Int) = (wrap64 (3 * a1))
                      · rw [if_pos c22] at H
                        have c22b0 : ((t160.size : Int) == (wrap64 (3 * a1))) = true := beq_iff_eq.mpr c22
                        have c22b1 : ((t160.size : Int) != (wrap64 (3 * a1))) = false := bne_eq_false_iff_eq.mpr c22
                        clear c22
                        replace H := Option.bind_eq_some_iff.mp H
                        obtain ⟨t164, A230, H⟩ := H
                        replace H : (some t164) = some true := H
                        have A23 := Aside0.mk A230
                        clear A230
                        obtain rfl := Option.some.inj H
                        go_wp2_with (first | ((with_reducible refine gate_callee (f := 10) rfl ?_); refine goesL_ (some 26) rfl rfl Tryd.func10 (by kernel_rfl) rfl #[.string a0] rfl (by (try simp only [List.map_toArray, List.map_cons, List.map_nil]); first | done | rfl | (simp only [List.length_drop, List.length_take]; rfl)) ?_; (with_reducible refine (b64_Encode.calls a0 t159 _ A9.out).mono ?_); rintro e w24 ⟨rfl, hb⟩; refine ⟨_, rfl, ?_⟩; have n0_ := Aside0.mk (below_step (by repeat (first | (with_reducible first | exact HB.out | apply below_alloc | apply pw_below_drewN | apply below_drew1) | exact HB.out)) hb); clear HB; have HB := n0_; clear n0_; (try clear hb); (try clear hb2); (try clear hk); (try clear hi)) | ((with_reducible refine gate_callee (f := 8) rfl ?_); refine goesL_ (some 37) rfl rfl Tryd.func8 (by kernel_rfl) rfl #[.string (t159.extract 0 ((ji11) : Int).toNat)] rfl (by (try simp only [List.map_toArray, List.map_cons, List.map_nil]); first | done | (simp only [hji11]; rfl) | rfl | (simp only [List.length_drop, List.length_take]; rfl)) ?_; (with_reducible refine (b64_Decode.calls (t159.extract 0 ((ji11) : Int).toNat) t160 true _ A14.out).mono ?_); rintro e w25 ⟨rfl, hb⟩; refine ⟨_, rfl, ?_⟩; have n0_ := Aside0.mk (below_step (by repeat (first | (with_reducible first | exact HB.out | apply below_alloc | apply pw_below_drewN | apply below_drew1) | exact HB.out)) hb); clear HB; have HB := n0_; clear n0_; (try clear hb); (try clear hb2); (try clear hk); (try clear hi)) | ((with_reducible refine gate_callee (f := 8) rfl ?_); refine goesL_ (some 45) rfl rfl Tryd.func8 (by kernel_rfl) rfl #[.string (t159.extract ((ji11) : Int).toNat t159.size)] rfl (by (try simp only [List.map_toArray, List.map_cons, List.map_nil]); first | done | (simp only [hji11]; rfl) | rfl | (simp only [List.length_drop, List.length_take]; rfl)) ?_; (with_reducible refine (b64_Decode.calls (t159.extract ((ji11) : Int).toNat t159.size) t162 true _ A17.out).mono ?_); rintro e w26 ⟨rfl, hb⟩; refine ⟨_, rfl, ?_⟩; have n0_ := Aside0.mk (below_step (by repeat (first | (with_reducible first | exact HB.out | apply below_alloc | apply pw_below_drewN | apply below_drew1) | exact HB.out)) hb); clear HB; have HB := n0_; clear n0_; (try clear hb); (try clear hb2); (try clear hk); (try clear hi)) | (go_at_call 7; (with_reducible refine (armadalaw13_live.calls  true _ A23.out).mono ?_); rintro e w27 ⟨rfl, hb⟩; have n0_ := Aside0.mk (below_step (by repeat (first | (with_reducible first | exact HB.out | apply below_alloc | apply pw_below_drewN | apply below_drew1) | exact HB.out)) hb); clear HB; have HB := n0_; clear n0_; (try clear hb); (try clear hb2); (try clear hk); (try clear hi)))
                        go_ret
                        exact ⟨by first | rfl | (simp [errW_none, errW_some] <;> rfl) | (simp only [← hji11]; first | rfl | (simp [errW_none, errW_some] <;> rfl)) | (simp [*, errW_none, errW_some] <;> rfl), by repeat (first | (with_reducible first | exact HB.out | apply below_alloc | apply pw_below_drewN | apply below_drew1) | exact HB.out)⟩
                      · rw [if_neg c22] at H
                        have c22b0 : ((t160.size : Int) == (wrap64 (3 * a1))) = false := beq_eq_false_iff_ne.mpr c22
                        have c22b1 : ((t160.size : Int) != (wrap64 (3 * a1))) = true := bne_iff_ne.mpr c22
                        exact absurd H (by simp)
                    · rw [if_neg c21] at H
                      have c21b0 : ((t160 ++ t162).toList == a0.toList) = false := beq_eq_false_iff_ne.mpr c21
                      have c21b1 : ((t160 ++ t162).toList != a0.toList) = true := bne_iff_ne.mpr c21
                      exact absurd H (by simp)
                  · rw [if_neg c20] at H
                    exact absurd H (by simp)
                · replace c19 := Bool.eq_false_iff.mpr c19
                  subst c19
                  have H1 : (some false) = some true := by rw [if_neg (show ¬ (false = true) by decide)] at H; exact H
                  clear H
                  have H := H1
                  clear H1
                  exact absurd H (by simp)
              · replace c18 := Bool.eq_false_iff.mpr c18
                subst c18
                have H1 : (some false) = some true := by rw [if_neg (show ¬ (false = true) by decide)] at H; exact H
                clear H
                have H := H1
                clear H1
                exact absurd H (by simp)
            · rw [if_neg c13] at H
              exact absurd H (by simp)
          · rw [if_neg c12] at H
            exact absurd H (by simp)
/-- THE ONE PURE STATEMENT of armadalaw13_B64Cut: yours. -/
def armadalaw13_B64Cut.Pure : Prop := ∀ (a0 : ByteArray) (a1 : Int), a0.size ≤ 140737488351232 → (Lit.int .i64 a1).wf = true → ∃ k, armadalaw13_B64Cut.f k a0 a1 = some true
end Go.Proofs.YtjmomhicemjilaaDoor.P
